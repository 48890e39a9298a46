/- Lemmas; each is under no condition but those that it states. -/
import Derived.Test.YtfjmkebdhojanaaGreatDoorPt31
namespace Go.Proofs.YtfjmkebdhojanaaGreatDoor
set_option linter.unusedSimpArgs false
set_option linter.unusedVariables false
set_option maxRecDepth 100000
set_option maxHeartbeats 16000000
section
open Go Go.RowKit
attribute [local go_sem] Oper.semAt_some
theorem jmR(w:vW)(p v:vB)(rs:vM)(hr:rs.length=16):vR 131 #[jad.V ⟨0,p,v,rs⟩] w (.string (jaQ ⟨0,p,v,rs⟩)):=by
 unfold jad.V;have J:(jad.cells ⟨0,p,v,rs⟩)[0]?=some (.int .i64 0):=rfl;rw[show jaQ ⟨0,p,v,rs⟩=jao ⟨#[]⟩from rfl]
 obtain⟨R,e⟩:=vE (jao ⟨#[]⟩)
 have A:=Hd (fun w1=>jeg w1 ⟨#[]⟩ vI);rw[<-e]at A ⊢;clear e;unfold vR vQ;go_in;go_wp2_with fail
 refine vH (A.o _) fun w1 E=>?_;have H:=Hd (((ExtR w).alloc _).trans E);go_wp2_with fail
 go_ret
 exact⟨rfl,H.o⟩
theorem jmQ(w:vW)(p v:vB)(rs:vM)(hr:rs.length=16)(hp:p.size<=12)(hv:v.size<=80)(hpv:jaB p=true):vR 131 #[jad.V ⟨1,p,v,rs⟩] w (.string (jaQ ⟨1,p,v,rs⟩)):=by
 have X:=jbn p true;have Z:=jaN (putB p true);have a4:=jaN v;have e0:(jad.cells ⟨1,p,v,rs⟩)[0]?=some (.int .i64 1):=rfl;have e1:(jad.cells ⟨1,p,v,rs⟩)[1]?=some (.string p):=rfl;have e2:(jad.cells ⟨1,p,v,rs⟩)[2]?=some (.string v):=rfl
 obtain⟨r0,e3⟩:∃ r0,(jad.cells ⟨1,p,v,rs⟩)[3]?=some (.string r0):=by
  cases rs with
  | nil=>cases hr
  | cons r0 rs=>exact⟨r0,rfl⟩
 unfold jad.V
 obtain⟨C,hC⟩:=vE (jad.cells ⟨1,p,v,rs⟩)
 have a5:C.length=19:=by rw[hC];exact jad.cells_len _ hr
 rw[<-hC]at e0 e1 e2 e3 ⊢;have HP:=Hd (fun w1=>jm5 w1 p true vO hpv)
 obtain⟨A,e⟩:=vE (putB p true)
 rw[<-e]at X Z HP;have HL:=Hd (show jaQ ⟨1,p,v,rs⟩=ja7 [jao A,jao v] by rw[e];rfl);have a0:=Hd (fun w1=>jeg w1 A vO);have a1:=Hd (fun w1=>jeg w1 v vO);have K:=Hd (show (catB [jao A,jao v]).size<=1000000 by rw[ja4,ja4,jcK];omega)
 obtain⟨t1,a2⟩:=vE (jao A)
 obtain⟨t2,a3⟩:=vE (jao v)
 rw[<-a2]at HL a0 K;rw[<-a3]at HL a1 K;rw[HL.o];clear X Z a4 hC a5 e a2 a3 hp hv hr;unfold vR vQ;go_in;go_wp2_with fail
 have E:=Blk.new w (.cells C.toArray 103)
 obtain⟨W0,O⟩:=vE (w.alloc (.cells C.toArray 103))
 have a6:=Hd (show Ext w W0 by rw[O];exact (ExtR w).alloc _);rw[<-O]at E ⊢
 obtain⟨g,hg⟩:=vE w.heap.size
 rw[<-hg]at E ⊢;have a7:=Hd E;have Q:=Hd (bB e0 (bB e2 e3));clear O hg E e0 e1 e2 e3;refine vC (HP.o W0) fun w1 H=>?_;have a8:=Hd (a6.o.trans H);have J:=a7.o.keeps H (fun h=>h);have q0:=J.cellL Q.o.1;have q2:=J.cellL Q.o.2.1;have q3:=J.cellL Q.o.2.2;clear H J;go_wp2_with fail
 refine vH (a1.o w1) fun w2 H=>?_;have a9:=Hd (a8.o.trans H);clear q0 q2 q3;go_wp2_with fail
 refine vH (a0.o w2) fun w3 H=>?_;have b0:=Hd (a9.o.trans H);go_wp2_with fail
 refine vH (jlf _ _ [t1,t2] (jb2 w3 [t1,t2] 9) (by simp) K.o) fun w4 H=>?_;have b1:=Hd (b0.o.trans (((ExtR w3).alloc _).trans H))
 obtain⟨R,hR⟩:=vE (ja7 [t1,t2])
 rw[<-hR];go_wp2_with fail
 go_ret
 exact⟨rfl,b1.o⟩
theorem joj(w:vW)(p v r0:vB)(rs:vM)(hp:p.size<=12)(hv:r0.size<=80)(hpv:jaB p=true):vR 131 #[jad.V ⟨2,p,v,r0 :: rs⟩] w (.string (jaQ ⟨2,p,v,r0 :: rs⟩)):=by
 have Q:=jbn p false;have X:=jaN (putB p false);have e0:(jad.cells ⟨2,p,v,r0 :: rs⟩)[0]?=some (.int .i64 2):=rfl;have e1:(jad.cells ⟨2,p,v,r0 :: rs⟩)[1]?=some (.string p):=rfl;have e2:(jad.cells ⟨2,p,v,r0 :: rs⟩)[2]?=some (.string v):=rfl;have e3:(jad.cells ⟨2,p,v,r0 :: rs⟩)[3]?=some (.string r0):=rfl;unfold jad.V
 obtain⟨C,hC⟩:=vE (jad.cells ⟨2,p,v,r0 :: rs⟩)
 rw[<-hC]at e0 e1 e2 e3 ⊢;have HP:=Hd (fun w1=>jm5 w1 p false vO hpv)
 obtain⟨A,e⟩:=vE (putB p false)
 rw[<-e]at Q X HP;have HL:=Hd (show jaQ ⟨2,p,v,r0 :: rs⟩=ja7 [jao A,r0] by rw[e];rfl);have Z:=Hd (fun w1=>jeg w1 A vO);have a0:=Hd (show (catB [jao A,r0]).size<=1000000 by rw[ja4,ja4,jcK];omega)
 obtain⟨t1,a1⟩:=vE (jao A)
 rw[<-a1]at HL Z a0;rw[HL.o];clear Q X hC e a1 hp hv;unfold vR vQ;go_in;go_wp2_with fail
 have E:=Blk.new w (.cells C.toArray 103)
 obtain⟨W0,J⟩:=vE (w.alloc (.cells C.toArray 103))
 have a2:=Hd (show Ext w W0 by rw[J];exact (ExtR w).alloc _);rw[<-J]at E ⊢
 obtain⟨g,hg⟩:=vE w.heap.size
 rw[<-hg]at E ⊢;have a3:=Hd E;have K:=Hd (bB e0 (bB e2 e3));clear J hg E e0 e1 e2 e3;refine vC (HP.o W0) fun w1 O=>?_;have a4:=Hd (a2.o.trans O);have H:=a3.o.keeps O (fun h=>h);have q0:=H.cellL K.o.1;have q2:=H.cellL K.o.2.1;have q3:=H.cellL K.o.2.2;clear O H;go_wp2_with fail
 refine vH (Z.o w1) fun w3 O=>?_;have a5:=Hd (a4.o.trans O);clear q0 q2 q3;go_wp2_with fail
 refine vH (jlf _ _ [t1,r0] (jb2 w3 [t1,r0] 9) (by simp) a0.o) fun w4 O=>?_;have a6:=Hd (a5.o.trans (((ExtR w3).alloc _).trans O))
 obtain⟨R,hR⟩:=vE (ja7 [t1,r0])
 rw[<-hR];go_wp2_with fail
 go_ret
 exact⟨rfl,a6.o⟩
theorem jiQ(v:vB)(rs:vM)(hr:rs.length=16):jaQ ⟨3,⟨#[]⟩,v,rs⟩=ja7 (ja3 rs v):=by
 show jec ⟨3,⟨#[]⟩,v,rs⟩=_;unfold jec;rw[jdD _ hr]
def itB(r:vB):vB:=if r.size=0 then jao ⟨#[]⟩else r
def Rb4R(W:vW)(rs:vM)(lv iv xv:vV)(wr:vW):Prop:=∃ k:Nat,k<=16/\iv=.int .i64 k/\ORow 9 1 W wr lv k (((rs.map itB).take k).map Value.string)
theorem jju(w:vW)(v:vB)(rs:vM)(hr:rs.length=16)(hv:v.size<=80)(hz:(catB (ja3 rs v)).size<=100000):vR 131 #[jad.V ⟨3,⟨#[]⟩,v,rs⟩] w (.string (jaQ ⟨3,⟨#[]⟩,v,rs⟩)):=by
 rw[jiQ v rs hr];have a3:=Hd hr;have HZ:=Hd hz;have a4:=Hd (show ja3 rs v=rs.map itB++[jao v]from rfl);have e0:(jad.cells ⟨3,⟨#[]⟩,v,rs⟩)[0]?=some (.int .i64 3):=rfl;have e2:(jad.cells ⟨3,⟨#[]⟩,v,rs⟩)[2]?=some (.string v):=rfl;have eR:∀ (k:Nat) x,rs[k]?=some x->(jad.cells ⟨3,⟨#[]⟩,v,rs⟩)[3+k]?=some (.string x):=fun k x hx=>by
  show (Value.int .i64 3 :: .string ⟨#[]⟩ :: .string v :: rs.map Value.string)[3+k]?=_;rw[show 3+k=k+1+1+1 by omega];simp[hx]
 unfold jad.V
 obtain⟨C,hC⟩:=vE (jad.cells ⟨3,⟨#[]⟩,v,rs⟩)
 rw[<-hC]at e0 e2 eR ⊢;have b2:=Hd (fun w1=>jeg w1 ⟨#[]⟩ vI);have a5:=Hd (fun w1=>jeg w1 v vO);have b3:=Hd eR;clear hC hr hv hz eR;unfold vR vQ;go_in;go_wp2_with fail
 have H:=Blk.new w (.cells C.toArray 103)
 obtain⟨J,Q⟩:=vE (w.alloc (.cells C.toArray 103))
 have b4:=Hd (show Ext w J by rw[Q];exact (ExtR w).alloc _);rw[<-Q]at H ⊢
 obtain⟨g,hg⟩:=vE w.heap.size
 rw[<-hg]at H ⊢;have a6:=Hd H;have b5:=Hd e2;clear Q hg H e0 e2;go_loopw [6,7,8] (fun lv iv xv wr=>Rb4R J rs lv iv xv wr) (fun _ iv _ _=>16 - (intOf iv).toNat)
 case atStart=>exact⟨0,by omega,rfl,ORow.nil _ _ (ExtR J)⟩
 case round =>
  obtain⟨k,hk,rfl,hR⟩:=hrel
  have HR:=Hd hR
  obtain⟨la,lc,rfl⟩:=hR.sl;clear hR
  by_cases hlt:k < 16
  ·have b1:(k:Int) < 16:=vO
   obtain⟨x,hx⟩:∃ x,rs[k]?=some x:=⟨_,bA (by have:=a3.o;omega)⟩
   have q1:wr.cell? ⟨g,3+k,none⟩=some (.string x):=(a6.o.keeps HR.o.ext (fun h=>h)).cellL (b3.o k x hx);have E:=Hd (show (rs.map itB).take (k+1)=(rs.map itB).take k++[itB x] by rw[bW,bX,hx];rfl);have a7:k+1<=maxLen:=by unfold maxLen;omega
   have a9:(k+1) * 16<=140737488355328:=vO
   clear hx
   by_cases hx0:x=⟨#[]⟩
   ·subst hx0
    rw[show itB ⟨#[]⟩=jao ⟨#[]⟩from rfl]at E
    obtain⟨t0,X⟩:=vE (jao ⟨#[]⟩)
    rw[<-X]at E;have b6:=Hd X;clear X;go_wp2_with fail
    refine vH (b2.o wr) fun w1 hE=>?_;have Z:=Hd (HR.o.mono hE);rw[<-b6.o];clear q1;go_wp2_with (at_builtin;refine jaO Tryz.sStrs (Z.o.mono ((ExtR w1).alloc _)) (.tmp 50) (.tmp 52) rfl rfl rfl (jaJ (Blk.new w1 _)) (news:=[.string t0]) (by intro u K;simp at K;subst K;rfl) rfl rfl a7 a9 ?_;intro v' w' O r2 r3)
    have A:ORow 9 1 J w' v' (k+1) (((rs.map itB).take (k+1)).map Value.string):=by rw[E.o,cB];exact O
    obtain⟨a8,c8,rfl⟩:=A.sl
    have a0:=Hd A;clear O r2 r3 A;go_wp2_with fail
    go_roundw
    case rel=>exact⟨k+1,by omega,by go_num,a0.o⟩
    case measure=>exact vJ
   ·have a1:x.size≠0:=fun e=>hx0 (jbo (bE e))
    have b9:x.toList.isEmpty=false:=by
     rw[bR];cases h:x.data.toList with
     | nil=>exact absurd (show x.size=0 by show x.data.toList.length=0;rw[h];rfl) a1
     | cons=>rfl
    rw[show itB x=x by unfold itB;rw[if_neg a1]]at E;clear hx0 a1;go_wp2_with (at_builtin;refine jaO Tryz.sStrs (HR.o.mono ((ExtR wr).alloc _)) (.tmp 50) (.tmp 52) rfl rfl rfl (jaJ (Blk.new wr _)) (news:=[.string x]) (by intro u K;simp at K;subst K;rfl) rfl rfl a7 a9 ?_;intro v' w' O r2 r3)
    have A:ORow 9 1 J w' v' (k+1) (((rs.map itB).take (k+1)).map Value.string):=by rw[E.o,cB];exact O
    obtain⟨a8,c8,rfl⟩:=A.sl
    have a0:=Hd A;clear O r2 r3 A;go_wp2_with fail
    go_roundw
    case rel=>exact⟨k+1,by omega,by go_num,a0.o⟩
    case measure=>exact vJ
  ·have a2:k=16:=vO
   subst a2;have b7:=Hd (show ORow 9 1 J wr (.slice la 16 lc) 16 ((rs.map itB).map Value.string) by
    have h:=HR.o
    rwa [bN (by rw[cC];have:=a3.o;omega)]at h)
   have q2:=(a6.o.keeps HR.o.ext (fun h=>h)).cellL b5.o;have b1:¬((16:Nat):Int) < 16:=vO
   obtain⟨tv,b0⟩:=vE (jao v)
   rw[<-b0]at a5 a4;clear HR b0;go_wp2_with fail
   refine vH (a5.o wr) fun w1 hE=>?_;have Z:=Hd (b7.o.mono hE);clear q2;go_wp2_with (at_builtin;refine jaO Tryz.sStrs (Z.o.mono ((ExtR w1).alloc _)) (.tmp 54) (.tmp 58) rfl rfl rfl (jaJ (Blk.new w1 _)) (news:=[.string tv]) (by intro u K;simp at K;subst K;rfl) rfl rfl vI vI ?_;intro v' w' O r2 r3)
   have HF:=Hd (show SRow J w' v' 17 (ja3 rs v) by
    rw[a4.o];show ORow 9 1 J w' v' 17 _;rw[cB];exact O)
   clear O r2 r3;refine vH (jlf w' v' (ja3 rs v) HF.o.rd (by have:=HF.o.len;simp at this;omega) (by have:=HZ.o;omega)) fun w4 hE=>?_;have b8:=Hd (b4.o.trans (HF.o.ext.trans hE))
   obtain⟨R,hR⟩:=vE (ja7 (ja3 rs v))
   rw[<-hR];go_wp2_with fail
   go_ret
   exact⟨rfl,b8.o⟩
end
section
open Go Go.RowKit
attribute [local go_sem] Oper.semAt_some
structure InlR(I:vB->jad->Prop):Prop where
 small:∀ r m,I r m->r.size < 32
 refs:∀ r m,I r m->m.refs.length=16
 inl:∀ r m,I r m->∀ w,vR 153 #[.string r] w (.tuple #[m.V,.bool true])
theorem ji5(w:vW)(r:vB)(hr:32<=r.size):vR 153 #[.string r] w (.tuple #[jaH.V,.bool false]):=by
 have K:(32:Int)<=(r.size:Int):=vO
 unfold vR vQ;go_in;go_wp2_with (first |(refine jaj Tryz.allocNode rfl rfl ?_;intro O o A) |(refine jah (vs:=jaH.cells) rfl rfl rfl rfl o vF Tryz.szNode jaH.one ?_;intro J E H))
 refine bodyPost_ret (jaF rfl rfl rfl (jaw J _ jaH rfl E)) rfl ?_
 exact⟨rfl,A.trans' H (fun x Q e=>by have e:x=w.heap.size:=e;omega)⟩
theorem jmZ(w:vW)(s:vB)(n:jad)(h1:n.refs.length=16)(hk:n.kind≠0)(hsm:s.size < 32)(hread:∀ w,vR 168 #[.string s] w (.tuple #[n.V,.bool true])):vR 153 #[.string s] w (.tuple #[n.V,.bool true]):=by
 have c1:¬(32:Int)<=(s.size:Int):=vO
 have c2:((n.kind:Int) == 0)=false:=by simp;omega
 have c3:¬(n.kind:Int)=0:=vO
 have A:=Hd hread;have H1:=Hd h1;have Z:=Hd (n.cells_len h1);clear h1 hk hread;unfold jad.V at A ⊢;unfold vR vQ;go_in;go_wp2_with (refine jaj Tryz.allocNode rfl rfl ?_;intro W1 E H)
 refine vC (A.o W1) fun w2 hE=>?_;have J:=E.keeps hE (fun h=>h);have a0:=Hd (H.trans hE);clear E H hE;go_wp2_with (first |(refine jaj Tryz.allocNode rfl rfl ?_;intro W3 a1 K;refine jah (vs:=n.cells) rfl rfl rfl rfl a1 (by rw[Z.o];rfl) (by rw[Z.o];exact Tryz.szNode) n.one ?_;intro W4 O Q;have q0:W4.cell? ⟨w2.heap.size,0,none⟩=some (.int .i64 (n.kind:Int)):=O.cellL vF;have X:=(J.keeps K (fun h=>h)).keeps Q (by have:=J.lt;omega)) |(refine jaf 103 (.tmp 4) rfl rfl _ _ rfl (jaq _ _ n H1.o O) ?_) |(refine jah (vs:=n.cells) rfl rfl rfl rfl X (by rw[Z.o];rfl) (by rw[Z.o];exact Tryz.szNode) n.one ?_;intro W8 a2 a3))
 refine bodyPost_ret (jaF rfl rfl rfl (jaw W8 _ n H1.o a2)) rfl ?_;have a4:Ext w2 W4:=K.trans' Q (fun x hx e=>by have e:x=w2.heap.size:=e;omega)
 exact⟨rfl,(a0.o.trans a4).trans' a3 (fun x hx e=>by have e:x=w.heap.size:=e;omega)⟩
section
variable {I:vB->jad->Prop} (HI:InlR I)
include HI
theorem jke(w:vW)(r:vB)(hr:MayP I r):vR 154 #[.string r] w (.bool true):=by
 rcases hr with⟨h,hs,rfl⟩ |⟨m,hm⟩
 ·have K:=Hd (fun w1=>jv7 w1 h hs)
  have Z:=Hd (fun w1=>ji5 w1 (jao h) (by rw[jwW hs,bV,hs];decide))
  obtain⟨t,ht⟩:=vE (jao h)
  rw[<-ht]at K Z ⊢;clear ht hs;unfold vR vQ;go_in;go_wp2_with fail
  refine (K.o w).mono ?_;rintro e w1 ⟨rfl,rfl⟩;go_wp2_with fail
  refine vH (Z.o w) fun O Q=>?_;unfold jad.V;go_wp2_with (first |(refine jaj Tryz.allocNode rfl rfl ?_;intro W3 A E;refine jah (vs:=jaH.cells) rfl rfl rfl rfl A rfl Tryz.szNode jaH.one ?_;intro W4 X H))
  go_ret
  exact⟨rfl,Q.o.trans (E.trans' H (fun x hx e=>by have e:x=O.heap.size:=e;omega))⟩
 ·have J:=HI.small r m hm
  have HM:=Hd (HI.inl r m hm);have HL:=Hd (m.cells_len (HI.refs r m hm));unfold jad.V at HM;have K:=Hd (fun w1=>jtL w1 r J);clear J hm;unfold vR vQ;go_in;go_wp2_with fail
  refine (K.o w).mono ?_;rintro e w1 ⟨rfl,rfl⟩;go_wp2_with fail
  refine vH (HM.o w) fun O Q=>?_;go_wp2_with (first |(refine jaj Tryz.allocNode rfl rfl ?_;intro W3 A E;refine jah (vs:=m.cells) rfl rfl rfl rfl A (by rw[HL.o];rfl) (by rw[HL.o];exact Tryz.szNode) m.one ?_;intro W4 X H))
  go_ret
  exact⟨rfl,Q.o.trans (E.trans' H (fun x hx e=>by have e:x=O.heap.size:=e;omega))⟩
end
end
