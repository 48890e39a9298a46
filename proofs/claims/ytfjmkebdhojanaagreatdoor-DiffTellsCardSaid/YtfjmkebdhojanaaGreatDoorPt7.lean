/- Lemmas; each is under no condition but those that it states. -/
import Derived.Test.YtfjmkebdhojanaaGreatDoorPt6
import Derived.Deep.MidRow
namespace Go.Proofs.YtfjmkebdhojanaaGreatDoor
set_option linter.unusedSimpArgs false
set_option linter.unusedVariables false
set_option maxRecDepth 100000
set_option maxHeartbeats 16000000
open Go Go.RowKit
def beW(a b c d:vU):UInt32:=a.toUInt32 <<< 24 ||| b.toUInt32 <<< 16 ||| c.toUInt32 <<< 8 ||| d.toUInt32
def je7(B:vN)(i:Nat):UInt32:=beW (B.getD (4 * i) 0) (B.getD (4 * i+1) 0) (B.getD (4 * i+2) 0) (B.getD (4 * i+3) 0)
def jd4(B:vN)(k:Nat):List UInt32:=(List.range k).map (je7 B)
def sig0(x:UInt32):UInt32:=xorW (xorW (rotW x 7) (rotW x 18)) (shrW x 3)
def sig1(x:UInt32):UInt32:=xorW (xorW (rotW x 17) (rotW x 19)) (shrW x 10)
def jjt(W:List UInt32):UInt32:=addW (addW (addW (W.getD (W.length - 16) 0) (sig0 (W.getD (W.length - 15) 0))) (W.getD (W.length - 7) 0)) (sig1 (W.getD (W.length - 2) 0))
def jhi(B:vN):Nat->List UInt32
 | 0=>jd4 B 16
 | j+1=>jhi B j++[jjt (jhi B j)]
theorem jcG(B:vN):∀ j,(jhi B j).length=16+j
 | 0=>by simp[jhi,jd4]
 | j+1=>by simp[jhi,jcG B j];omega
def ja6(B:vN):List UInt32:=jhi B 48
def jdO(W:List UInt32)(n:Nat):List vV:=W.map wv++List.replicate (n - W.length) (wv 0)
theorem jjG{W:List UInt32}{n:Nat}(h:W.length<=n):(jdO W n).length=n:=by simp[jdO];omega
theorem jjH{W:List UInt32}{n:Nat}(h:W.length < n)(x:UInt32):(jdO W n).set W.length (wv x)=jdO (W++[x]) n:=by
 unfold jdO;rw[fK _ _ (by simp),show n - W.length=(n - (W++[x]).length)+1 by simp;omega,fI]
 simp
theorem jfD{W:List UInt32}{n i:Nat}(h:i < W.length):(jdO W n)[i]?=some (wv (W.getD i 0)):=by
 unfold jdO;rw[cS (by simpa using h)];simp[h]
theorem jnO{W:List UInt32}{n:Nat}(h:W.length=n):jdO W n=W.map wv:=by simp[jdO,h]
theorem jzu(a b c d:vU):bits .or .u32 (bits .or .u32 (bits .or .u32 ((a.toNat:Int) % (4294967296:Int) * (16777216:Int) % (4294967296:Int)) ((b.toNat:Int) % (4294967296:Int) * (65536:Int) % (4294967296:Int))) ((c.toNat:Int) % (4294967296:Int) * (256:Int) % (4294967296:Int))) ((d.toNat:Int) % (4294967296:Int))=((beW a b c d).toNat:Int):=by
 have e:∀ (x:vU) (s:UInt32) (m:Nat),s.toNat < 32->m=2 ^ s.toNat->(x.toNat:Int) % (4294967296:Int) * (m:Int) % (4294967296:Int)=((x.toUInt32 <<< s).toNat:Int):=by
  intro x s m o A;rw[UInt32.toNat_shiftLeft,fT o,Nat.shiftLeft_eq,A];have h:=x.toNat_lt;rw[show (x.toNat:Int) % (4294967296:Int)=(x.toNat:Int) by omega]
  simp
 have E:(a.toNat:Int) % (4294967296:Int) * (16777216:Int) % (4294967296:Int)=((a.toUInt32 <<< 24).toNat:Int):=e a 24 16777216 vI vI;have H:(b.toNat:Int) % (4294967296:Int) * (65536:Int) % (4294967296:Int)=((b.toUInt32 <<< 16).toNat:Int):=e b 16 65536 vI vI;have J:(c.toNat:Int) % (4294967296:Int) * (256:Int) % (4294967296:Int)=((c.toUInt32 <<< 8).toNat:Int):=e c 8 256 vI vI;have K:(d.toNat:Int) % (4294967296:Int)=(d.toUInt32.toNat:Int):=by have:=d.toNat_lt;simp;omega
 rw[E,H,J,K,jgo,jgo,jgo];rfl
def jgZ(w:vW)(b o:Nat)(B:vN):Prop:=∀ (j:Nat) x,B[j]?=some x->w.cell? ⟨b,o+j,none⟩=some (.int .u8 (x.toNat:Int))
theorem jgZ.keeps{F:BSet}{w w':vW}{b o:Nat}{B:vN}(h:jgZ w b o B)(k:jae F w w')(hF:¬ F b):jgZ w' b o B:=fun j x E=>by
 have:=h j x E
 have A:=fS w _ this;have e:=k.block b A hF;unfold World.cell? at *;rw[e];exact this
theorem Tryz.uArr64:Tryz.prog.underlying 215=some (.array 64 119):=vY
theorem Tryz.iArr64:(Tryz.prog.info? 215).map (·.size)=some 64:=vY
theorem jty{w:vW}{b:Nat}{C:List vV}{T:TypeId}{fz:Nat × Nat}(h:Blk w b (.cells C.toArray T fz)):w.rangeAt b 0 C:=fun j v e=>by rw[cH];exact h.cellL e
theorem jlm{w:vW}{b:Nat}{C:List vV}{T:TypeId}(h:Blk w b (.cells C.toArray T)):w.there b 0 C.length:=fun j e=>by
 rw[cH];exact⟨by rw[h.cellL (bA e)];rfl,h.frozen⟩
theorem jun{W:List UInt32}:∀ v∈W.map wv,v.oneCell'=true:=fun v e=>by obtain⟨x,_,rfl⟩:=bK.1 e;rfl
def jA5(w:vW)(b g:Nat)(B:vN)(i:vV)(wr:vW):Prop:=∃ k:Nat,k<=16/\i=.int .i64 k/\Blk wr g (.cells (jdO (jd4 B k) 64).toArray 215)/\jae (fun x=>x=g) w wr
def jzj(w:vW)(g:Nat)(B:vN)(i:vV)(wr:vW):Prop:=∃ m:Nat,16<=m/\m<=64/\i=.int .i64 m/\Blk wr g (.cells (jdO (jhi B (m - 16)) 64).toArray 215)/\jae (fun x=>x=g) w wr
theorem jwm(w:vW)(b o:Nat)(B:vN)(hL:B.length=64)(hB:jgZ w b o B):vR 137 #[.slice (some ⟨b,o,none⟩) 64 64] w (.agg ((ja6 B).map wv).toArray):=by
 have HB:=Hd hB;have HL:=Hd hL;have g3:b < w.heap.size:=fS w _ (hB 0 (B[0]'(by omega)) (bA vO));have hX:∀ (p q:UInt32) (w:vW),(binOp .xor 119 (wv p) (wv q)).run Tryz.prog w=.ok (wv (xorW p q)) w:=fun _ _ _=>jlk;have hA:∀ (p q:UInt32) (w:vW),(binOp .add 119 (wv p) (wv q)).run Tryz.prog w=.ok (wv (addW p q)) w:=fun _ _ _=>jli;have g5:∀ (p:UInt32) (w:vW),(binOp .shr 119 (wv p) (.int .u64 3)).run Tryz.prog w=.ok (wv (shrW p 3)) w:=fun _ _=>jdd 3 vI .u64;have g4:∀ (p:UInt32) (w:vW),(binOp .shr 119 (wv p) (.int .u64 10)).run Tryz.prog w=.ok (wv (shrW p 10)) w:=fun _ _=>jdd 10 vI .u64;clear hB hL;unfold vR vQ;go_in;go_wp2_with fail
 obtain⟨W1,a8⟩:∃ W1,w.alloc (.cells (List.replicate 64 (wv 0)).toArray 215)=W1:=⟨_,rfl⟩
 obtain⟨W0,a9⟩:∃ W0,W1.alloc (.cells (List.replicate 64 (wv 0)).toArray 215)=W0:=⟨_,rfl⟩
 have d9:W1.heap.size=w.heap.size+1:=by rw[<-a8];simp
 have G2:Blk W0 w.heap.size (.cells (List.replicate 64 (wv 0)).toArray 215):=by rw[<-a9];refine Blk.alloc ?_ _;rw[<-a8];exact Blk.new w _
 have G3:Blk W0 (w.heap.size+1) (.cells (List.replicate 64 (wv 0)).toArray 215):=by rw[<-a9, <-d9];exact Blk.new W1 _
 have E0:Ext w W0:=by rw[<-a9, <-a8];exact ((ExtR w).alloc _).alloc _
 change Code.wp _ _ _ _ ((w.alloc (.cells (List.replicate 64 (wv 0)).toArray 215)).alloc (.cells (List.replicate 64 (wv 0)).toArray 215));rw[a8,a9];have f8:=Hd G2;have f9:=Hd G3;have e0:=Hd E0;clear a9 a8 d9 G2 G3 E0;go_loopw [11] (fun i wr=>jA5 W0 b (w.heap.size+1) B i wr) (fun i _=>16 - (intOf i).toNat)
 case atStart=>exact⟨0,by omega,rfl,f9.o,jae.refl _ _⟩
 case round =>
  obtain⟨k,hk,rfl,hG,hK⟩:=hrel
  have HG:=Hd hG;have HK:=Hd hK;clear hG hK
  by_cases hlt:k < 16
  ·have c1:(0:Int)<=4 * (k:Int):=vO
   have c2:4 * (k:Int)<=4 * (k:Int)+4:=vO
   have c3:4 * (k:Int)+4<=64:=vO
   have c4:(4 * (k:Int)).toNat=4 * k:=vO
   have c5:(4 * (k:Int)+4).toNat=4 * k+4:=vO
   have b0:jgZ wr b o B:=((HB.o.keeps e0.o (fun h=>h)).keeps HK.o vO);have q0:wr.cell? ⟨b,o+4 * k,none⟩=some (.int .u8 ((B.getD (4 * k) 0).toNat:Int)):=b0 (4 * k) _ (by rw[bA (by have:=HL.o;omega)];congr 1;simp[show 4 * k < B.length by have:=HL.o;omega]);have q1:wr.cell? ⟨b,o+4 * k+1,none⟩=some (.int .u8 ((B.getD (4 * k+1) 0).toNat:Int)):=b0 (4 * k+1) _ (by rw[bA (by have:=HL.o;omega)];congr 1;simp[show 4 * k+1 < B.length by have:=HL.o;omega]);have q2:wr.cell? ⟨b,o+4 * k+2,none⟩=some (.int .u8 ((B.getD (4 * k+2) 0).toNat:Int)):=b0 (4 * k+2) _ (by rw[bA (by have:=HL.o;omega)];congr 1;simp[show 4 * k+2 < B.length by have:=HL.o;omega]);have q3:wr.cell? ⟨b,o+4 * k+3,none⟩=some (.int .u8 ((B.getD (4 * k+3) 0).toNat:Int)):=b0 (4 * k+3) _ (by rw[bA (by have:=HL.o;omega)];congr 1;simp[show 4 * k+3 < B.length by have:=HL.o;omega]);have b9:=Hd q0;have c0:=Hd q1;have c6:=Hd q2;have c7:=Hd q3;clear q0 q1 q2 q3 b0
   obtain⟨x0,c8⟩:=vE (B.getD (4 * k) 0)
   obtain⟨x1,c9⟩:=vE (B.getD (4 * k+1) 0)
   obtain⟨x2,Q⟩:=vE (B.getD (4 * k+2) 0)
   obtain⟨x3,d0⟩:=vE (B.getD (4 * k+3) 0)
   rw[<-c8]at b9;rw[<-c9]at c0;rw[<-Q]at c6;rw[<-d0]at c7;have HW:=Hd (show je7 B k=beW x0 x1 x2 x3 by rw[c8,c9,Q,d0];rfl);clear c8 c9 Q d0;go_wp2_with fail
   refine jay [0,1,2,3,4,5,6,7,8,9,10,11,12,13,14,15,16,17,18,19,20,21,22,23,24] [24] Ext ExtR ExtT vY vY vY ?_;iterate 3 refine vP ?_
   refine qL ⟨b,o+4 * k,none⟩ _ rfl (fun w1 X=>jab Tryz.uU8 rfl (jaa (by exact b9.o) X)) ?_;refine vS ?_;iterate 4 refine vP ?_
   refine qL ⟨b,o+4 * k+1,none⟩ _ rfl (fun w1 X=>jab Tryz.uU8 rfl (jaa (by exact c0.o) X)) ?_;refine vS ?_;iterate 5 refine vP ?_
   refine qL ⟨b,o+4 * k+2,none⟩ _ rfl (fun w1 X=>jab Tryz.uU8 rfl (jaa (by exact c6.o) X)) ?_;refine vS ?_;iterate 5 refine vP ?_
   refine qL ⟨b,o+4 * k+3,none⟩ _ rfl (fun w1 X=>jab Tryz.uU8 rfl (jaa (by exact c7.o) X)) ?_;refine vS ?_;iterate 3 refine vP ?_
   have e1:=jzu x0 x1 x2 x3;rw[<-HW.o]at e1;refine qH _ rfl (fun w1 H K hK=>?_);have G1:=HG.o.keeps ((jai wr).trans H) (fun h=>h);have K1:=HK.o.trans' ((jai wr).trans H) (fun _ _ h=>h.elim);have hl:(jd4 B k).length=k:=by simp[jd4]
   obtain⟨old,q1⟩:∃ v,w1.cell? ⟨w.heap.size+1,k,none⟩=some v:=⟨_,G1.cellL (bA (by rw[jjG vO];omega))⟩
   have q2:w1.frozen? ⟨w.heap.size+1,k,none⟩=false:=G1.frozen;have G2:=G1.set_same (i:=k) (wv (je7 B k));have A:=jjH (W:=jd4 B k) (n:=64) vO (je7 B k);rw[hl]at A;have b1:jd4 B k++[je7 B k]=jd4 B (k+1):=by simp[jd4,fR]
   rw[b1]at A;rw[show ((jdO (jd4 B k) 64).toArray.setIfInBounds k (wv (je7 B k)))=(jdO (jd4 B (k+1)) 64).toArray by rw[<-A];simp]at G2;have E:=Hd G2;have Z:=Hd (K1.setCell (p:=⟨w.heap.size+1,k,none⟩) (.inl rfl) (wv (je7 B k)));clear G1 K1 H hl G2 A b1 HG HK HW b9 c0 c6 c7;go_simp;refine hK _ _ ?_;clear hK K q1 q2;refine qE (fun w2 H=>?_);have d1:=Hd (E.o.keeps H (fun h=>h));have d2:=Hd (Z.o.trans' H (fun _ _ h=>h.elim));clear H E Z e1;go_wp2_with fail
   go_roundw
   case rel=>exact⟨k+1,by omega,by go_num,d1.o,d2.o⟩
   case measure=>exact vJ
  ·have d6:k=16:=vO
   subst d6;have e2:=Hd (f8.o.keeps HK.o vO);go_wp2_with fail
   obtain⟨W2,rfl⟩:=vE wr
   rw[show ((16:Nat):Int)=(16:Int)from rfl];go_loopw [6] (fun i wr=>jzj W2 (w.heap.size+1) B i wr) (fun i _=>64 - (intOf i).toNat)
   case atStart=>exact⟨16,by omega,by omega,rfl,HG.o,jae.refl _ _⟩
   case round =>
    obtain⟨m,g6,g8,rfl,hG,hK⟩:=hrel
    have O:=Hd hG;have b2:=Hd hK;clear hG hK HG
    by_cases hlt:m < 64
    ·have e3:=jcG B (m - 16)
     obtain⟨a5,b4⟩:∃ a,a=m - 15:=⟨_,rfl⟩
     obtain⟨a2,e4⟩:∃ a,a=m - 2:=⟨_,rfl⟩
     obtain⟨a6,b5⟩:∃ a,a=m - 16:=⟨_,rfl⟩
     obtain⟨a7,e5⟩:∃ a,a=m - 7:=⟨_,rfl⟩
     have g9:(m:Int) - 15=(a5:Int):=vO
     have f2:(m:Int) - 2=(a2:Int):=vO
     have h0:(m:Int) - 16=(a6:Int):=vO
     have f7:(m:Int) - 7=(a7:Int):=vO
     have h2:a5 < 64:=vO
     have l2:a2 < 64:=vO
     have h3:a6 < 64:=vO
     have l7:a7 < 64:=vO
     have b7:=O.o.cellL (i:=a5) (jfD (n:=64) vO);have g2:=O.o.cellL (i:=a2) (jfD (n:=64) vO);have b8:=O.o.cellL (i:=a6) (jfD (n:=64) vO);have g7:=O.o.cellL (i:=a7) (jfD (n:=64) vO)
     obtain⟨J,d3⟩:=vE (jhi B (m - 16))
     have e6:=Hd d3;rw[<-d3]at b7 g2 b8 g7 e3;have a1:J.length=m:=vO
     have d4:jjt J=addW (addW (addW (J.getD a6 0) (sig0 (J.getD a5 0))) (J.getD a7 0)) (sig1 (J.getD a2 0)):=by
      unfold jjt;rw[a1, <-b5, <-b4, <-e5, <-e4]
     obtain⟨e7,a3⟩:∃ x,x=J.getD a5 0:=⟨_,rfl⟩
     obtain⟨x2,Q⟩:∃ x,x=J.getD a2 0:=⟨_,rfl⟩
     obtain⟨h4,a4⟩:∃ x,x=J.getD a6 0:=⟨_,rfl⟩
     obtain⟨x7,d5⟩:∃ x,x=J.getD a7 0:=⟨_,rfl⟩
     rw[<-a3]at b7;rw[<-Q]at g2;rw[<-a4]at b8;rw[<-d5]at g7;rw[<-a3, <-Q, <-a4, <-d5]at d4;have e8:=Hd d4;have d7:=Hd a1;have e9:=Hd b7;have H2:=Hd g2;have f0:=Hd b8;have H7:=Hd g7;clear a3 Q a4 d5 d4 a1 b7 g2 b8 g7 b4 e4 b5 e5 e3 d3;go_wp2_with fail
     refine jay [0,1,2,3,4,5,6,7,8,9] [] Ext ExtR ExtT vY vY vY ?_;iterate 3 refine vP ?_
     refine qL ⟨w.heap.size+1,a5,none⟩ _ rfl (fun w1 X=>jab Tryz.uU32 rfl (jaa (by exact e9.o) X)) ?_;refine vS ?_;iterate 3 refine vP ?_
     refine qL ⟨w.heap.size+1,a2,none⟩ _ rfl (fun w1 X=>jab Tryz.uU32 rfl (jaa (by exact H2.o) X)) ?_;refine vS ?_;iterate 2 refine vP ?_
     refine qE (fun w3 H=>?_);have X1:=Hd ((jai wr).trans H);clear H;go_wp2_with fail
     refine (jAs w3 e7).mono ?_;rintro e w4 ⟨rfl,rfl⟩;go_wp2_with fail
     refine (jyn w3 e7).mono ?_;rintro e w4 ⟨rfl,rfl⟩;go_wp2_with fail
     refine (jym w3 x2).mono ?_;rintro e w4 ⟨rfl,rfl⟩;go_wp2_with fail
     refine (jyo w3 x2).mono ?_;rintro e w4 ⟨rfl,rfl⟩;go_wp2_with fail
     have b6:=Hd (jaa f0.o X1.o);have f1:=Hd (jaa H7.o X1.o);have f3:=Hd (O.o.keeps X1.o (fun h=>h));have f4:=Hd (b2.o.trans' X1.o (fun _ _ h=>h.elim));clear f0 H7 O b2 X1 e9 H2;refine jay [0,1,2,3,4,5,6,7,8,9,10,11,12,13,14,15] [15] Ext ExtR ExtT vY vY vY ?_;iterate 4 refine vP ?_
     refine qL ⟨w.heap.size+1,a6,none⟩ _ rfl (fun w1 X=>jab Tryz.uU32 rfl (jaa (by exact b6.o) X)) ?_;refine vS ?_;iterate 5 refine vP ?_
     refine qL ⟨w.heap.size+1,a7,none⟩ _ rfl (fun w1 X=>jab Tryz.uU32 rfl (jaa (by exact f1.o) X)) ?_;refine vS ?_;iterate 4 refine vP ?_
     refine qH _ rfl (fun w1 H K hK=>?_);have G1:=f3.o.keeps ((jai w3).trans H) (fun h=>h);have K1:=f4.o.trans' ((jai w3).trans H) (fun _ _ h=>h.elim);have hl:=d7.o;rw[<-e6.o]at G1
     obtain⟨old,q1⟩:∃ v,w1.cell? ⟨w.heap.size+1,m,none⟩=some v:=⟨_,G1.cellL (bA (by rw[jjG vO];omega))⟩
     have q2:w1.frozen? ⟨w.heap.size+1,m,none⟩=false:=G1.frozen;have G2:=G1.set_same (i:=m) (wv (jjt J));have A:=jjH (W:=J) (n:=64) vO (jjt J);rw[hl]at A;have b1:J++[jjt J]=jhi B (m+1 - 16):=by
      rw[show m+1 - 16=(m - 16)+1 by omega];simp only[jhi];rw[<-e6.o]
     rw[b1]at A;rw[show ((jdO J 64).toArray.setIfInBounds m (wv (jjt J)))=(jdO (jhi B (m+1 - 16)) 64).toArray by rw[<-A];simp]at G2;have K2:=K1.setCell (p:=⟨w.heap.size+1,m,none⟩) (.inl rfl) (wv (jjt J));rw[e8.o]at G2 K2;have E:=Hd G2;have Z:=Hd K2;clear G1 K1 H hl G2 A b1 K2 f3 f4 b6 f1 e8;unfold sig0 sig1 at E Z;refine jia _ _ _ rfl rfl rfl rfl Tryz.iU32 q1 q2 (hK _ _ ?_);clear hK K q1 q2;refine qE (fun w2 H=>?_);have d1:=Hd (E.o.keeps H (fun h=>h));have d2:=Hd (Z.o.trans' H (fun _ _ h=>h.elim));clear H E Z;go_wp2_with fail
     go_roundw
     case rel=>exact⟨m+1,by omega,by omega,by go_num,d1.o,d2.o⟩
     case measure=>exact vJ
    ·have d8:m=64:=vO
     subst d8;have a0:=jnO (W:=ja6 B) (n:=64) (by unfold ja6;rw[jcG]);have g0:Hid (Blk wr (w.heap.size+1) (.cells ((ja6 B).map wv).toArray 215)):=Hd (by rw[<-a0];exact O.o);have f5:=Hd (e2.o.keeps b2.o vO);have HX:=Hd ((e0.o.trans' HK.o (G:=fun x=>x=w.heap.size+1) (fun x hx e=>by omega)).trans' b2.o (fun x hx e=>by omega));clear a0 O b2 HK e2;have f6:((ja6 B).map wv).length=64:=by simp[ja6,jcG]
     have b3:=Hd f6;clear f6;go_wp2_with (first |(refine wpList_load_mid rfl 215 (.tmp 3) rfl (w.heap.size+1) 0 rfl ((ja6 B).map wv) (.array 64 119) (jty g0.o) Tryz.uArr64 rfl (by rw[b3.o];exact Tryz.iArr64) ?_) |(refine wpList_store_mid rfl 215 (.tmp 2) (.tmp 92) rfl w.heap.size 0 ((ja6 B).map wv).toArray rfl rfl (by have:=jlm f5.o;simpa [ja6,jcG]using this) (by simp only[dK];rw[b3.o];exact Tryz.iArr64) (all_oneCell_toArray jun) ?_))
     have hb:Blk (wr.setCells w.heap.size 0 ((ja6 B).map wv)) w.heap.size (.cells ((ja6 B).map wv).toArray 215):=by
      have:=Blk.setCells ((ja6 B).map wv) 0 wr (List.replicate 64 (wv 0)) f5.o (by rw[b3.o];simp)
      simpa [b3.o]using this
     have hx:=HX.o.trans' (jae.oneSetCells w.heap.size ((ja6 B).map wv) 0 wr) (fun x hx e=>by omega);have g1:=run_loadVar_mid (P:=Tryz.prog) _ w.heap.size 0 215 _ _ (jty hb) Tryz.uArr64 rfl (by rw[b3.o];exact Tryz.iArr64);exact bodyPost_ret (v:=.agg ((ja6 B).map wv).toArray) (jbJ (t:=2) (ty:=215) rfl rfl g1) rfl ⟨rfl,hx⟩
theorem Tryz.enterRight(args:Array vV)(w:vW):(callFunc 138 args).run Tryz.prog w=.ok (.enter 138 args) w:=vY
theorem jat{P:Program}{a:Act}{w:vW}{d:Option Tmp}{f:FuncId}{args:Array Operand}{ats:Array TypeId}{ty:TypeId}{pos:String}{af:Array Edge}{g:Option (Nat × Bool)}{vs:Array vV}(eg:∀ args w,(callFunc f args).run P w=.ok (.enter f args) w)(hv:args.map a.eval=vs) :
  (execOp a.eval ⟨d,.call { callee:=.value (.func f),args:=args,argTypes:=ats },ty,pos,af,g⟩).run P w=.ok (.enter f vs) w:=by
 subst hv;simp[execOp,resolve,Deferred.ofValue,invoke,Act.eval,cA,Result.andThen,cO,eg]
theorem jl6{P:Program}{a:Act}{w w':vW}{v:vV}{d:Option Tmp}{args:Array Operand}{ats:Array TypeId}{ty:TypeId}{pos:String}{af:Array Edge}{g:Option (Nat × Bool)}{vs:Array vV}(h:(Builtin.copy_ ats ty vs).run P w=.ok v w')(hv:args.map a.eval=vs) :
  (execOp a.eval ⟨d,.call { callee:=.builtin .copy,args:=args,argTypes:=ats },ty,pos,af,g⟩).run P w=.ok (.value v) w':=by
 subst hv;simp[execOp,resolve,invoke,Go.builtin,Act.eval,cA,Result.andThen,cO,h]
theorem jhO(b j:Nat):(⟨b,0,none⟩:Addr).add j=⟨b,j,none⟩:=by unfold Addr.add;split <;> simp_all
theorem jx0{P:Program}{l:List Oper}{hd:List Nat}{E:vW->vW->Prop}{Q:Act->vW->Prop}{ord done:List Nat}{a:Act}{w:vW}{k:Nat}(o:Oper)(v:vV)(ho:l[k]?=some o)(hk:jhF l hd done k=true)(hw:Region.wanted o (yielded l.toArray a.tmps)=true)
  (hv:∀ w1,(execOp a.eval o).run P w1=.ok (.value v) w1) (h:Mix P l hd E Q ord (k :: done) (a.put o.dst v) w):Mix P l hd E Q (k :: ord) done a w:=by
 simp only[jhF,cY,dC,iF,joN]at hk;have e:∀ w' A,execOp A.eval o=execOp a.eval o->Region.wanted o (yielded l.toArray A.tmps)=Region.wanted o (yielded l.toArray a.tmps)->jbO P l.toArray E w' o v A:=
  fun w' A H J=>.inl ⟨J.trans hw,fun w1 _=>by rw[H,hv w1];exact⟨rfl,rfl⟩⟩
 exact .inl ⟨hk.1.1,hk.1.2,hk.2,o,v,ho,e w a rfl rfl,.inr e,h⟩
theorem qA{P:Program}{l:List Oper}{hd:List Nat}{E:vW->vW->Prop}{Q:Act->vW->Prop}{ord done:List Nat}{a:Act}{w:vW}{k:Nat}(o:Oper)(v:vV)(ho:l[k]?=some o)(hv:∀ w1,(execOp a.eval o).run P w1=.ok (.value v) w1)(h:Mix P l hd E Q ord (k :: done) (a.put o.dst v) w)(hk:jhF l hd done k=true:=by kernel_rfl)(hw:Region.wanted o (yielded l.toArray a.tmps)=true:=by rfl):Mix P l hd E Q (k :: ord) done a w:=jx0 o v ho hk hw hv h
theorem jkf{P:Program}{w:vW}{b i:Nat}{v old:vV}(hv:v.oneCell'=true)(hc:w.cell? ⟨b,i,none⟩=some old)(hf:w.frozen? ⟨b,i,none⟩=false):(storeCells ⟨b,i,none⟩ [v]).run P w=.ok () (w.setCell ⟨b,i,none⟩ v):=by
 rw[jnd,run_store P w _ v _ hv,hc,hf];rfl
theorem jaj{P:Program}{ops:Array Oper}{rest:List Oper}{o:Oper}{a:Act}{w:vW}{Q:Exit->Act->vW->Prop}{T:TypeId}{cs:List vV}(hrun:∀ w,(Instr.alloc T true (.tuple #[])).run P w=.ok (.pointer (some ⟨w.heap.size,0,none⟩)) (w.alloc (.cells cs.toArray T)))(hgd:o.guard=none)(ho:o.op=.alloc T)
  (h:∀ W,Blk W w.heap.size (.cells cs.toArray T)->Ext w W->wpList P ops Q rest (a.put o.dst (.pointer (some ⟨w.heap.size,0,none⟩))) W):wpList P ops Q (o :: rest) a w:=
 wpList_plain hgd fun K e=>jcd (v:=.pointer (some ⟨w.heap.size,0,none⟩)) (w':=w.alloc (.cells cs.toArray T)) (by simp only[execOp,ho,cA,hrun,Result.andThen,cO]) (e _ _ (h _ (Blk.new w _) ((ExtR w).alloc _)))
theorem jlv{P:Program}{ops:Array Oper}{rest:List Oper}{o:Oper}{a:Act}{w:vW}{Q:Exit->Act->vW->Prop}{t:TypeId}{x y:Operand}(hgd:o.guard=none)(b i:Nat)(v:vV)(ho:o.op=.store t x y)(hx:a.eval x=.pointer (some ⟨b,i,none⟩))(hy:a.eval y=v)(hv:v.oneCell'=true)
  (hi:(P.info? t).map (·.size)=some 1) {old:vV} (hc:w.cell? ⟨b,i,none⟩=some old) (hf:w.frozen? ⟨b,i,none⟩=false) (h:∀ W,W=w.setCell ⟨b,i,none⟩ v->wpList P ops Q rest (a.put o.dst undef) W):wpList P ops Q (o :: rest) a w:=
 jnq hgd b i v ho hx hy hv hi hc hf (h _ rfl)
theorem jah{P:Program}{ops:Array Oper}{rest:List Oper}{o:Oper}{a:Act}{w:vW}{Q:Exit->Act->vW->Prop}{T T2:TypeId}{x y:Operand}{b:Nat}{old vs:List vV}(hgd:o.guard=none)(ho:o.op=.store T x y)(hx:a.eval x=.pointer (some ⟨b,0,none⟩))(hy:a.eval y=.agg vs.toArray)
  (hB:Blk w b (.cells old.toArray T2)) (hl:old.length=vs.length) (hi:(P.info? T).map (·.size)=some vs.length) (h1:∀ v∈vs,v.oneCell'=true)
  (h:∀ W,Blk W b (.cells vs.toArray T2)->jae (fun z=>z=b) w W->wpList P ops Q rest (a.put o.dst undef) W):wpList P ops Q (o :: rest) a w:=by
 refine wpList_store_mid hgd T x y ho b 0 vs.toArray hx hy (by have:=jlm hB;rw[hl]at this;simpa using this) (by simpa using hi) (all_oneCell_toArray h1) (h _ ?_ (jae.oneSetCells b vs 0 w))
 have:=Blk.setCells vs 0 w old hB vO
 rw[gG vO]at this;simpa using this
structure W8 where
 a:UInt32
 b:UInt32
 c:UInt32
 d:UInt32
 e:UInt32
 f:UInt32
 g:UInt32
 h:UInt32
def W8.cells(v:W8):List vV:=[wv v.a,wv v.b,wv v.c,wv v.d,wv v.e,wv v.f,wv v.g,wv v.h]
def W8.words(v:W8):List UInt32:=[v.a,v.b,v.c,v.d,v.e,v.f,v.g,v.h]
def je8(V U:List UInt32)(k:Nat):List UInt32:=(List.zipWith addW V U).take k++V.drop k
theorem jlH{V U:List UInt32}(h:V.length=U.length)(k:Nat):(je8 V U k).length=V.length:=by simp[je8];omega
theorem jlG{V U:List UInt32}{k:Nat}(h:V.length=U.length)(hk:k < V.length):(je8 V U k)[k]?=V[k]?:=by
 unfold je8;rw[cQ (by simp;omega)];simp only[cI,List.length_zipWith,List.getElem?_drop]
 congr 1;omega
theorem jlI{V U:List UInt32}{k:Nat}(h:V.length=U.length)(hk:k < V.length):(je8 V U k).set k (addW (V[k]'hk) (U[k]'(h ▸ hk)))=je8 V U (k+1):=by
 apply List.ext_getElem?;intro i;rw[List.getElem?_set];have e:=jlH h k;unfold je8 at *
 by_cases hi:k=i
 ·subst hi
  rw[if_pos rfl,if_pos vO,cS (by simp;omega),List.getElem?_take_of_lt vO,bA (by simp;omega)]
  simp
 ·rw[if_neg hi]
  by_cases hlt:i < k
  ·rw[cS (by simp;omega),cS (by simp;omega),List.getElem?_take_of_lt hlt,List.getElem?_take_of_lt vO]
  ·rw[cQ (by simp;omega),cQ (by simp;omega)]
   simp only[cI,List.length_zipWith,List.getElem?_drop]
   congr 1
   omega
def W8.add(v u:W8):W8:=⟨addW v.a u.a,addW v.b u.b,addW v.c u.c,addW v.d u.d,addW v.e u.e,addW v.f u.f,addW v.g u.g,addW v.h u.h⟩
theorem jlF(v u:W8):je8 v.words u.words 8=(v.add u).words:=rfl
theorem W8.cells_words(v:W8):v.cells=v.words.map wv:=rfl
def tOne(v:W8)(k x:UInt32):UInt32:=addW (addW (addW (addW v.h (xorW (xorW (rotW v.e 6) (rotW v.e 11)) (rotW v.e 25))) (xorW (andW v.e v.f) (andW (notW v.e) v.g))) k) x
def tTwo(v:W8):UInt32:=addW (xorW (xorW (rotW v.a 2) (rotW v.a 13)) (rotW v.a 22)) (xorW (xorW (andW v.a v.b) (andW v.a v.c)) (andW v.b v.c))
def jm3(v:W8)(k x:UInt32):W8:=⟨addW (tOne v k x) (tTwo v),v.a,v.b,v.c,addW v.d (tOne v k x),v.e,v.f,v.g⟩
def je2:List UInt32:=[0x428a2f98,0x71374491,0xb5c0fbcf,0xe9b5dba5,0x3956c25b,0x59f111f1,0x923f82a4,0xab1c5ed5,0xd807aa98,0x12835b01,0x243185be,0x550c7dc3,0x72be5d74,0x80deb1fe,0x9bdc06a7,0xc19bf174,
 0xe49b69c1,0xefbe4786,0x0fc19dc6,0x240ca1cc,0x2de92c6f,0x4a7484aa,0x5cb0a9dc,0x76f988da,0x983e5152,0xa831c66d,0xb00327c8,0xbf597fc7,0xc6e00bf3,0xd5a79147,0x06ca6351,0x14292967,
 0x27b70a85,0x2e1b2138,0x4d2c6dfc,0x53380d13,0x650a7354,0x766a0abb,0x81c2c92e,0x92722c85,0xa2bfe8a1,0xa81a664b,0xc24b8b70,0xc76c51a3,0xd192e819,0xd6990624,0xf40e3585,0x106aa070,
 0x19a4c116,0x1e376c08,0x2748774c,0x34b0bcb5,0x391c0cb3,0x4ed8aa4a,0x5b9cca4f,0x682e6ff3,0x748f82ee,0x78a5636f,0x84c87814,0x8cc70208,0x90befffa,0xa4506ceb,0xbef9a3f7,0xc67178f2]
def jb0(w:vW):Prop:=∀ i,i < 64->w.cell? ⟨0,i,none⟩=some (wv (je2.getD i 0))
theorem jb0.lt{w:vW}(h:jb0 w):0 < w.heap.size:=fS w _ (h 0 vI)
theorem jb0.keeps{F:BSet}{w w':vW}(h:jb0 w)(k:jae F w w')(hF:¬ F 0):jb0 w':=fun i o=>by
 have:=h i o
 have e:=k.block _ h.lt hF;unfold World.cell? at *;rw[e];exact this
theorem jb0.ext{w w':vW}(h:jb0 w)(k:Ext w w'):jb0 w':=h.keeps k (fun h=>h)
def jdY(Wd:List UInt32)(v:W8):Nat->W8
 | 0=>v
 | k+1=>jm3 (jdY Wd v k) (je2.getD k 0) (Wd.getD k 0)
theorem Tryz.uArr8:Tryz.prog.underlying 195=some (.array 8 119):=vY
theorem Tryz.iArr8:(Tryz.prog.info? 195).map (·.size)=some 8:=vY
theorem Tryz.uSlU32:Tryz.prog.underlying 115=some (.slice 119):=vY
theorem Tryz.newArr64(w:vW):(Instr.alloc 215 true (.tuple #[])).run Tryz.prog w=.ok (.pointer (some ⟨w.heap.size,0,none⟩)) (w.alloc (.cells (List.replicate 64 (wv 0)).toArray 215)):=vY
theorem Tryz.newArr8(w:vW):(Instr.alloc 195 true (.tuple #[])).run Tryz.prog w=.ok (.pointer (some ⟨w.heap.size,0,none⟩)) (w.alloc (.cells (List.replicate 8 (wv 0)).toArray 195)):=vY
def mixW(V:W8)(B:vN):W8:=V.add (jdY (ja6 B) V 64)
def jaR(ws:List UInt32)(B:vN)(n sz:Int):List vV:=ws.map wv++jaK B++[Value.int .i64 n,Value.int .u64 sz]
theorem jjr{ws:List UInt32}{B:vN}{n sz:Int}{k:Nat}{x:UInt32}(h:ws[k]?=some x):(jaR ws B n sz)[k]?=some (wv x):=by
 have:=(bP.1 h).1
 unfold jaR;rw[cE,cS (by simpa using this)];simp[h]
theorem jkL{ws:List UInt32}{B:vN}{n sz:Int}{k:Nat}(h:k < ws.length)(x:UInt32):(jaR ws B n sz).toArray.setIfInBounds k (wv x)=(jaR (ws.set k x) B n sz).toArray:=by
 unfold jaR;simp only[gH,cE];rw[List.set_append_left _ _ (by simpa using h),iB]
def jyL(w:vW)(bh:Nat)(V U:List UInt32)(B:vN)(n sz:Int)(i:vV)(wr:vW):Prop:=∃ k:Nat,k<=8/\i=.int .i64 k/\Blk wr bh (.cells (jaR (je8 V U k) B n sz).toArray 198)/\jae (fun x=>x=bh) w wr
def jxc(w:vW)(g5:Nat)(v:W8)(w':vW):Prop:=Blk w' g5 (.cells v.cells.toArray 195)/\jae (fun x=>x=g5) w w'
def jy7(w:vW)(g5:Nat)(Wd:List UInt32)(v:W8)(i:vV)(wr:vW):Prop:=∃ k:Nat,k<=64/\i=.int .i64 k/\jxc w g5 (jdY Wd v k) wr
theorem jBw(w:vW)(bh:Nat)(V:W8)(B:vN)(n sz:Int)(hL:B.length=64)(hB:Blk w bh (.cells (jaR V.words B n sz).toArray 198))(hc:jb0 w)(hbh:bh≠0) :
  vQ 112 #[.pointer (some ⟨bh,0,none⟩),.slice (some ⟨bh,8,none⟩) 64 64] w fun e w'=>e=.returned (.tuple #[])/\Blk w' bh (.cells (jaR (mixW V B).words B n sz).toArray 198)/\jae (fun x=>x=bh) w w':=by
 have HB:=Hd hB;have HC:=Hd hc;have c9:jgZ w bh 8 B:=fun j x hx=>hB.cellL (by
  have hj:=(bP.1 hx).1;unfold jaR;rw[cE,cQ (by simp[W8.words]),cS (by simp[W8.words];omega)];simp[W8.words,jaK,hx])
 have hX:∀ (p q:UInt32) (w:vW),(binOp .xor 119 (wv p) (wv q)).run Tryz.prog w=.ok (wv (xorW p q)) w:=fun _ _ _=>jlk;have hA:∀ (p q:UInt32) (w:vW),(binOp .add 119 (wv p) (wv q)).run Tryz.prog w=.ok (wv (addW p q)) w:=fun _ _ _=>jli;have hN:∀ (p q:UInt32) (w:vW),(binOp .and 119 (wv p) (wv q)).run Tryz.prog w=.ok (wv (andW p q)) w:=fun _ _ _=>jpR;have hU:∀ (p:UInt32) (w:vW),(Op.unary .xor (wv p)).run Tryz.prog w=.ok (wv (notW p)) w:=fun _ _=>jpT;have d0:=Hd c9;have HL:=Hd hL;clear hB hc c9 hL;go_enter Tryz.func112,Tryz.ntmps112;go_wp2_with fail
 refine vC (jwm w bh 8 B HL.o d0.o) fun w1 hE=>?_;have HE:=Hd hE;have b2:=Hd (HB.o.keeps hE (fun h=>h));clear hE;have d1:((ja6 B).map wv).length=64:=by simp[ja6,jcG]
 have b3:=Hd d1;clear d1;go_wp2_with (refine jaj (cs:=List.replicate 64 (wv 0)) Tryz.newArr64 rfl rfl ?_)
 intro W4 B4 E4;refine jah (old:=List.replicate 64 (wv 0)) (vs:=(ja6 B).map wv) rfl rfl rfl rfl B4 (by rw[b3.o];rfl) (by rw[b3.o];exact Tryz.iArr64) jun ?_;intro W5 B5 K5;have X5:Ext w1 W5:=(E4.trans' K5 (fun x hx e=>by omega))
 obtain⟨g4,a9⟩:=vE w1.heap.size
 have c5:g4 < W5.heap.size:=by rw[a9];exact B5.lt
 have d2:=b2.o.keeps X5 (fun h=>h);have d3:=HC.o.ext (HE.o.trans X5);have g1:bh≠g4:=by have:=b2.o.lt;omega
 have g2:0≠g4:=by have:=(HC.o.ext HE.o).lt;omega
 have g3:w.heap.size<=g4:=by rw[a9];exact HE.o.size
 rw[<-a9]at B5 ⊢;have d4:=Hd B5;have b0:=Hd d2;have b4:=Hd d3;have b5:=Hd (HE.o.trans X5);clear B4 E4 B5 K5 X5 d2 d3 a9 b2;have d5:W5.rangeAt bh 0 V.cells:=fun j v Q=>by
  rw[W8.cells_words]at Q;rw[cH];exact b0.o.cellL (by unfold jaR;rw[cE,cS (bP.1 Q).1];exact Q)
 have d6:=Hd d5;clear d5;go_wp2_with (first |(refine wpList_load_mid rfl 195 (.tmp 16) rfl bh 0 rfl V.cells (.array 8 119) d6.o Tryz.uArr8 rfl Tryz.iArr8 ?_) |(refine jaj (cs:=List.replicate 8 (wv 0)) Tryz.newArr8 rfl rfl ?_))
 intro W6 B6 E6;refine jah (old:=List.replicate 8 (wv 0)) (vs:=V.cells) rfl rfl rfl rfl B6 rfl Tryz.iArr8 (by intro v Q;simp only[W8.cells,bM,cM,or_false]at Q;rcases Q with rfl | rfl | rfl | rfl | rfl | rfl | rfl | rfl <;> rfl) ?_;intro W7 B7 K7;have X7:Ext W5 W7:=(E6.trans' K7 (fun x hx e=>by omega))
 obtain⟨E,b6⟩:=vE W5.heap.size
 have d7:bh≠E:=by have:=b0.o.lt;omega
 have f2:0≠E:=by have:=b4.o.lt;omega
 have f3:g4≠E:=vO
 have b7:w.heap.size<=E:=by rw[b6];exact b5.o.size
 rw[<-b6]at B7 ⊢;have d8:=Hd B7;have d9:=Hd (d4.o.keeps X7 (fun h=>h));have e0:=Hd (b0.o.keeps X7 (fun h=>h));have e1:=Hd (b4.o.ext X7);have e2:=Hd (b5.o.trans X7);clear B6 E6 B7 K7 X7 b6 d4 b0 b4 b5 d6 c5 b3 HE d0 HL HC;go_wp2_with fail
 go_loopw [18] (fun i wr=>jy7 W7 E (ja6 B) V i wr) (fun i _=>64 - (intOf i).toNat)
 case atStart=>exact⟨0,by omega,rfl,d8.o,jae.refl _ _⟩
 case round =>
  obtain⟨k,hk,rfl,J,hK⟩:=hrel
  have HK:=Hd hK
  by_cases hlt:k < 64
  ·obtain⟨v,Q⟩:=vE (jdY (ja6 B) V k)
   have Z:jdY (ja6 B) V (k+1)=jm3 v (je2.getD k 0) ((ja6 B).getD k 0):=by rw[Q];rfl
   rw[<-Q]at J
   obtain⟨ck,b8⟩:=vE (je2.getD k 0)
   obtain⟨wk,b9⟩:=vE ((ja6 B).getD k 0)
   rw[<-b8, <-b9]at Z;have qc:wr.cell? ⟨0,k,none⟩=some (wv ck):=by rw[b8];exact (e1.o.keeps hK f2) k hlt
   have qw:wr.cell? ⟨g4,k,none⟩=some (wv wk):=by
    rw[b9];refine (d9.o.keeps hK f3).cellL ?_;rw[bX,bA (by simp[ja6,jcG];omega)];simp[show k < (ja6 B).length by simp[ja6,jcG];omega]
   have QC:=Hd qc;have QW:=Hd qw;have f4:=Hd Z;clear Q Z b8 b9 qc qw hK
   obtain⟨O,x1,x2,x3,X,x5,x6,x7⟩:=v
   have HG:=Hd J;have Q0:=Hd (J.cell (i:=0) (v:=wv O) vF);have Q1:=Hd (J.cell (i:=1) (v:=wv x1) vF);have Q2:=Hd (J.cell (i:=2) (v:=wv x2) vF);have Q3:=Hd (J.cell (i:=3) (v:=wv x3) vF);have Q4:=Hd (J.cell (i:=4) (v:=wv X) vF);have Q5:=Hd (J.cell (i:=5) (v:=wv x5) vF);have Q6:=Hd (J.cell (i:=6) (v:=wv x6) vF);have Q7:=Hd (J.cell (i:=7) (v:=wv x7) vF);clear J;go_wp2_with fail
   refine jay [0,1,2,3,4,5] [] Ext ExtR ExtT vY vY vY ?_
   refine vP ?_
   refine qL ⟨E,0,none⟩ _ rfl (fun w1 A=>jab Tryz.uU32 rfl (jaa (by exact Q0.o) A)) ?_;refine vS ?_
   refine vP ?_
   refine qL ⟨E,4,none⟩ _ rfl (fun w1 A=>jab Tryz.uU32 rfl (jaa (by exact Q4.o) A)) ?_;refine vS ?_;iterate 2 refine vP ?_
   refine qE (fun w3 H=>?_);have X3:=Hd ((jai wr).trans H);clear H;go_wp2_with fail
   refine jay [0,1,2,3,4,5,6,7,8,9,10,11,12,13,14,15,16,17,18,19,20,21,22,23,24,25,26,27,28,29,30] [] Ext ExtR ExtT vY vY vY ?_
   refine vP ?_
   refine qL ⟨E,7,none⟩ _ rfl (fun w1 A=>jab Tryz.uU32 rfl (jaa (by exact jaa Q7.o (X3.o.trans (jai w3))) A)) ?_;refine vS ?_
   refine vP ?_
   refine jdb _ 138 #[wv X,.int .i64 6] (wv (rotW X 6)) rfl vY rfl (fun w1=>jat Tryz.enterRight vY) (fun w1 A=>(jAr w1 X).mono (fun e w2 ⟨A,h2⟩=>⟨A,h2 ▸ ExtR w1⟩)) ?_;refine vS ?_
   refine vP ?_
   refine jdb _ 138 #[wv X,.int .i64 11] (wv (rotW X 11)) rfl vY rfl (fun w1=>jat Tryz.enterRight vY) (fun w1 A=>(jyk w1 X).mono (fun e w2 ⟨A,h2⟩=>⟨A,h2 ▸ ExtR w1⟩)) ?_;refine vS ?_;iterate 2 refine vP ?_
   refine jdb _ 138 #[wv X,.int .i64 25] (wv (rotW X 25)) rfl vY rfl (fun w1=>jat Tryz.enterRight vY) (fun w1 A=>(jyq w1 X).mono (fun e w2 ⟨A,h2⟩=>⟨A,h2 ▸ ExtR w1⟩)) ?_;refine vS ?_;iterate 4 refine vP ?_
   refine qL ⟨E,5,none⟩ _ rfl (fun w1 A=>jab Tryz.uU32 rfl (jaa (by exact jaa Q5.o (X3.o.trans (jai w3))) A)) ?_;refine vS ?_;iterate 4 refine vP ?_
   refine qL ⟨E,6,none⟩ _ rfl (fun w1 A=>jab Tryz.uU32 rfl (jaa (by exact jaa Q6.o (X3.o.trans (jai w3))) A)) ?_;refine vS ?_;iterate 5 refine vP ?_
   refine qL ⟨0,k,none⟩ _ rfl (fun w1 A=>jab Tryz.uU32 rfl (jaa (by exact jaa QC.o (X3.o.trans (jai w3))) A)) ?_;refine vS ?_;iterate 3 refine vP ?_
   refine qL ⟨g4,k,none⟩ _ rfl (fun w1 A=>jab Tryz.uU32 rfl (jaa (by exact jaa QW.o (X3.o.trans (jai w3))) A)) ?_;refine vS ?_;iterate 2 refine vP ?_
   refine qE (fun w4 H=>?_);have X4:=Hd (X3.o.trans ((jai w3).trans H));clear H X3
   obtain⟨tv,c0⟩:∃ t,t=tOne ⟨O,x1,x2,x3,X,x5,x6,x7⟩ ck wk:=⟨_,rfl⟩
   have a0:=c0;unfold tOne at a0;simp only at a0;rw[<-a0];have f5:=Hd c0;clear c0 a0;go_wp2_with fail
   refine jay [0,1,2,3,4,5,6,7,8,9,10,11,12,13,14,15,16,17,18,19,20,21,22,23,24] [] Ext ExtR ExtT vY vY vY ?_
   refine vP ?_
   refine jdb _ 138 #[wv O,.int .i64 2] (wv (rotW O 2)) rfl vY rfl (fun w1=>jat Tryz.enterRight vY) (fun w1 A=>(jAq w1 O).mono (fun e w2 ⟨A,h2⟩=>⟨A,h2 ▸ ExtR w1⟩)) ?_;refine vS ?_
   refine vP ?_
   refine jdb _ 138 #[wv O,.int .i64 13] (wv (rotW O 13)) rfl vY rfl (fun w1=>jat Tryz.enterRight vY) (fun w1 A=>(jyl w1 O).mono (fun e w2 ⟨A,h2⟩=>⟨A,h2 ▸ ExtR w1⟩)) ?_;refine vS ?_;iterate 2 refine vP ?_
   refine jdb _ 138 #[wv O,.int .i64 22] (wv (rotW O 22)) rfl vY rfl (fun w1=>jat Tryz.enterRight vY) (fun w1 A=>(jyp w1 O).mono (fun e w2 ⟨A,h2⟩=>⟨A,h2 ▸ ExtR w1⟩)) ?_;refine vS ?_;iterate 3 refine vP ?_
   refine qL ⟨E,1,none⟩ _ rfl (fun w1 A=>jab Tryz.uU32 rfl (jaa (by exact jaa Q1.o (X4.o.trans (jai w4))) A)) ?_;refine vS ?_;iterate 3 refine vP ?_
   refine qL ⟨E,2,none⟩ _ rfl (fun w1 A=>jab Tryz.uU32 rfl (jaa (by exact jaa Q2.o (X4.o.trans (jai w4))) A)) ?_;refine vS ?_;iterate 3 refine vP ?_
   refine qL ⟨E,1,none⟩ _ rfl (fun w1 A=>jab Tryz.uU32 rfl (jaa (by exact jaa Q1.o (X4.o.trans (jai w4))) A)) ?_;refine vS ?_
   refine vP ?_
   refine qL ⟨E,2,none⟩ _ rfl (fun w1 A=>jab Tryz.uU32 rfl (jaa (by exact jaa Q2.o (X4.o.trans (jai w4))) A)) ?_;refine vS ?_;iterate 4 refine vP ?_
   refine qE (fun w5 H=>?_);have X5:=Hd (X4.o.trans ((jai w4).trans H));clear H X4
   obtain⟨sv,c1⟩:∃ t,t=tTwo ⟨O,x1,x2,x3,X,x5,x6,x7⟩:=⟨_,rfl⟩
   have a1:=c1;unfold tTwo at a1;simp only at a1;rw[<-a1];have f6:=Hd c1;clear c1 a1;have e3:=Hd (HG.o.keeps X5.o (fun h=>h));have e4:=Hd (HK.o.trans' X5.o (fun _ _ h=>h.elim));clear HG HK X5 Q0 Q1 Q2 Q3 Q4 Q5 Q6 Q7 QC QW;go_wp2_with fail
   refine jay [0,1,2] [2] Ext ExtR ExtT vY vY vY ?_;iterate 2 refine vP ?_
   refine qH _ rfl (fun w6 H K hK=>?_);have G1:=e3.o.keeps ((jai w5).trans H) (fun h=>h);have K1:=e4.o.trans' ((jai w5).trans H) (fun _ _ h=>h.elim);have c2:=run_copy_cells (P:=Tryz.prog) w6 115 115 3 119 E 1 7 7 ⟨E,0,none⟩ 7 8 [wv O,wv x1,wv x2,wv x3,wv X,wv x5,wv x6] Tryz.uSlU32 Tryz.iU32 rfl
    (by intro j v Q;rw[jhO];exact G1.cellL (by have:=(bP.1 Q).1;simp at this;rcases (show j=0\/j=1\/j=2\/j=3\/j=4\/j=5\/j=6 by omega)with rfl | rfl | rfl | rfl | rfl | rfl | rfl <;> simpa [W8.cells]using Q))
    (by intro j hj;rw[G1.cellL (i:=1+j) (bA (by simp[W8.cells]at hj ⊢;omega))];rfl)
    (by intro j hj;exact G1.frozen) (by intro v Q;simp only[bM,cM,or_false]at Q;rcases Q with rfl | rfl | rfl | rfl | rfl | rfl | rfl <;> rfl)
   have G2:=Blk.setCells [wv O,wv x1,wv x2,wv x3,wv X,wv x5,wv x6] 1 w6 _ G1 (by simp[W8.cells]);have K2:=K1.trans (jae.oneSetCells E [wv O,wv x1,wv x2,wv x3,wv X,wv x5,wv x6] 1 w6)
   obtain⟨w7,b7⟩:=vE (w6.setCells E 1 [wv O,wv x1,wv x2,wv x3,wv X,wv x5,wv x6])
   rw[<-b7]at c2 G2 K2;simp[W8.cells]at G2;have a4:=Hd G2;have a5:=Hd K2;clear G1 K1 G2 K2 b7 H e3 e4;refine jcd (w':=w7) (jl6 c2 vY) (hK _ _ ?_);clear c2 hK K w6;refine qE (fun w8 H=>?_);have a3:=Hd (a4.o.keeps H (fun h=>h));have b1:=Hd (a5.o.trans' H (fun _ _ h=>h.elim));clear H a4 a5;have Q4:=a3.o.cell (i:=4) (v:=wv x3) vF;have F4:w8.frozen? ⟨E,4,none⟩=false:=a3.o.frozen;have G9:=a3.o.set_same (i:=4) (wv (addW x3 tv));have K9:=b1.o.setCell (p:=⟨E,4,none⟩) (.inl rfl) (wv (addW x3 tv));have a6:=Hd G9;have c3:=Hd K9;clear G9 K9 a3 b1;go_wp2_with fail
   rw[jkf rfl Q4 F4];go_wp2_with fail
   obtain⟨w9,e5⟩:=vE (w8.setCell ⟨E,4,none⟩ (wv (addW x3 tv)))
   rw[<-e5]at a6 c3 ⊢;clear e5 Q4 F4;have Q0:w9.cell? ⟨E,0,none⟩=some (wv O):=a6.o.cell (i:=0) vF;have F0:w9.frozen? ⟨E,0,none⟩=false:=a6.o.frozen;have G9:=a6.o.set_same (i:=0) (wv (addW tv sv));have K9:=c3.o.setCell (p:=⟨E,0,none⟩) (.inl rfl) (wv (addW tv sv));have e6:=Hd G9;have e7:=Hd K9;clear G9 K9 a6 c3;rw[jkf rfl Q0 F0];go_wp2_with fail
   obtain⟨wA,e8⟩:=vE (w9.setCell ⟨E,0,none⟩ (wv (addW tv sv)))
   rw[<-e8]at e6 e7 ⊢;clear e8 Q0 F0 w9 w8;go_roundw
   case rel=>exact⟨k+1,by omega,by go_num,by rw[f4.o];unfold jm3;rw[<-f5.o, <-f6.o];exact e6.o,e7.o⟩
   case measure=>exact vJ
  ·have c6:k=64:=vO
   subst c6
   obtain⟨U,c4⟩:=vE (jdY (ja6 B) V 64)
   rw[<-c4]at J;have f7:=Hd c4;have f8:=Hd J;have e9:=Hd (e0.o.keeps HK.o d7);have f9:=Hd (e2.o.trans' HK.o (fun x hx e=>by omega));clear c4 J HK e0 e2 d8 d9 e1 hX hN hU;go_wp2_with fail
   obtain⟨wm,rfl⟩:=vE wr
   rw[show ((64:Nat):Int)=(64:Int)from rfl];have g6:Hid (bh < wm.heap.size):=e9.o.lt;go_loopw [92] (fun i w2=>jyL wm bh V.words U.words B n sz i w2) (fun i _=>8 - (intOf i).toNat)
   case atStart=>exact⟨0,by omega,rfl,e9.o,jae.refl _ _⟩
   case round =>
    obtain⟨k,hk,rfl,J,hK⟩:=hrel
    have HK:=Hd hK;have HG:=Hd J;clear hK J
    by_cases hlt:k < 8
    ·obtain⟨x,hx⟩:∃ x,V.words[k]?=some x:=⟨_,bA (by simp[W8.words];omega)⟩
     obtain⟨y,hy⟩:∃ y,U.words[k]?=some y:=⟨_,bA (by simp[W8.words];omega)⟩
     have a7:(je8 V.words U.words k).set k (addW x y)=je8 V.words U.words (k+1):=by
      have:=jlI (V:=V.words) (U:=U.words) (k:=k) rfl (by simp[W8.words];omega)
      rw[(bP.1 hx).2,(bP.1 hy).2]at this;exact this
     have q1:=HG.o.cellL (jjr ((jlG (V:=V.words) (U:=U.words) (k:=k) rfl (by simp[W8.words];omega)).trans hx));have q2:wr.cell? ⟨E,k,none⟩=some (wv y):=(f8.o.keeps HK.o (Ne.symm d7)).cellL (by rw[W8.cells_words,bX,hy];rfl);have a8:k < (je8 V.words U.words k).length:=by rw[jlH (V:=V.words) (U:=U.words) rfl];simp[W8.words];omega
     have Q1:=Hd q1;have Q2:=Hd q2;have c7:=Hd a7;have c8:=Hd a8;clear hx hy a7 q1 q2 a8;go_wp2_with fail
     refine jay [0,1,2,3,4,5,6,7,8,9,10,11,12,13] [13] Ext ExtR ExtT vY vY vY ?_;iterate 2 refine vP ?_
     refine qA _ (.pointer (some ⟨bh,0,none⟩)) rfl (fun w1=>by kernel_rfl) ?_;refine vS ?_;iterate 2 refine vP ?_
     refine qL ⟨bh,k,none⟩ _ rfl (fun w1 A=>jab Tryz.uU32 rfl (jaa (by exact Q1.o) A)) ?_;refine vS ?_;iterate 2 refine vP ?_
     refine qL ⟨E,k,none⟩ _ rfl (fun w1 A=>jab Tryz.uU32 rfl (jaa (by exact Q2.o) A)) ?_;refine vS ?_
     refine vP ?_
     refine qA _ (.pointer (some ⟨bh,0,none⟩)) rfl (fun w1=>by kernel_rfl) ?_;refine vS ?_;iterate 2 refine vP ?_
     refine qH _ rfl (fun w6 H K hK=>?_);have G1:=HG.o.keeps ((jai wr).trans H) (fun h=>h);have K1:=HK.o.trans' ((jai wr).trans H) (fun _ _ h=>h.elim);have f0:=jaa Q1.o ((jai wr).trans H);have f1:w6.frozen? ⟨bh,k,none⟩=false:=G1.frozen;have G2:=G1.set_same (i:=k) (wv (addW x y));rw[jkL c8.o,c7.o]at G2;have K2:=K1.setCell (p:=⟨bh,k,none⟩) (.inl rfl) (wv (addW x y));have a4:=Hd G2;have a5:=Hd K2;clear G1 K1 G2 K2 H HG HK Q1 Q2;refine jia bh k (wv (addW x y)) rfl vY vY rfl Tryz.iU32 f0 f1 (hK _ _ ?_);clear hK K f0 f1;refine qE (fun w8 H=>?_);have a3:=Hd (a4.o.keeps H (fun h=>h));have b1:=Hd (a5.o.trans' H (fun _ _ h=>h.elim));clear H a4 a5;go_wp2_with fail
     go_roundw
     case rel=>exact⟨k+1,by omega,by go_num,a3.o,b1.o⟩
     case measure=>exact vJ
    ·have g0:k=8:=vO
     subst g0;have a2:=HG.o;rw[jlF,f7.o]at a2;have HF:=Hd a2;have HX:=Hd ((f9.o.mono (G:=fun x=>x=bh) (fun _ _ h=>h.elim)).trans HK.o);clear a2;go_wp2_with fail
     go_end0
     exact⟨rfl,HF.o,HX.o⟩
