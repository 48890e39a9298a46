/- Lemmas; each is under no condition but those that it states. -/
import Derived.Test.YtepbencaoiompaaGreatDoorPa6
import Derived.Deep.MidRow
namespace Go.Proofs.YtepbencaoiompaaGreatDoor
set_option linter.unusedSimpArgs false
set_option linter.unusedVariables false
set_option maxRecDepth 100000
set_option maxHeartbeats 16000000
open Go Go.RowKit
def beW(a b c d:vU):UInt32:=a.toUInt32 <<< 24 ||| b.toUInt32 <<< 16 ||| c.toUInt32 <<< 8 ||| d.toUInt32
def jjk(B:vN)(i:Nat):UInt32:=beW (B.getD (4 * i) 0) (B.getD (4 * i+1) 0) (B.getD (4 * i+2) 0) (B.getD (4 * i+3) 0)
def jfk(B:vN)(k:Nat):List UInt32:=(List.range k).map (jjk B)
def sig0(x:UInt32):UInt32:=xorW (xorW (rotW x 7) (rotW x 18)) (shrW x 3)
def sig1(x:UInt32):UInt32:=xorW (xorW (rotW x 17) (rotW x 19)) (shrW x 10)
def jmN(W:List UInt32):UInt32:=addW (addW (addW (W.getD (W.length - 16) 0) (sig0 (W.getD (W.length - 15) 0))) (W.getD (W.length - 7) 0)) (sig1 (W.getD (W.length - 2) 0))
def jiL(B:vN):Nat->List UInt32
 | 0=>jfk B 16
 | j+1=>jiL B j++[jmN (jiL B j)]
theorem jdq(B:vN):∀ j,(jiL B j).length=16+j
 | 0=>by simp[jiL,jfk]
 | j+1=>by simp[jiL,jdq B j];omega
def jbu(B:vN):List UInt32:=jiL B 48
def jd0(W:List UInt32)(n:Nat):List vV:=W.map wv++List.replicate (n - W.length) (wv 0)
theorem jjK{W:List UInt32}{n:Nat}(h:W.length<=n):(jd0 W n).length=n:=by simp[jd0];omega
theorem jjL{W:List UInt32}{n:Nat}(h:W.length < n)(x:UInt32):(jd0 W n).set W.length (wv x)=jd0 (W++[x]) n:=by
 unfold jd0;rw[fN _ _ (by simp),show n - W.length=(n - (W++[x]).length)+1 by simp;omega,fK]
 simp
theorem jfK{W:List UInt32}{n i:Nat}(h:i < W.length):(jd0 W n)[i]?=some (wv (W.getD i 0)):=by
 unfold jd0;rw[cW (by simpa using h)];simp[h]
theorem jnS{W:List UInt32}{n:Nat}(h:W.length=n):jd0 W n=W.map wv:=by simp[jd0,h]
theorem jBC(a b c d:vU):bits .or .u32 (bits .or .u32 (bits .or .u32 ((a.toNat:Int) % (4294967296:Int) * (16777216:Int) % (4294967296:Int)) ((b.toNat:Int) % (4294967296:Int) * (65536:Int) % (4294967296:Int))) ((c.toNat:Int) % (4294967296:Int) * (256:Int) % (4294967296:Int))) ((d.toNat:Int) % (4294967296:Int))=((beW a b c d).toNat:Int):=by
 have e:∀ (x:vU) (s:UInt32) (m:Nat),s.toNat < 32->m=2 ^ s.toNat->(x.toNat:Int) % (4294967296:Int) * (m:Int) % (4294967296:Int)=((x.toUInt32 <<< s).toNat:Int):=by
  intro x s m o q;rw[UInt32.toNat_shiftLeft,gD o,Nat.shiftLeft_eq,q];have h:=x.toNat_lt;rw[show (x.toNat:Int) % (4294967296:Int)=(x.toNat:Int) by omega]
  simp
 have z:(a.toNat:Int) % (4294967296:Int) * (16777216:Int) % (4294967296:Int)=((a.toUInt32 <<< 24).toNat:Int):=e a 24 16777216 vI vI;have A:(b.toNat:Int) % (4294967296:Int) * (65536:Int) % (4294967296:Int)=((b.toUInt32 <<< 16).toNat:Int):=e b 16 65536 vI vI;have E:(c.toNat:Int) % (4294967296:Int) * (256:Int) % (4294967296:Int)=((c.toUInt32 <<< 8).toNat:Int):=e c 8 256 vI vI;have H:(d.toNat:Int) % (4294967296:Int)=(d.toUInt32.toNat:Int):=by have:=d.toNat_lt;simp;omega
 rw[z,A,E,H,jh1,jh1,jh1];rfl
def jg8(w:vW)(b o:Nat)(B:vN):Prop:=∀ (j:Nat) x,B[j]?=some x->w.cell? ⟨b,o+j,none⟩=some (.int .u8 (x.toNat:Int))
theorem jg8.keeps{F:BSet}{w w':vW}{b o:Nat}{B:vN}(h:jg8 w b o B)(k:jag F w w')(hF:¬ F b):jg8 w' b o B:=fun j x z=>by
 have:=h j x z
 have q:=fG w _ this;have e:=k.block b q hF;unfold World.cell? at *;rw[e];exact this
theorem Tryz.uArr64:Tryz.prog.underlying 199=some (.array 64 151):=vY
theorem Tryz.iArr64:(Tryz.prog.info? 199).map (·.size)=some 64:=vY
theorem jtU{w:vW}{b:Nat}{C:List vV}{T:TypeId}{fz:Nat × Nat}(h:Blk w b (.cells C.toArray T fz)):w.rangeAt b 0 C:=fun j v e=>by rw[cR];exact h.cellL e
theorem jlC{w:vW}{b:Nat}{C:List vV}{T:TypeId}(h:Blk w b (.cells C.toArray T)):w.there b 0 C.length:=fun j e=>by
 rw[cR];exact⟨by rw[h.cellL (bA e)];rfl,h.frozen⟩
theorem juF{W:List UInt32}:∀ v∈W.map wv,v.oneCell'=true:=fun v e=>by obtain⟨x,_,rfl⟩:=bI.1 e;rfl
def jBt(w:vW)(b g:Nat)(B:vN)(i:vV)(wr:vW):Prop:=∃ k:Nat,k<=16/\i=.int .i64 k/\Blk wr g (.cells (jd0 (jfk B k) 64).toArray 199)/\jag (fun x=>x=g) w wr
def jzX(w:vW)(g:Nat)(B:vN)(i:vV)(wr:vW):Prop:=∃ m:Nat,16<=m/\m<=64/\i=.int .i64 m/\Blk wr g (.cells (jd0 (jiL B (m - 16)) 64).toArray 199)/\jag (fun x=>x=g) w wr
theorem jwL(w:vW)(b o:Nat)(B:vN)(hL:B.length=64)(hB:jg8 w b o B):vR 118 #[.slice (some ⟨b,o,none⟩) 64 64] w (.agg ((jbu B).map wv).toArray):=by
 have HB:=Hd hB;have HL:=Hd hL;have g1:b < w.heap.size:=fG w _ (hB 0 (B[0]'(by omega)) (bA vO));have hX:∀ (p q:UInt32) (w:vW),(binOp .xor 151 (wv p) (wv q)).run Tryz.prog w=.ok (wv (xorW p q)) w:=fun _ _ _=>jpX;have hA:∀ (p q:UInt32) (w:vW),(binOp .add 151 (wv p) (wv q)).run Tryz.prog w=.ok (wv (addW p q)) w:=fun _ _ _=>jpV;have g4:∀ (p:UInt32) (w:vW),(binOp .shr 151 (wv p) (.int .u64 3)).run Tryz.prog w=.ok (wv (shrW p 3)) w:=fun _ _=>jgZ 3 vI .u64;have g3:∀ (p:UInt32) (w:vW),(binOp .shr 151 (wv p) (.int .u64 10)).run Tryz.prog w=.ok (wv (shrW p 10)) w:=fun _ _=>jgZ 10 vI .u64;clear hB hL;go_enter Tryz.func118,Tryz.ntmps118;go_wp2_with fail
 obtain⟨W1,a6⟩:∃ W1,w.alloc (.cells (List.replicate 64 (wv 0)).toArray 199)=W1:=⟨_,rfl⟩
 obtain⟨W0,a8⟩:∃ W0,W1.alloc (.cells (List.replicate 64 (wv 0)).toArray 199)=W0:=⟨_,rfl⟩
 have d8:W1.heap.size=w.heap.size+1:=by rw[<-a6];simp
 have G2:Blk W0 w.heap.size (.cells (List.replicate 64 (wv 0)).toArray 199):=by rw[<-a8];refine Blk.alloc ?_ _;rw[<-a6];exact Blk.new w _
 have G3:Blk W0 (w.heap.size+1) (.cells (List.replicate 64 (wv 0)).toArray 199):=by rw[<-a8, <-d8];exact Blk.new W1 _
 have E0:Ext w W0:=by rw[<-a8, <-a6];exact ((ExtR w).alloc _).alloc _
 change Code.wp _ _ _ _ ((w.alloc (.cells (List.replicate 64 (wv 0)).toArray 199)).alloc (.cells (List.replicate 64 (wv 0)).toArray 199));rw[a6,a8];have f6:=Hd G2;have f8:=Hd G3;have d9:=Hd E0;clear a8 a6 d8 G2 G3 E0;go_loopw [11] (fun i wr=>jBt W0 b (w.heap.size+1) B i wr) (fun i _=>16 - (intOf i).toNat)
 case atStart=>exact⟨0,by omega,rfl,f8.o,jag.refl _ _⟩
 case round =>
  obtain⟨k,hk,rfl,hG,hK⟩:=hrel
  have HG:=Hd hG;have HK:=Hd hK;clear hG hK
  by_cases hlt:k < 16
  ·have c1:(0:Int)<=4 * (k:Int):=vO
   have c2:4 * (k:Int)<=4 * (k:Int)+4:=vO
   have c3:4 * (k:Int)+4<=64:=vO
   have c4:(4 * (k:Int)).toNat=4 * k:=vO
   have c5:(4 * (k:Int)+4).toNat=4 * k+4:=vO
   have a9:jg8 wr b o B:=((HB.o.keeps d9.o (fun h=>h)).keeps HK.o vO);have q0:wr.cell? ⟨b,o+4 * k,none⟩=some (.int .u8 ((B.getD (4 * k) 0).toNat:Int)):=a9 (4 * k) _ (by rw[bA (by have:=HL.o;omega)];congr 1;simp[show 4 * k < B.length by have:=HL.o;omega]);have q1:wr.cell? ⟨b,o+4 * k+1,none⟩=some (.int .u8 ((B.getD (4 * k+1) 0).toNat:Int)):=a9 (4 * k+1) _ (by rw[bA (by have:=HL.o;omega)];congr 1;simp[show 4 * k+1 < B.length by have:=HL.o;omega]);have q2:wr.cell? ⟨b,o+4 * k+2,none⟩=some (.int .u8 ((B.getD (4 * k+2) 0).toNat:Int)):=a9 (4 * k+2) _ (by rw[bA (by have:=HL.o;omega)];congr 1;simp[show 4 * k+2 < B.length by have:=HL.o;omega]);have q3:wr.cell? ⟨b,o+4 * k+3,none⟩=some (.int .u8 ((B.getD (4 * k+3) 0).toNat:Int)):=a9 (4 * k+3) _ (by rw[bA (by have:=HL.o;omega)];congr 1;simp[show 4 * k+3 < B.length by have:=HL.o;omega]);have b8:=Hd q0;have b9:=Hd q1;have c0:=Hd q2;have c6:=Hd q3;clear q0 q1 q2 q3 a9
   obtain⟨x0,c7⟩:=vE (B.getD (4 * k) 0)
   obtain⟨x1,c8⟩:=vE (B.getD (4 * k+1) 0)
   obtain⟨x2,O⟩:=vE (B.getD (4 * k+2) 0)
   obtain⟨x3,c9⟩:=vE (B.getD (4 * k+3) 0)
   rw[<-c7]at b8;rw[<-c8]at b9;rw[<-O]at c0;rw[<-c9]at c6;have HW:=Hd (show jjk B k=beW x0 x1 x2 x3 by rw[c7,c8,O,c9];rfl);clear c7 c8 O c9;go_wp2_with fail
   refine jaw [0,1,2,3,4,5,6,7,8,9,10,11,12,13,14,15,16,17,18,19,20,21,22,23,24] [24] Ext ExtR ExtT vY vY vY ?_;iterate 3 refine vP ?_
   refine qL ⟨b,o+4 * k,none⟩ _ rfl (fun w1 Q=>jac Tryz.uU8 rfl (jaa (by exact b8.o) Q)) ?_;refine vS ?_;iterate 4 refine vP ?_
   refine qL ⟨b,o+4 * k+1,none⟩ _ rfl (fun w1 Q=>jac Tryz.uU8 rfl (jaa (by exact b9.o) Q)) ?_;refine vS ?_;iterate 5 refine vP ?_
   refine qL ⟨b,o+4 * k+2,none⟩ _ rfl (fun w1 Q=>jac Tryz.uU8 rfl (jaa (by exact c0.o) Q)) ?_;refine vS ?_;iterate 5 refine vP ?_
   refine qL ⟨b,o+4 * k+3,none⟩ _ rfl (fun w1 Q=>jac Tryz.uU8 rfl (jaa (by exact c6.o) Q)) ?_;refine vS ?_;iterate 3 refine vP ?_
   have e0:=jBC x0 x1 x2 x3;rw[<-HW.o]at e0;refine qH _ rfl (fun w1 E K hK=>?_);have G1:=HG.o.keeps ((jaq wr).trans E) (fun h=>h);have K1:=HK.o.trans' ((jaq wr).trans E) (fun _ _ h=>h.elim);have hl:(jfk B k).length=k:=by simp[jfk]
   obtain⟨old,q1⟩:∃ v,w1.cell? ⟨w.heap.size+1,k,none⟩=some v:=⟨_,G1.cellL (bA (by rw[jjK vO];omega))⟩
   have q2:w1.frozen? ⟨w.heap.size+1,k,none⟩=false:=G1.frozen;have G2:=G1.set_same (i:=k) (wv (jjk B k));have z:=jjL (W:=jfk B k) (n:=64) vO (jjk B k);rw[hl]at z;have b0:jfk B k++[jjk B k]=jfk B (k+1):=by simp[jfk,gA]
   rw[b0]at z;rw[show ((jd0 (jfk B k) 64).toArray.setIfInBounds k (wv (jjk B k)))=(jd0 (jfk B (k+1)) 64).toArray by rw[<-z];simp]at G2;have A:=Hd G2;have X:=Hd (K1.setCell (p:=⟨w.heap.size+1,k,none⟩) (.inl rfl) (wv (jjk B k)));clear G1 K1 E hl G2 z b0 HG HK HW b8 b9 c0 c6;go_simp;refine hK _ _ ?_;clear hK K q1 q2;refine qE (fun w2 E=>?_);have d0:=Hd (A.o.keeps E (fun h=>h));have d1:=Hd (X.o.trans' E (fun _ _ h=>h.elim));clear E A X e0;go_wp2_with fail
   go_roundw
   case rel=>exact⟨k+1,by omega,by go_num,d0.o,d1.o⟩
   case measure=>exact vJ
  ·have d5:k=16:=vO
   subst d5;have e1:=Hd (f6.o.keeps HK.o vO);go_wp2_with fail
   obtain⟨W2,rfl⟩:=vE wr
   rw[show ((16:Nat):Int)=(16:Int)from rfl];go_loopw [6] (fun i wr=>jzX W2 (w.heap.size+1) B i wr) (fun i _=>64 - (intOf i).toNat)
   case atStart=>exact⟨16,by omega,by omega,rfl,HG.o,jag.refl _ _⟩
   case round =>
    obtain⟨m,g5,g6,rfl,hG,hK⟩:=hrel
    have J:=Hd hG;have b1:=Hd hK;clear hG hK HG
    by_cases hlt:m < 64
    ·have e2:=jdq B (m - 16)
     obtain⟨Z,b3⟩:∃ a,a=m - 15:=⟨_,rfl⟩
     obtain⟨a2,e3⟩:∃ a,a=m - 2:=⟨_,rfl⟩
     obtain⟨a5,b4⟩:∃ a,a=m - 16:=⟨_,rfl⟩
     obtain⟨a7,e4⟩:∃ a,a=m - 7:=⟨_,rfl⟩
     have g8:(m:Int) - 15=(Z:Int):=vO
     have f2:(m:Int) - 2=(a2:Int):=vO
     have g9:(m:Int) - 16=(a5:Int):=vO
     have f7:(m:Int) - 7=(a7:Int):=vO
     have h0:Z < 64:=vO
     have l2:a2 < 64:=vO
     have h2:a5 < 64:=vO
     have l7:a7 < 64:=vO
     have b6:=J.o.cellL (i:=Z) (jfK (n:=64) vO);have g2:=J.o.cellL (i:=a2) (jfK (n:=64) vO);have b7:=J.o.cellL (i:=a5) (jfK (n:=64) vO);have g7:=J.o.cellL (i:=a7) (jfK (n:=64) vO)
     obtain⟨H,d2⟩:=vE (jiL B (m - 16))
     have e5:=Hd d2;rw[<-d2]at b6 g2 b7 g7 e2;have a1:H.length=m:=vO
     have d3:jmN H=addW (addW (addW (H.getD a5 0) (sig0 (H.getD Z 0))) (H.getD a7 0)) (sig1 (H.getD a2 0)):=by
      unfold jmN;rw[a1, <-b4, <-b3, <-e4, <-e3]
     obtain⟨e6,a3⟩:∃ x,x=H.getD Z 0:=⟨_,rfl⟩
     obtain⟨x2,O⟩:∃ x,x=H.getD a2 0:=⟨_,rfl⟩
     obtain⟨h3,a4⟩:∃ x,x=H.getD a5 0:=⟨_,rfl⟩
     obtain⟨x7,d4⟩:∃ x,x=H.getD a7 0:=⟨_,rfl⟩
     rw[<-a3]at b6;rw[<-O]at g2;rw[<-a4]at b7;rw[<-d4]at g7;rw[<-a3, <-O, <-a4, <-d4]at d3;have e7:=Hd d3;have d6:=Hd a1;have e8:=Hd b6;have H2:=Hd g2;have e9:=Hd b7;have H7:=Hd g7;clear a3 O a4 d4 d3 a1 b6 g2 b7 g7 b3 e3 b4 e4 e2 d2;go_wp2_with fail
     refine jaw [0,1,2,3,4,5,6,7,8,9] [] Ext ExtR ExtT vY vY vY ?_;iterate 3 refine vP ?_
     refine qL ⟨w.heap.size+1,Z,none⟩ _ rfl (fun w1 Q=>jac Tryz.uU32 rfl (jaa (by exact e8.o) Q)) ?_;refine vS ?_;iterate 3 refine vP ?_
     refine qL ⟨w.heap.size+1,a2,none⟩ _ rfl (fun w1 Q=>jac Tryz.uU32 rfl (jaa (by exact H2.o) Q)) ?_;refine vS ?_;iterate 2 refine vP ?_
     refine qE (fun w3 E=>?_);have X1:=Hd ((jaq wr).trans E);clear E;go_wp2_with fail
     refine (jAW w3 e6).mono ?_;rintro e w4 ⟨rfl,rfl⟩;go_wp2_with fail
     refine (jy3 w3 e6).mono ?_;rintro e w4 ⟨rfl,rfl⟩;go_wp2_with fail
     refine (jy2 w3 x2).mono ?_;rintro e w4 ⟨rfl,rfl⟩;go_wp2_with fail
     refine (jy4 w3 x2).mono ?_;rintro e w4 ⟨rfl,rfl⟩;go_wp2_with fail
     have b5:=Hd (jaa e9.o X1.o);have f0:=Hd (jaa H7.o X1.o);have f1:=Hd (J.o.keeps X1.o (fun h=>h));have f3:=Hd (b1.o.trans' X1.o (fun _ _ h=>h.elim));clear e9 H7 J b1 X1 e8 H2;refine jaw [0,1,2,3,4,5,6,7,8,9,10,11,12,13,14,15] [15] Ext ExtR ExtT vY vY vY ?_;iterate 4 refine vP ?_
     refine qL ⟨w.heap.size+1,a5,none⟩ _ rfl (fun w1 Q=>jac Tryz.uU32 rfl (jaa (by exact b5.o) Q)) ?_;refine vS ?_;iterate 5 refine vP ?_
     refine qL ⟨w.heap.size+1,a7,none⟩ _ rfl (fun w1 Q=>jac Tryz.uU32 rfl (jaa (by exact f0.o) Q)) ?_;refine vS ?_;iterate 4 refine vP ?_
     refine qH _ rfl (fun w1 E K hK=>?_);have G1:=f1.o.keeps ((jaq w3).trans E) (fun h=>h);have K1:=f3.o.trans' ((jaq w3).trans E) (fun _ _ h=>h.elim);have hl:=d6.o;rw[<-e5.o]at G1
     obtain⟨old,q1⟩:∃ v,w1.cell? ⟨w.heap.size+1,m,none⟩=some v:=⟨_,G1.cellL (bA (by rw[jjK vO];omega))⟩
     have q2:w1.frozen? ⟨w.heap.size+1,m,none⟩=false:=G1.frozen;have G2:=G1.set_same (i:=m) (wv (jmN H));have z:=jjL (W:=H) (n:=64) vO (jmN H);rw[hl]at z;have b0:H++[jmN H]=jiL B (m+1 - 16):=by
      rw[show m+1 - 16=(m - 16)+1 by omega];simp only[jiL];rw[<-e5.o]
     rw[b0]at z;rw[show ((jd0 H 64).toArray.setIfInBounds m (wv (jmN H)))=(jd0 (jiL B (m+1 - 16)) 64).toArray by rw[<-z];simp]at G2;have K2:=K1.setCell (p:=⟨w.heap.size+1,m,none⟩) (.inl rfl) (wv (jmN H));rw[e7.o]at G2 K2;have A:=Hd G2;have X:=Hd K2;clear G1 K1 E hl G2 z b0 K2 f1 f3 b5 f0 e7;unfold sig0 sig1 at A X;refine jlP _ _ _ rfl rfl rfl rfl Tryz.iU32 q1 q2 (hK _ _ ?_);clear hK K q1 q2;refine qE (fun w2 E=>?_);have d0:=Hd (A.o.keeps E (fun h=>h));have d1:=Hd (X.o.trans' E (fun _ _ h=>h.elim));clear E A X;go_wp2_with fail
     go_roundw
     case rel=>exact⟨m+1,by omega,by omega,by go_num,d0.o,d1.o⟩
     case measure=>exact vJ
    ·have d7:m=64:=vO
     subst d7;have a0:=jnS (W:=jbu B) (n:=64) (by unfold jbu;rw[jdq]);have f9:Hid (Blk wr (w.heap.size+1) (.cells ((jbu B).map wv).toArray 199)):=Hd (by rw[<-a0];exact J.o);have f4:=Hd (e1.o.keeps b1.o vO);have HX:=Hd ((d9.o.trans' HK.o (G:=fun x=>x=w.heap.size+1) (fun x hx e=>by omega)).trans' b1.o (fun x hx e=>by omega));clear a0 J b1 HK e1;have f5:((jbu B).map wv).length=64:=by simp[jbu,jdq]
     have b2:=Hd f5;clear f5;go_wp2_with (first |(refine wpList_load_mid rfl 199 (.tmp 3) rfl (w.heap.size+1) 0 rfl ((jbu B).map wv) (.array 64 151) (jtU f9.o) Tryz.uArr64 rfl (by rw[b2.o];exact Tryz.iArr64) ?_) |(refine wpList_store_mid rfl 199 (.tmp 2) (.tmp 92) rfl w.heap.size 0 ((jbu B).map wv).toArray rfl rfl (by have:=jlC f4.o;simpa [jbu,jdq]using this) (by simp only[cT];rw[b2.o];exact Tryz.iArr64) (all_oneCell_toArray juF) ?_))
     have hb:Blk (wr.setCells w.heap.size 0 ((jbu B).map wv)) w.heap.size (.cells ((jbu B).map wv).toArray 199):=by
      have:=Blk.setCells ((jbu B).map wv) 0 wr (List.replicate 64 (wv 0)) f4.o (by rw[b2.o];simp)
      simpa [b2.o]using this
     have hx:=HX.o.trans' (jag.oneSetCells w.heap.size ((jbu B).map wv) 0 wr) (fun x hx e=>by omega);have g0:=run_loadVar_mid (P:=Tryz.prog) _ w.heap.size 0 199 _ _ (jtU hb) Tryz.uArr64 rfl (by rw[b2.o];exact Tryz.iArr64);exact bodyPost_ret (v:=.agg ((jbu B).map wv).toArray) (jcX (t:=2) (ty:=199) rfl rfl g0) rfl ⟨rfl,hx⟩
theorem Tryz.enterRight(args:Array vV)(w:vW):(callFunc 119 args).run Tryz.prog w=.ok (.enter 119 args) w:=vY
theorem jaG{P:Program}{a:Act}{w:vW}{d:Option Tmp}{f:FuncId}{args:Array Operand}{ats:Array TypeId}{ty:TypeId}{pos:String}{af:Array Edge}{g:Option (Nat × Bool)}{vs:Array vV}(eg:∀ args w,(callFunc f args).run P w=.ok (.enter f args) w)(hv:args.map a.eval=vs) :
  (execOp a.eval ⟨d,.call { callee:=.value (.func f),args:=args,argTypes:=ats },ty,pos,af,g⟩).run P w=.ok (.enter f vs) w:=by
 subst hv;simp[execOp,resolve,Deferred.ofValue,invoke,Act.eval,bS,Result.andThen,cJ,eg]
theorem jmn{P:Program}{a:Act}{w w':vW}{v:vV}{d:Option Tmp}{args:Array Operand}{ats:Array TypeId}{ty:TypeId}{pos:String}{af:Array Edge}{g:Option (Nat × Bool)}{vs:Array vV}(h:(Builtin.copy_ ats ty vs).run P w=.ok v w')(hv:args.map a.eval=vs) :
  (execOp a.eval ⟨d,.call { callee:=.builtin .copy,args:=args,argTypes:=ats },ty,pos,af,g⟩).run P w=.ok (.value v) w':=by
 subst hv;simp[execOp,resolve,invoke,Go.builtin,Act.eval,bS,Result.andThen,cJ,h]
theorem jhX(b j:Nat):(⟨b,0,none⟩:Addr).add j=⟨b,j,none⟩:=by unfold Addr.add;split <;> simp_all
theorem jyG{P:Program}{l:List Oper}{hd:List Nat}{E:vW->vW->Prop}{Q:Act->vW->Prop}{ord done:List Nat}{a:Act}{w:vW}{k:Nat}(o:Oper)(v:vV)(ho:l[k]?=some o)(hk:jhP l hd done k=true)(hw:Region.wanted o (yielded l.toArray a.tmps)=true)
  (hv:∀ w1,(execOp a.eval o).run P w1=.ok (.value v) w1) (h:Mix P l hd E Q ord (k :: done) (a.put o.dst v) w):Mix P l hd E Q (k :: ord) done a w:=by
 simp only[jhP,cI,cZ,gY,joW]at hk;have e:∀ w' q,execOp q.eval o=execOp a.eval o->Region.wanted o (yielded l.toArray q.tmps)=Region.wanted o (yielded l.toArray a.tmps)->jb7 P l.toArray E w' o v q:=
  fun w' q z A=>.inl ⟨A.trans hw,fun w1 _=>by rw[z,hv w1];exact⟨rfl,rfl⟩⟩
 exact .inl ⟨hk.1.1,hk.1.2,hk.2,o,v,ho,e w a rfl rfl,.inr e,h⟩
theorem qA{P:Program}{l:List Oper}{hd:List Nat}{E:vW->vW->Prop}{Q:Act->vW->Prop}{ord done:List Nat}{a:Act}{w:vW}{k:Nat}(o:Oper)(v:vV)(ho:l[k]?=some o)(hv:∀ w1,(execOp a.eval o).run P w1=.ok (.value v) w1)(h:Mix P l hd E Q ord (k :: done) (a.put o.dst v) w)(hk:jhP l hd done k=true:=by kernel_rfl)(hw:Region.wanted o (yielded l.toArray a.tmps)=true:=by rfl):Mix P l hd E Q (k :: ord) done a w:=jyG o v ho hk hw hv h
theorem jkm{P:Program}{w:vW}{b i:Nat}{v old:vV}(hv:v.oneCell'=true)(hc:w.cell? ⟨b,i,none⟩=some old)(hf:w.frozen? ⟨b,i,none⟩=false):(storeCells ⟨b,i,none⟩ [v]).run P w=.ok () (w.setCell ⟨b,i,none⟩ v):=by
 rw[jjc,run_store P w _ v _ hv,hc,hf];rfl
theorem jah{P:Program}{ops:Array Oper}{rest:List Oper}{o:Oper}{a:Act}{w:vW}{Q:Exit->Act->vW->Prop}{T:TypeId}{cs:List vV}(hrun:∀ w,(Instr.alloc T true (.tuple #[])).run P w=.ok (.pointer (some ⟨w.heap.size,0,none⟩)) (w.alloc (.cells cs.toArray T)))(hgd:o.guard=none)(ho:o.op=.alloc T)
  (h:∀ W,Blk W w.heap.size (.cells cs.toArray T)->Ext w W->wpList P ops Q rest (a.put o.dst (.pointer (some ⟨w.heap.size,0,none⟩))) W):wpList P ops Q (o :: rest) a w:=
 wpList_plain hgd fun K e=>jcD (v:=.pointer (some ⟨w.heap.size,0,none⟩)) (w':=w.alloc (.cells cs.toArray T)) (by simp only[execOp,ho,bS,hrun,Result.andThen,cJ]) (e _ _ (h _ (Blk.new w _) ((ExtR w).alloc _)))
theorem jlO{P:Program}{ops:Array Oper}{rest:List Oper}{o:Oper}{a:Act}{w:vW}{Q:Exit->Act->vW->Prop}{t:TypeId}{x y:Operand}(hgd:o.guard=none)(b i:Nat)(v:vV)(ho:o.op=.store t x y)(hx:a.eval x=.pointer (some ⟨b,i,none⟩))(hy:a.eval y=v)(hv:v.oneCell'=true)
  (hi:(P.info? t).map (·.size)=some 1) {old:vV} (hc:w.cell? ⟨b,i,none⟩=some old) (hf:w.frozen? ⟨b,i,none⟩=false) (h:∀ W,W=w.setCell ⟨b,i,none⟩ v->wpList P ops Q rest (a.put o.dst undef) W):wpList P ops Q (o :: rest) a w:=
 jnx hgd b i v ho hx hy hv hi hc hf (h _ rfl)
theorem jae{P:Program}{ops:Array Oper}{rest:List Oper}{o:Oper}{a:Act}{w:vW}{Q:Exit->Act->vW->Prop}{T T2:TypeId}{x y:Operand}{b:Nat}{old vs:List vV}(hgd:o.guard=none)(ho:o.op=.store T x y)(hx:a.eval x=.pointer (some ⟨b,0,none⟩))(hy:a.eval y=.agg vs.toArray)
  (hB:Blk w b (.cells old.toArray T2)) (hl:old.length=vs.length) (hi:(P.info? T).map (·.size)=some vs.length) (h1:∀ v∈vs,v.oneCell'=true)
  (h:∀ W,Blk W b (.cells vs.toArray T2)->jag (fun z=>z=b) w W->wpList P ops Q rest (a.put o.dst undef) W):wpList P ops Q (o :: rest) a w:=by
 refine wpList_store_mid hgd T x y ho b 0 vs.toArray hx hy (by have:=jlC hB;rw[hl]at this;simpa using this) (by simpa using hi) (all_oneCell_toArray h1) (h _ ?_ (jag.oneSetCells b vs 0 w))
 have:=Blk.setCells vs 0 w old hB vO
 rw[iS vO]at this;simpa using this
structure W8 where
 a:UInt32
 b:UInt32
 c:UInt32
 d:UInt32
 e:UInt32
 f:UInt32
 g:UInt32
 h:UInt32
def W8.cells(v:W8):List vV:=[wv v.a,wv v.b,wv v.c,wv v.d,wv v.e,wv v.f,wv v.g,wv v.h]
def W8.words(v:W8):List UInt32:=[v.a,v.b,v.c,v.d,v.e,v.f,v.g,v.h]
def jhT(V U:List UInt32)(k:Nat):List UInt32:=(List.zipWith addW V U).take k++V.drop k
theorem jlW{V U:List UInt32}(h:V.length=U.length)(k:Nat):(jhT V U k).length=V.length:=by simp[jhT];omega
theorem jrH{V U:List UInt32}{k:Nat}(h:V.length=U.length)(hk:k < V.length):(jhT V U k)[k]?=V[k]?:=by
 unfold jhT;rw[dA (by simp;omega)];simp only[dM,List.length_zipWith,List.getElem?_drop]
 congr 1;omega
theorem jrI{V U:List UInt32}{k:Nat}(h:V.length=U.length)(hk:k < V.length):(jhT V U k).set k (addW (V[k]'hk) (U[k]'(h ▸ hk)))=jhT V U (k+1):=by
 apply List.ext_getElem?;intro i;rw[List.getElem?_set];have e:=jlW h k;unfold jhT at *
 by_cases hi:k=i
 ·subst hi
  rw[if_pos rfl,if_pos vO,cW (by simp;omega),List.getElem?_take_of_lt vO,bA (by simp;omega)]
  simp
 ·rw[if_neg hi]
  by_cases hlt:i < k
  ·rw[cW (by simp;omega),cW (by simp;omega),List.getElem?_take_of_lt hlt,List.getElem?_take_of_lt vO]
  ·rw[dA (by simp;omega),dA (by simp;omega)]
   simp only[dM,List.length_zipWith,List.getElem?_drop]
   congr 1
   omega
def W8.add(v u:W8):W8:=⟨addW v.a u.a,addW v.b u.b,addW v.c u.c,addW v.d u.d,addW v.e u.e,addW v.f u.f,addW v.g u.g,addW v.h u.h⟩
theorem jrG(v u:W8):jhT v.words u.words 8=(v.add u).words:=rfl
theorem W8.cells_words(v:W8):v.cells=v.words.map wv:=rfl
def tOne(v:W8)(k x:UInt32):UInt32:=addW (addW (addW (addW v.h (xorW (xorW (rotW v.e 6) (rotW v.e 11)) (rotW v.e 25))) (xorW (andW v.e v.f) (andW (notW v.e) v.g))) k) x
def tTwo(v:W8):UInt32:=addW (xorW (xorW (rotW v.a 2) (rotW v.a 13)) (rotW v.a 22)) (xorW (xorW (andW v.a v.b) (andW v.a v.c)) (andW v.b v.c))
def jt7(v:W8)(k x:UInt32):W8:=⟨addW (tOne v k x) (tTwo v),v.a,v.b,v.c,addW v.d (tOne v k x),v.e,v.f,v.g⟩
def jit:List UInt32:=[0x428a2f98,0x71374491,0xb5c0fbcf,0xe9b5dba5,0x3956c25b,0x59f111f1,0x923f82a4,0xab1c5ed5,0xd807aa98,0x12835b01,0x243185be,0x550c7dc3,0x72be5d74,0x80deb1fe,0x9bdc06a7,0xc19bf174,
 0xe49b69c1,0xefbe4786,0x0fc19dc6,0x240ca1cc,0x2de92c6f,0x4a7484aa,0x5cb0a9dc,0x76f988da,0x983e5152,0xa831c66d,0xb00327c8,0xbf597fc7,0xc6e00bf3,0xd5a79147,0x06ca6351,0x14292967,
 0x27b70a85,0x2e1b2138,0x4d2c6dfc,0x53380d13,0x650a7354,0x766a0abb,0x81c2c92e,0x92722c85,0xa2bfe8a1,0xa81a664b,0xc24b8b70,0xc76c51a3,0xd192e819,0xd6990624,0xf40e3585,0x106aa070,
 0x19a4c116,0x1e376c08,0x2748774c,0x34b0bcb5,0x391c0cb3,0x4ed8aa4a,0x5b9cca4f,0x682e6ff3,0x748f82ee,0x78a5636f,0x84c87814,0x8cc70208,0x90befffa,0xa4506ceb,0xbef9a3f7,0xc67178f2]
def jbN(w:vW):Prop:=∀ i,i < 64->w.cell? ⟨0,i,none⟩=some (wv (jit.getD i 0))
theorem jbN.lt{w:vW}(h:jbN w):0 < w.heap.size:=fG w _ (h 0 vI)
theorem jbN.keeps{F:BSet}{w w':vW}(h:jbN w)(k:jag F w w')(hF:¬ F 0):jbN w':=fun i o=>by
 have:=h i o
 have e:=k.block _ h.lt hF;unfold World.cell? at *;rw[e];exact this
theorem jbN.ext{w w':vW}(h:jbN w)(k:Ext w w'):jbN w':=h.keeps k (fun h=>h)
def jhB(Wd:List UInt32)(v:W8):Nat->W8
 | 0=>v
 | k+1=>jt7 (jhB Wd v k) (jit.getD k 0) (Wd.getD k 0)
theorem Tryz.uArr8:Tryz.prog.underlying 152=some (.array 8 151):=vY
theorem Tryz.iArr8:(Tryz.prog.info? 152).map (·.size)=some 8:=vY
theorem Tryz.uSlU32:Tryz.prog.underlying 202=some (.slice 151):=vY
theorem Tryz.newArr64(w:vW):(Instr.alloc 199 true (.tuple #[])).run Tryz.prog w=.ok (.pointer (some ⟨w.heap.size,0,none⟩)) (w.alloc (.cells (List.replicate 64 (wv 0)).toArray 199)):=vY
theorem Tryz.newArr8(w:vW):(Instr.alloc 152 true (.tuple #[])).run Tryz.prog w=.ok (.pointer (some ⟨w.heap.size,0,none⟩)) (w.alloc (.cells (List.replicate 8 (wv 0)).toArray 152)):=vY
def mixW(V:W8)(B:vN):W8:=V.add (jhB (jbu B) V 64)
def jaP(ws:List UInt32)(B:vN)(n sz:Int):List vV:=ws.map wv++jaN B++[Value.int .i64 n,Value.int .u64 sz]
theorem jjt{ws:List UInt32}{B:vN}{n sz:Int}{k:Nat}{x:UInt32}(h:ws[k]?=some x):(jaP ws B n sz)[k]?=some (wv x):=by
 have:=(bW.1 h).1
 unfold jaP;rw[bX,cW (by simpa using this)];simp[h]
theorem jkY{ws:List UInt32}{B:vN}{n sz:Int}{k:Nat}(h:k < ws.length)(x:UInt32):(jaP ws B n sz).toArray.setIfInBounds k (wv x)=(jaP (ws.set k x) B n sz).toArray:=by
 unfold jaP;simp only[gK,bX];rw[List.set_append_left _ _ (by simpa using h),iR]
def jzn(w:vW)(bh:Nat)(V U:List UInt32)(B:vN)(n sz:Int)(i:vV)(wr:vW):Prop:=∃ k:Nat,k<=8/\i=.int .i64 k/\Blk wr bh (.cells (jaP (jhT V U k) B n sz).toArray 156)/\jag (fun x=>x=bh) w wr
def jxO(w:vW)(g5:Nat)(v:W8)(w':vW):Prop:=Blk w' g5 (.cells v.cells.toArray 152)/\jag (fun x=>x=g5) w w'
def jzM(w:vW)(g5:Nat)(Wd:List UInt32)(v:W8)(i:vV)(wr:vW):Prop:=∃ k:Nat,k<=64/\i=.int .i64 k/\jxO w g5 (jhB Wd v k) wr
theorem jBV(w:vW)(bh:Nat)(V:W8)(B:vN)(n sz:Int)(hL:B.length=64)(hB:Blk w bh (.cells (jaP V.words B n sz).toArray 156))(hc:jbN w)(hbh:bh≠0) :
  vQ 78 #[.pointer (some ⟨bh,0,none⟩),.slice (some ⟨bh,8,none⟩) 64 64] w fun e w'=>e=.returned (.tuple #[])/\Blk w' bh (.cells (jaP (mixW V B).words B n sz).toArray 156)/\jag (fun x=>x=bh) w w':=by
 have HB:=Hd hB;have HC:=Hd hc;have c8:jg8 w bh 8 B:=fun j x hx=>hB.cellL (by
  have hj:=(bW.1 hx).1;unfold jaP;rw[bX,dA (by simp[W8.words]),cW (by simp[W8.words];omega)];simp[W8.words,jaN,hx])
 have hX:∀ (p q:UInt32) (w:vW),(binOp .xor 151 (wv p) (wv q)).run Tryz.prog w=.ok (wv (xorW p q)) w:=fun _ _ _=>jpX;have hA:∀ (p q:UInt32) (w:vW),(binOp .add 151 (wv p) (wv q)).run Tryz.prog w=.ok (wv (addW p q)) w:=fun _ _ _=>jpV;have hN:∀ (p q:UInt32) (w:vW),(binOp .and 151 (wv p) (wv q)).run Tryz.prog w=.ok (wv (andW p q)) w:=fun _ _ _=>jwD;have hU:∀ (p:UInt32) (w:vW),(Op.unary .xor (wv p)).run Tryz.prog w=.ok (wv (notW p)) w:=fun _ _=>jwE;have c9:=Hd c8;have HL:=Hd hL;clear hB hc c8 hL;go_enter Tryz.func78,Tryz.ntmps78;go_wp2_with fail
 refine vC (jwL w bh 8 B HL.o c9.o) fun w1 hE=>?_;have HE:=Hd hE;have b1:=Hd (HB.o.keeps hE (fun h=>h));clear hE;have d0:((jbu B).map wv).length=64:=by simp[jbu,jdq]
 have b2:=Hd d0;clear d0;go_wp2_with (refine jah (cs:=List.replicate 64 (wv 0)) Tryz.newArr64 rfl rfl ?_)
 intro W4 B4 E4;refine jae (old:=List.replicate 64 (wv 0)) (vs:=(jbu B).map wv) rfl rfl rfl rfl B4 (by rw[b2.o];rfl) (by rw[b2.o];exact Tryz.iArr64) juF ?_;intro W5 B5 K5;have X5:Ext w1 W5:=(E4.trans' K5 (fun x hx e=>by omega))
 obtain⟨g4,a8⟩:=vE w1.heap.size
 have c4:g4 < W5.heap.size:=by rw[a8];exact B5.lt
 have d1:=b1.o.keeps X5 (fun h=>h);have d2:=HC.o.ext (HE.o.trans X5);have g0:bh≠g4:=by have:=b1.o.lt;omega
 have g1:0≠g4:=by have:=(HC.o.ext HE.o).lt;omega
 have g2:w.heap.size<=g4:=by rw[a8];exact HE.o.size
 rw[<-a8]at B5 ⊢;have d3:=Hd B5;have a9:=Hd d1;have b3:=Hd d2;have b4:=Hd (HE.o.trans X5);clear B4 E4 B5 K5 X5 d1 d2 a8 b1;have d4:W5.rangeAt bh 0 V.cells:=fun j v O=>by
  rw[W8.cells_words]at O;rw[cR];exact a9.o.cellL (by unfold jaP;rw[bX,cW (bW.1 O).1];exact O)
 have d5:=Hd d4;clear d4;go_wp2_with (first |(refine wpList_load_mid rfl 152 (.tmp 16) rfl bh 0 rfl V.cells (.array 8 151) d5.o Tryz.uArr8 rfl Tryz.iArr8 ?_) |(refine jah (cs:=List.replicate 8 (wv 0)) Tryz.newArr8 rfl rfl ?_))
 intro W6 B6 E6;refine jae (old:=List.replicate 8 (wv 0)) (vs:=V.cells) rfl rfl rfl rfl B6 rfl Tryz.iArr8 (by intro v O;simp only[W8.cells,bM,cH,or_false]at O;rcases O with rfl | rfl | rfl | rfl | rfl | rfl | rfl | rfl <;> rfl) ?_;intro W7 B7 K7;have X7:Ext W5 W7:=(E6.trans' K7 (fun x hx e=>by omega))
 obtain⟨A,b5⟩:=vE W5.heap.size
 have d6:bh≠A:=by have:=a9.o.lt;omega
 have f1:0≠A:=by have:=b3.o.lt;omega
 have f2:g4≠A:=vO
 have b6:w.heap.size<=A:=by rw[b5];exact b4.o.size
 rw[<-b5]at B7 ⊢;have d7:=Hd B7;have d8:=Hd (d3.o.keeps X7 (fun h=>h));have d9:=Hd (a9.o.keeps X7 (fun h=>h));have e0:=Hd (b3.o.ext X7);have e1:=Hd (b4.o.trans X7);clear B6 E6 B7 K7 X7 b5 d3 a9 b3 b4 d5 c4 b2 HE c9 HL HC;go_wp2_with fail
 go_loopw [18] (fun i wr=>jzM W7 A (jbu B) V i wr) (fun i _=>64 - (intOf i).toNat)
 case atStart=>exact⟨0,by omega,rfl,d7.o,jag.refl _ _⟩
 case round =>
  obtain⟨k,hk,rfl,H,hK⟩:=hrel
  have HK:=Hd hK
  by_cases hlt:k < 64
  ·obtain⟨v,O⟩:=vE (jhB (jbu B) V k)
   have X:jhB (jbu B) V (k+1)=jt7 v (jit.getD k 0) ((jbu B).getD k 0):=by rw[O];rfl
   rw[<-O]at H
   obtain⟨ck,b7⟩:=vE (jit.getD k 0)
   obtain⟨wk,b8⟩:=vE ((jbu B).getD k 0)
   rw[<-b7, <-b8]at X;have qc:wr.cell? ⟨0,k,none⟩=some (wv ck):=by rw[b7];exact (e0.o.keeps hK f1) k hlt
   have qw:wr.cell? ⟨g4,k,none⟩=some (wv wk):=by
    rw[b8];refine (d8.o.keeps hK f2).cellL ?_;rw[cA,bA (by simp[jbu,jdq];omega)];simp[show k < (jbu B).length by simp[jbu,jdq];omega]
   have QC:=Hd qc;have QW:=Hd qw;have f3:=Hd X;clear O X b7 b8 qc qw hK
   obtain⟨J,x1,x2,x3,Q,x5,x6,x7⟩:=v
   have HG:=Hd H;have Q0:=Hd (H.cell (i:=0) (v:=wv J) vF);have Q1:=Hd (H.cell (i:=1) (v:=wv x1) vF);have Q2:=Hd (H.cell (i:=2) (v:=wv x2) vF);have Q3:=Hd (H.cell (i:=3) (v:=wv x3) vF);have Q4:=Hd (H.cell (i:=4) (v:=wv Q) vF);have Q5:=Hd (H.cell (i:=5) (v:=wv x5) vF);have Q6:=Hd (H.cell (i:=6) (v:=wv x6) vF);have Q7:=Hd (H.cell (i:=7) (v:=wv x7) vF);clear H;go_wp2_with fail
   refine jaw [0,1,2,3,4,5] [] Ext ExtR ExtT vY vY vY ?_
   refine vP ?_
   refine qL ⟨A,0,none⟩ _ rfl (fun w1 z=>jac Tryz.uU32 rfl (jaa (by exact Q0.o) z)) ?_;refine vS ?_
   refine vP ?_
   refine qL ⟨A,4,none⟩ _ rfl (fun w1 z=>jac Tryz.uU32 rfl (jaa (by exact Q4.o) z)) ?_;refine vS ?_;iterate 2 refine vP ?_
   refine qE (fun w3 E=>?_);have X3:=Hd ((jaq wr).trans E);clear E;go_wp2_with fail
   refine jaw [0,1,2,3,4,5,6,7,8,9,10,11,12,13,14,15,16,17,18,19,20,21,22,23,24,25,26,27,28,29,30] [] Ext ExtR ExtT vY vY vY ?_
   refine vP ?_
   refine qL ⟨A,7,none⟩ _ rfl (fun w1 z=>jac Tryz.uU32 rfl (jaa (by exact jaa Q7.o (X3.o.trans (jaq w3))) z)) ?_;refine vS ?_
   refine vP ?_
   refine jc6 _ 119 #[wv Q,.int .i64 6] (wv (rotW Q 6)) rfl vY rfl (fun w1=>jaG Tryz.enterRight vY) (fun w1 z=>(jAV w1 Q).mono (fun e w2 ⟨z,h2⟩=>⟨z,h2 ▸ ExtR w1⟩)) ?_;refine vS ?_
   refine vP ?_
   refine jc6 _ 119 #[wv Q,.int .i64 11] (wv (rotW Q 11)) rfl vY rfl (fun w1=>jaG Tryz.enterRight vY) (fun w1 z=>(jy0 w1 Q).mono (fun e w2 ⟨z,h2⟩=>⟨z,h2 ▸ ExtR w1⟩)) ?_;refine vS ?_;iterate 2 refine vP ?_
   refine jc6 _ 119 #[wv Q,.int .i64 25] (wv (rotW Q 25)) rfl vY rfl (fun w1=>jaG Tryz.enterRight vY) (fun w1 z=>(jy6 w1 Q).mono (fun e w2 ⟨z,h2⟩=>⟨z,h2 ▸ ExtR w1⟩)) ?_;refine vS ?_;iterate 4 refine vP ?_
   refine qL ⟨A,5,none⟩ _ rfl (fun w1 z=>jac Tryz.uU32 rfl (jaa (by exact jaa Q5.o (X3.o.trans (jaq w3))) z)) ?_;refine vS ?_;iterate 4 refine vP ?_
   refine qL ⟨A,6,none⟩ _ rfl (fun w1 z=>jac Tryz.uU32 rfl (jaa (by exact jaa Q6.o (X3.o.trans (jaq w3))) z)) ?_;refine vS ?_;iterate 5 refine vP ?_
   refine qL ⟨0,k,none⟩ _ rfl (fun w1 z=>jac Tryz.uU32 rfl (jaa (by exact jaa QC.o (X3.o.trans (jaq w3))) z)) ?_;refine vS ?_;iterate 3 refine vP ?_
   refine qL ⟨g4,k,none⟩ _ rfl (fun w1 z=>jac Tryz.uU32 rfl (jaa (by exact jaa QW.o (X3.o.trans (jaq w3))) z)) ?_;refine vS ?_;iterate 2 refine vP ?_
   refine qE (fun w4 E=>?_);have X4:=Hd (X3.o.trans ((jaq w3).trans E));clear E X3
   obtain⟨tv,b9⟩:∃ t,t=tOne ⟨J,x1,x2,x3,Q,x5,x6,x7⟩ ck wk:=⟨_,rfl⟩
   have Z:=b9;unfold tOne at Z;simp only at Z;rw[<-Z];have f4:=Hd b9;clear b9 Z;go_wp2_with fail
   refine jaw [0,1,2,3,4,5,6,7,8,9,10,11,12,13,14,15,16,17,18,19,20,21,22,23,24] [] Ext ExtR ExtT vY vY vY ?_
   refine vP ?_
   refine jc6 _ 119 #[wv J,.int .i64 2] (wv (rotW J 2)) rfl vY rfl (fun w1=>jaG Tryz.enterRight vY) (fun w1 z=>(jAU w1 J).mono (fun e w2 ⟨z,h2⟩=>⟨z,h2 ▸ ExtR w1⟩)) ?_;refine vS ?_
   refine vP ?_
   refine jc6 _ 119 #[wv J,.int .i64 13] (wv (rotW J 13)) rfl vY rfl (fun w1=>jaG Tryz.enterRight vY) (fun w1 z=>(jy1 w1 J).mono (fun e w2 ⟨z,h2⟩=>⟨z,h2 ▸ ExtR w1⟩)) ?_;refine vS ?_;iterate 2 refine vP ?_
   refine jc6 _ 119 #[wv J,.int .i64 22] (wv (rotW J 22)) rfl vY rfl (fun w1=>jaG Tryz.enterRight vY) (fun w1 z=>(jy5 w1 J).mono (fun e w2 ⟨z,h2⟩=>⟨z,h2 ▸ ExtR w1⟩)) ?_;refine vS ?_;iterate 3 refine vP ?_
   refine qL ⟨A,1,none⟩ _ rfl (fun w1 z=>jac Tryz.uU32 rfl (jaa (by exact jaa Q1.o (X4.o.trans (jaq w4))) z)) ?_;refine vS ?_;iterate 3 refine vP ?_
   refine qL ⟨A,2,none⟩ _ rfl (fun w1 z=>jac Tryz.uU32 rfl (jaa (by exact jaa Q2.o (X4.o.trans (jaq w4))) z)) ?_;refine vS ?_;iterate 3 refine vP ?_
   refine qL ⟨A,1,none⟩ _ rfl (fun w1 z=>jac Tryz.uU32 rfl (jaa (by exact jaa Q1.o (X4.o.trans (jaq w4))) z)) ?_;refine vS ?_
   refine vP ?_
   refine qL ⟨A,2,none⟩ _ rfl (fun w1 z=>jac Tryz.uU32 rfl (jaa (by exact jaa Q2.o (X4.o.trans (jaq w4))) z)) ?_;refine vS ?_;iterate 4 refine vP ?_
   refine qE (fun w5 E=>?_);have X5:=Hd (X4.o.trans ((jaq w4).trans E));clear E X4
   obtain⟨sv,c0⟩:∃ t,t=tTwo ⟨J,x1,x2,x3,Q,x5,x6,x7⟩:=⟨_,rfl⟩
   have a0:=c0;unfold tTwo at a0;simp only at a0;rw[<-a0];have f5:=Hd c0;clear c0 a0;have e2:=Hd (HG.o.keeps X5.o (fun h=>h));have e3:=Hd (HK.o.trans' X5.o (fun _ _ h=>h.elim));clear HG HK X5 Q0 Q1 Q2 Q3 Q4 Q5 Q6 Q7 QC QW;go_wp2_with fail
   refine jaw [0,1,2] [2] Ext ExtR ExtT vY vY vY ?_;iterate 2 refine vP ?_
   refine qH _ rfl (fun w6 E K hK=>?_);have G1:=e2.o.keeps ((jaq w5).trans E) (fun h=>h);have K1:=e3.o.trans' ((jaq w5).trans E) (fun _ _ h=>h.elim);have c1:=run_copy_cells (P:=Tryz.prog) w6 202 202 3 151 A 1 7 7 ⟨A,0,none⟩ 7 8 [wv J,wv x1,wv x2,wv x3,wv Q,wv x5,wv x6] Tryz.uSlU32 Tryz.iU32 rfl
    (by intro j v O;rw[jhX];exact G1.cellL (by have:=(bW.1 O).1;simp at this;rcases (show j=0\/j=1\/j=2\/j=3\/j=4\/j=5\/j=6 by omega)with rfl | rfl | rfl | rfl | rfl | rfl | rfl <;> simpa [W8.cells]using O))
    (by intro j hj;rw[G1.cellL (i:=1+j) (bA (by simp[W8.cells]at hj ⊢;omega))];rfl)
    (by intro j hj;exact G1.frozen) (by intro v O;simp only[bM,cH,or_false]at O;rcases O with rfl | rfl | rfl | rfl | rfl | rfl | rfl <;> rfl)
   have G2:=Blk.setCells [wv J,wv x1,wv x2,wv x3,wv Q,wv x5,wv x6] 1 w6 _ G1 (by simp[W8.cells]);have K2:=K1.trans (jag.oneSetCells A [wv J,wv x1,wv x2,wv x3,wv Q,wv x5,wv x6] 1 w6)
   obtain⟨w7,b6⟩:=vE (w6.setCells A 1 [wv J,wv x1,wv x2,wv x3,wv Q,wv x5,wv x6])
   rw[<-b6]at c1 G2 K2;simp[W8.cells]at G2;have a3:=Hd G2;have a4:=Hd K2;clear G1 K1 G2 K2 b6 E e2 e3;refine jcD (w':=w7) (jmn c1 vY) (hK _ _ ?_);clear c1 hK K w6;refine qE (fun w8 E=>?_);have a2:=Hd (a3.o.keeps E (fun h=>h));have b0:=Hd (a4.o.trans' E (fun _ _ h=>h.elim));clear E a3 a4;have Q4:=a2.o.cell (i:=4) (v:=wv x3) vF;have F4:w8.frozen? ⟨A,4,none⟩=false:=a2.o.frozen;have G9:=a2.o.set_same (i:=4) (wv (addW x3 tv));have K9:=b0.o.setCell (p:=⟨A,4,none⟩) (.inl rfl) (wv (addW x3 tv));have a5:=Hd G9;have c2:=Hd K9;clear G9 K9 a2 b0;go_wp2_with fail
   rw[jkm rfl Q4 F4];go_wp2_with fail
   obtain⟨w9,e4⟩:=vE (w8.setCell ⟨A,4,none⟩ (wv (addW x3 tv)))
   rw[<-e4]at a5 c2 ⊢;clear e4 Q4 F4;have Q0:w9.cell? ⟨A,0,none⟩=some (wv J):=a5.o.cell (i:=0) vF;have F0:w9.frozen? ⟨A,0,none⟩=false:=a5.o.frozen;have G9:=a5.o.set_same (i:=0) (wv (addW tv sv));have K9:=c2.o.setCell (p:=⟨A,0,none⟩) (.inl rfl) (wv (addW tv sv));have e5:=Hd G9;have e6:=Hd K9;clear G9 K9 a5 c2;rw[jkm rfl Q0 F0];go_wp2_with fail
   obtain⟨wA,e7⟩:=vE (w9.setCell ⟨A,0,none⟩ (wv (addW tv sv)))
   rw[<-e7]at e5 e6 ⊢;clear e7 Q0 F0 w9 w8;go_roundw
   case rel=>exact⟨k+1,by omega,by go_num,by rw[f3.o];unfold jt7;rw[<-f4.o, <-f5.o];exact e5.o,e6.o⟩
   case measure=>exact vJ
  ·have c5:k=64:=vO
   subst c5
   obtain⟨U,c3⟩:=vE (jhB (jbu B) V 64)
   rw[<-c3]at H;have f6:=Hd c3;have f7:=Hd H;have e8:=Hd (d9.o.keeps HK.o d6);have f8:=Hd (e1.o.trans' HK.o (fun x hx e=>by omega));clear c3 H HK d9 e1 d7 d8 e0 hX hN hU;go_wp2_with fail
   obtain⟨wm,rfl⟩:=vE wr
   rw[show ((64:Nat):Int)=(64:Int)from rfl];have g3:Hid (bh < wm.heap.size):=e8.o.lt;go_loopw [92] (fun i w2=>jzn wm bh V.words U.words B n sz i w2) (fun i _=>8 - (intOf i).toNat)
   case atStart=>exact⟨0,by omega,rfl,e8.o,jag.refl _ _⟩
   case round =>
    obtain⟨k,hk,rfl,H,hK⟩:=hrel
    have HK:=Hd hK;have HG:=Hd H;clear hK H
    by_cases hlt:k < 8
    ·obtain⟨x,hx⟩:∃ x,V.words[k]?=some x:=⟨_,bA (by simp[W8.words];omega)⟩
     obtain⟨y,hy⟩:∃ y,U.words[k]?=some y:=⟨_,bA (by simp[W8.words];omega)⟩
     have a6:(jhT V.words U.words k).set k (addW x y)=jhT V.words U.words (k+1):=by
      have:=jrI (V:=V.words) (U:=U.words) (k:=k) rfl (by simp[W8.words];omega)
      rw[(bW.1 hx).2,(bW.1 hy).2]at this;exact this
     have q1:=HG.o.cellL (jjt ((jrH (V:=V.words) (U:=U.words) (k:=k) rfl (by simp[W8.words];omega)).trans hx));have q2:wr.cell? ⟨A,k,none⟩=some (wv y):=(f7.o.keeps HK.o (Ne.symm d6)).cellL (by rw[W8.cells_words,cA,hy];rfl);have a7:k < (jhT V.words U.words k).length:=by rw[jlW (V:=V.words) (U:=U.words) rfl];simp[W8.words];omega
     have Q1:=Hd q1;have Q2:=Hd q2;have c6:=Hd a6;have c7:=Hd a7;clear hx hy a6 q1 q2 a7;go_wp2_with fail
     refine jaw [0,1,2,3,4,5,6,7,8,9,10,11,12,13] [13] Ext ExtR ExtT vY vY vY ?_;iterate 2 refine vP ?_
     refine qA _ (.pointer (some ⟨bh,0,none⟩)) rfl (fun w1=>by kernel_rfl) ?_;refine vS ?_;iterate 2 refine vP ?_
     refine qL ⟨bh,k,none⟩ _ rfl (fun w1 z=>jac Tryz.uU32 rfl (jaa (by exact Q1.o) z)) ?_;refine vS ?_;iterate 2 refine vP ?_
     refine qL ⟨A,k,none⟩ _ rfl (fun w1 z=>jac Tryz.uU32 rfl (jaa (by exact Q2.o) z)) ?_;refine vS ?_
     refine vP ?_
     refine qA _ (.pointer (some ⟨bh,0,none⟩)) rfl (fun w1=>by kernel_rfl) ?_;refine vS ?_;iterate 2 refine vP ?_
     refine qH _ rfl (fun w6 E K hK=>?_);have G1:=HG.o.keeps ((jaq wr).trans E) (fun h=>h);have K1:=HK.o.trans' ((jaq wr).trans E) (fun _ _ h=>h.elim);have e9:=jaa Q1.o ((jaq wr).trans E);have f0:w6.frozen? ⟨bh,k,none⟩=false:=G1.frozen;have G2:=G1.set_same (i:=k) (wv (addW x y));rw[jkY c7.o,c6.o]at G2;have K2:=K1.setCell (p:=⟨bh,k,none⟩) (.inl rfl) (wv (addW x y));have a3:=Hd G2;have a4:=Hd K2;clear G1 K1 G2 K2 E HG HK Q1 Q2;refine jlP bh k (wv (addW x y)) rfl vY vY rfl Tryz.iU32 e9 f0 (hK _ _ ?_);clear hK K e9 f0;refine qE (fun w8 E=>?_);have a2:=Hd (a3.o.keeps E (fun h=>h));have b0:=Hd (a4.o.trans' E (fun _ _ h=>h.elim));clear E a3 a4;go_wp2_with fail
     go_roundw
     case rel=>exact⟨k+1,by omega,by go_num,a2.o,b0.o⟩
     case measure=>exact vJ
    ·have f9:k=8:=vO
     subst f9;have a1:=HG.o;rw[jrG,f6.o]at a1;have HF:=Hd a1;have HX:=Hd ((f8.o.mono (G:=fun x=>x=bh) (fun _ _ h=>h.elim)).trans HK.o);clear a1;go_wp2_with fail
     go_end0
     exact⟨rfl,HF.o,HX.o⟩
end Go.Proofs.YtepbencaoiompaaGreatDoor
