/- Lemmas; each is under no condition but those that it states. -/
import Derived.Test.YtegloohdmjadoaaGreatDoorPu4
import Derived.Deep.MidRow
namespace Go.Proofs.YtegloohdmjadoaaGreatDoor
set_option linter.unusedSimpArgs false
set_option linter.unusedVariables false
set_option maxRecDepth 100000
set_option maxHeartbeats 16000000
open Go Go.RowKit
def beW(a b c d:vU):UInt32:=a.toUInt32 <<< 24 ||| b.toUInt32 <<< 16 ||| c.toUInt32 <<< 8 ||| d.toUInt32
def jeX(B:vN)(i:Nat):UInt32:=beW (B.getD (4 * i) 0) (B.getD (4 * i+1) 0) (B.getD (4 * i+2) 0) (B.getD (4 * i+3) 0)
def jdZ(B:vN)(k:Nat):List UInt32:=(List.range k).map (jeX B)
def sig0(x:UInt32):UInt32:=xorW (xorW (rotW x 7) (rotW x 18)) (shrW x 3)
def sig1(x:UInt32):UInt32:=xorW (xorW (rotW x 17) (rotW x 19)) (shrW x 10)
def jjk(W:List UInt32):UInt32:=addW (addW (addW (W.getD (W.length - 16) 0) (sig0 (W.getD (W.length - 15) 0))) (W.getD (W.length - 7) 0)) (sig1 (W.getD (W.length - 2) 0))
def jg7(B:vN):Nat->List UInt32
 | 0=>jdZ B 16
 | j+1=>jg7 B j++[jjk (jg7 B j)]
theorem jcx(B:vN):∀ j,(jg7 B j).length=16+j
 | 0=>by simp[jg7,jdZ]
 | j+1=>by simp[jg7,jcx B j];omega
def ja8(B:vN):List UInt32:=jg7 B 48
def jdI(W:List UInt32)(n:Nat):List vV:=W.map wv++List.replicate (n - W.length) (wv 0)
theorem jjy{W:List UInt32}{n:Nat}(h:W.length<=n):(jdI W n).length=n:=by simp[jdI];omega
theorem jjz{W:List UInt32}{n:Nat}(h:W.length < n)(x:UInt32):(jdI W n).set W.length (wv x)=jdI (W++[x]) n:=by
 unfold jdI;rw[fD _ _ (by simp),show n - W.length=(n - (W++[x]).length)+1 by simp;omega,fC]
 simp
theorem jfv{W:List UInt32}{n i:Nat}(h:i < W.length):(jdI W n)[i]?=some (wv (W.getD i 0)):=by
 unfold jdI;rw[cP (by simpa using h)];simp[h]
theorem jm6{W:List UInt32}{n:Nat}(h:W.length=n):jdI W n=W.map wv:=by simp[jdI,h]
theorem jyR(a b c d:vU):bits .or .u32 (bits .or .u32 (bits .or .u32 ((a.toNat:Int) % (4294967296:Int) * (16777216:Int) % (4294967296:Int)) ((b.toNat:Int) % (4294967296:Int) * (65536:Int) % (4294967296:Int))) ((c.toNat:Int) % (4294967296:Int) * (256:Int) % (4294967296:Int))) ((d.toNat:Int) % (4294967296:Int))=((beW a b c d).toNat:Int):=by
 have e:∀ (x:vU) (s:UInt32) (m:Nat),s.toNat < 32->m=2 ^ s.toNat->(x.toNat:Int) % (4294967296:Int) * (m:Int) % (4294967296:Int)=((x.toUInt32 <<< s).toNat:Int):=by
  intro x s m o A;rw[UInt32.toNat_shiftLeft,fK o,Nat.shiftLeft_eq,A];have h:=x.toNat_lt;rw[show (x.toNat:Int) % (4294967296:Int)=(x.toNat:Int) by omega]
  simp
 have E:(a.toNat:Int) % (4294967296:Int) * (16777216:Int) % (4294967296:Int)=((a.toUInt32 <<< 24).toNat:Int):=e a 24 16777216 vI vI;have H:(b.toNat:Int) % (4294967296:Int) * (65536:Int) % (4294967296:Int)=((b.toUInt32 <<< 16).toNat:Int):=e b 16 65536 vI vI;have J:(c.toNat:Int) % (4294967296:Int) * (256:Int) % (4294967296:Int)=((c.toUInt32 <<< 8).toNat:Int):=e c 8 256 vI vI;have K:(d.toNat:Int) % (4294967296:Int)=(d.toUInt32.toNat:Int):=by have:=d.toNat_lt;simp;omega
 rw[E,H,J,K,jga,jga,jga];rfl
def jgK(w:vW)(b o:Nat)(B:vN):Prop:=∀ (j:Nat) x,B[j]?=some x->w.cell? ⟨b,o+j,none⟩=some (.int .u8 (x.toNat:Int))
theorem jgK.keeps{F:BSet}{w w':vW}{b o:Nat}{B:vN}(h:jgK w b o B)(k:jae F w w')(hF:¬ F b):jgK w' b o B:=fun j x A=>by
 have:=h j x A
 have m:=fE w _ this;have e:=k.block b m hF;unfold World.cell? at *;rw[e];exact this
theorem Tryz.uArr64:Tryz.prog.underlying 184=some (.array 64 145):=vY
theorem Tryz.iArr64:(Tryz.prog.info? 184).map (·.size)=some 64:=vY
theorem jsX{w:vW}{b:Nat}{C:List vV}{T:TypeId}{fz:Nat × Nat}(h:Blk w b (.cells C.toArray T fz)):w.rangeAt b 0 C:=fun j v e=>by rw[cF];exact h.cellL e
theorem jk3{w:vW}{b:Nat}{C:List vV}{T:TypeId}(h:Blk w b (.cells C.toArray T)):w.there b 0 C.length:=fun j e=>by
 rw[cF];exact⟨by rw[h.cellL (bA e)];rfl,h.frozen⟩
theorem jtH{W:List UInt32}:∀ v∈W.map wv,v.oneCell'=true:=fun v e=>by obtain⟨x,_,rfl⟩:=bI.1 e;rfl
def jAu(w:vW)(b g:Nat)(B:vN)(i:vV)(wr:vW):Prop:=∃ k:Nat,k<=16/\i=.int .i64 k/\Blk wr g (.cells (jdI (jdZ B k) 64).toArray 184)/\jae (fun x=>x=g) w wr
def jyF(w:vW)(g:Nat)(B:vN)(i:vV)(wr:vW):Prop:=∃ m:Nat,16<=m/\m<=64/\i=.int .i64 m/\Blk wr g (.cells (jdI (jg7 B (m - 16)) 64).toArray 184)/\jae (fun x=>x=g) w wr
theorem jvD(w:vW)(b o:Nat)(B:vN)(hL:B.length=64)(hB:jgK w b o B):vR 134 #[.slice (some ⟨b,o,none⟩) 64 64] w (.agg ((ja8 B).map wv).toArray):=by
 have HB:=Hd hB;have HL:=Hd hL;have g3:b < w.heap.size:=fE w _ (hB 0 (B[0]'(by omega)) (bA vO));have hX:∀ (p q:UInt32) (w:vW),(binOp .xor 145 (wv p) (wv q)).run Tryz.prog w=.ok (wv (xorW p q)) w:=fun _ _ _=>jkZ;have hA:∀ (p q:UInt32) (w:vW),(binOp .add 145 (wv p) (wv q)).run Tryz.prog w=.ok (wv (addW p q)) w:=fun _ _ _=>jkX;have g5:∀ (p:UInt32) (w:vW),(binOp .shr 145 (wv p) (.int .u64 3)).run Tryz.prog w=.ok (wv (shrW p 3)) w:=fun _ _=>jdd 3 vI .u64;have g4:∀ (p:UInt32) (w:vW),(binOp .shr 145 (wv p) (.int .u64 10)).run Tryz.prog w=.ok (wv (shrW p 10)) w:=fun _ _=>jdd 10 vI .u64;clear hB hL;go_enter Tryz.func134,Tryz.ntmps134;go_wp2_with fail
 obtain⟨W1,a8⟩:∃ W1,w.alloc (.cells (List.replicate 64 (wv 0)).toArray 184)=W1:=⟨_,rfl⟩
 obtain⟨W0,a9⟩:∃ W0,W1.alloc (.cells (List.replicate 64 (wv 0)).toArray 184)=W0:=⟨_,rfl⟩
 have d9:W1.heap.size=w.heap.size+1:=by rw[<-a8];simp
 have G2:Blk W0 w.heap.size (.cells (List.replicate 64 (wv 0)).toArray 184):=by rw[<-a9];refine Blk.alloc ?_ _;rw[<-a8];exact Blk.new w _
 have G3:Blk W0 (w.heap.size+1) (.cells (List.replicate 64 (wv 0)).toArray 184):=by rw[<-a9, <-d9];exact Blk.new W1 _
 have E0:Ext w W0:=by rw[<-a9, <-a8];exact ((ExtR w).alloc _).alloc _
 change Code.wp _ _ _ _ ((w.alloc (.cells (List.replicate 64 (wv 0)).toArray 184)).alloc (.cells (List.replicate 64 (wv 0)).toArray 184));rw[a8,a9];have f8:=Hd G2;have f9:=Hd G3;have e0:=Hd E0;clear a9 a8 d9 G2 G3 E0;go_loopw [11] (fun i wr=>jAu W0 b (w.heap.size+1) B i wr) (fun i _=>16 - (intOf i).toNat)
 case atStart=>exact⟨0,by omega,rfl,f9.o,jae.refl _ _⟩
 case round =>
  obtain⟨k,hk,rfl,hG,hK⟩:=hrel
  have HG:=Hd hG;have HK:=Hd hK;clear hG hK
  by_cases hlt:k < 16
  ·have c1:(0:Int)<=4 * (k:Int):=vO
   have c2:4 * (k:Int)<=4 * (k:Int)+4:=vO
   have c3:4 * (k:Int)+4<=64:=vO
   have c4:(4 * (k:Int)).toNat=4 * k:=vO
   have c5:(4 * (k:Int)+4).toNat=4 * k+4:=vO
   have b0:jgK wr b o B:=((HB.o.keeps e0.o (fun h=>h)).keeps HK.o vO);have q0:wr.cell? ⟨b,o+4 * k,none⟩=some (.int .u8 ((B.getD (4 * k) 0).toNat:Int)):=b0 (4 * k) _ (by rw[bA (by have:=HL.o;omega)];congr 1;simp[show 4 * k < B.length by have:=HL.o;omega]);have q1:wr.cell? ⟨b,o+4 * k+1,none⟩=some (.int .u8 ((B.getD (4 * k+1) 0).toNat:Int)):=b0 (4 * k+1) _ (by rw[bA (by have:=HL.o;omega)];congr 1;simp[show 4 * k+1 < B.length by have:=HL.o;omega]);have q2:wr.cell? ⟨b,o+4 * k+2,none⟩=some (.int .u8 ((B.getD (4 * k+2) 0).toNat:Int)):=b0 (4 * k+2) _ (by rw[bA (by have:=HL.o;omega)];congr 1;simp[show 4 * k+2 < B.length by have:=HL.o;omega]);have q3:wr.cell? ⟨b,o+4 * k+3,none⟩=some (.int .u8 ((B.getD (4 * k+3) 0).toNat:Int)):=b0 (4 * k+3) _ (by rw[bA (by have:=HL.o;omega)];congr 1;simp[show 4 * k+3 < B.length by have:=HL.o;omega]);have b9:=Hd q0;have c0:=Hd q1;have c6:=Hd q2;have c7:=Hd q3;clear q0 q1 q2 q3 b0
   obtain⟨x0,c8⟩:=vE (B.getD (4 * k) 0)
   obtain⟨x1,c9⟩:=vE (B.getD (4 * k+1) 0)
   obtain⟨x2,Q⟩:=vE (B.getD (4 * k+2) 0)
   obtain⟨x3,d0⟩:=vE (B.getD (4 * k+3) 0)
   rw[<-c8]at b9;rw[<-c9]at c0;rw[<-Q]at c6;rw[<-d0]at c7;have HW:=Hd (show jeX B k=beW x0 x1 x2 x3 by rw[c8,c9,Q,d0];rfl);clear c8 c9 Q d0;go_wp2_with fail
   refine jay [0,1,2,3,4,5,6,7,8,9,10,11,12,13,14,15,16,17,18,19,20,21,22,23,24] [24] Ext ExtR ExtT vY vY vY ?_;iterate 3 refine vP ?_
   refine qL ⟨b,o+4 * k,none⟩ _ rfl (fun w1 X=>jab Tryz.uU8 rfl (jaa (by exact b9.o) X)) ?_;refine vS ?_;iterate 4 refine vP ?_
   refine qL ⟨b,o+4 * k+1,none⟩ _ rfl (fun w1 X=>jab Tryz.uU8 rfl (jaa (by exact c0.o) X)) ?_;refine vS ?_;iterate 5 refine vP ?_
   refine qL ⟨b,o+4 * k+2,none⟩ _ rfl (fun w1 X=>jab Tryz.uU8 rfl (jaa (by exact c6.o) X)) ?_;refine vS ?_;iterate 5 refine vP ?_
   refine qL ⟨b,o+4 * k+3,none⟩ _ rfl (fun w1 X=>jab Tryz.uU8 rfl (jaa (by exact c7.o) X)) ?_;refine vS ?_;iterate 3 refine vP ?_
   have e1:=jyR x0 x1 x2 x3;rw[<-HW.o]at e1;refine qH _ rfl (fun w1 H K hK=>?_);have G1:=HG.o.keeps ((jai wr).trans H) (fun h=>h);have K1:=HK.o.trans' ((jai wr).trans H) (fun _ _ h=>h.elim);have hl:(jdZ B k).length=k:=by simp[jdZ]
   obtain⟨old,q1⟩:∃ v,w1.cell? ⟨w.heap.size+1,k,none⟩=some v:=⟨_,G1.cellL (bA (by rw[jjy vO];omega))⟩
   have q2:w1.frozen? ⟨w.heap.size+1,k,none⟩=false:=G1.frozen;have G2:=G1.set_same (i:=k) (wv (jeX B k));have A:=jjz (W:=jdZ B k) (n:=64) vO (jeX B k);rw[hl]at A;have b1:jdZ B k++[jeX B k]=jdZ B (k+1):=by simp[jdZ,fT]
   rw[b1]at A;rw[show ((jdI (jdZ B k) 64).toArray.setIfInBounds k (wv (jeX B k)))=(jdI (jdZ B (k+1)) 64).toArray by rw[<-A];simp]at G2;have E:=Hd G2;have Z:=Hd (K1.setCell (p:=⟨w.heap.size+1,k,none⟩) (.inl rfl) (wv (jeX B k)));clear G1 K1 H hl G2 A b1 HG HK HW b9 c0 c6 c7;go_simp;refine hK _ _ ?_;clear hK K q1 q2;refine qE (fun w2 H=>?_);have d1:=Hd (E.o.keeps H (fun h=>h));have d2:=Hd (Z.o.trans' H (fun _ _ h=>h.elim));clear H E Z e1;go_wp2_with fail
   go_roundw
   case rel=>exact⟨k+1,by omega,by go_num,d1.o,d2.o⟩
   case measure=>exact vJ
  ·have d6:k=16:=vO
   subst d6;have e2:=Hd (f8.o.keeps HK.o vO);go_wp2_with fail
   obtain⟨W2,rfl⟩:=vE wr
   rw[show ((16:Nat):Int)=(16:Int)from rfl];go_loopw [6] (fun i wr=>jyF W2 (w.heap.size+1) B i wr) (fun i _=>64 - (intOf i).toNat)
   case atStart=>exact⟨16,by omega,by omega,rfl,HG.o,jae.refl _ _⟩
   case round =>
    obtain⟨m,g6,g8,rfl,hG,hK⟩:=hrel
    have O:=Hd hG;have b2:=Hd hK;clear hG hK HG
    by_cases hlt:m < 64
    ·have e3:=jcx B (m - 16)
     obtain⟨a5,b4⟩:∃ a,a=m - 15:=⟨_,rfl⟩
     obtain⟨a2,e4⟩:∃ a,a=m - 2:=⟨_,rfl⟩
     obtain⟨a6,b5⟩:∃ a,a=m - 16:=⟨_,rfl⟩
     obtain⟨a7,e5⟩:∃ a,a=m - 7:=⟨_,rfl⟩
     have g9:(m:Int) - 15=(a5:Int):=vO
     have f2:(m:Int) - 2=(a2:Int):=vO
     have h0:(m:Int) - 16=(a6:Int):=vO
     have f7:(m:Int) - 7=(a7:Int):=vO
     have h2:a5 < 64:=vO
     have l2:a2 < 64:=vO
     have h3:a6 < 64:=vO
     have l7:a7 < 64:=vO
     have b7:=O.o.cellL (i:=a5) (jfv (n:=64) vO);have g2:=O.o.cellL (i:=a2) (jfv (n:=64) vO);have b8:=O.o.cellL (i:=a6) (jfv (n:=64) vO);have g7:=O.o.cellL (i:=a7) (jfv (n:=64) vO)
     obtain⟨J,d3⟩:=vE (jg7 B (m - 16))
     have e6:=Hd d3;rw[<-d3]at b7 g2 b8 g7 e3;have a1:J.length=m:=vO
     have d4:jjk J=addW (addW (addW (J.getD a6 0) (sig0 (J.getD a5 0))) (J.getD a7 0)) (sig1 (J.getD a2 0)):=by
      unfold jjk;rw[a1, <-b5, <-b4, <-e5, <-e4]
     obtain⟨e7,a3⟩:∃ x,x=J.getD a5 0:=⟨_,rfl⟩
     obtain⟨x2,Q⟩:∃ x,x=J.getD a2 0:=⟨_,rfl⟩
     obtain⟨h4,a4⟩:∃ x,x=J.getD a6 0:=⟨_,rfl⟩
     obtain⟨x7,d5⟩:∃ x,x=J.getD a7 0:=⟨_,rfl⟩
     rw[<-a3]at b7;rw[<-Q]at g2;rw[<-a4]at b8;rw[<-d5]at g7;rw[<-a3, <-Q, <-a4, <-d5]at d4;have e8:=Hd d4;have d7:=Hd a1;have e9:=Hd b7;have H2:=Hd g2;have f0:=Hd b8;have H7:=Hd g7;clear a3 Q a4 d5 d4 a1 b7 g2 b8 g7 b4 e4 b5 e5 e3 d3;go_wp2_with fail
     refine jay [0,1,2,3,4,5,6,7,8,9] [] Ext ExtR ExtT vY vY vY ?_;iterate 3 refine vP ?_
     refine qL ⟨w.heap.size+1,a5,none⟩ _ rfl (fun w1 X=>jab Tryz.uU32 rfl (jaa (by exact e9.o) X)) ?_;refine vS ?_;iterate 3 refine vP ?_
     refine qL ⟨w.heap.size+1,a2,none⟩ _ rfl (fun w1 X=>jab Tryz.uU32 rfl (jaa (by exact H2.o) X)) ?_;refine vS ?_;iterate 2 refine vP ?_
     refine qE (fun w3 H=>?_);have X1:=Hd ((jai wr).trans H);clear H;go_wp2_with fail
     refine (jzK w3 e7).mono ?_;rintro e w4 ⟨rfl,rfl⟩;go_wp2_with fail
     refine (jxH w3 e7).mono ?_;rintro e w4 ⟨rfl,rfl⟩;go_wp2_with fail
     refine (jxG w3 x2).mono ?_;rintro e w4 ⟨rfl,rfl⟩;go_wp2_with fail
     refine (jxI w3 x2).mono ?_;rintro e w4 ⟨rfl,rfl⟩;go_wp2_with fail
     have b6:=Hd (jaa f0.o X1.o);have f1:=Hd (jaa H7.o X1.o);have f3:=Hd (O.o.keeps X1.o (fun h=>h));have f4:=Hd (b2.o.trans' X1.o (fun _ _ h=>h.elim));clear f0 H7 O b2 X1 e9 H2;refine jay [0,1,2,3,4,5,6,7,8,9,10,11,12,13,14,15] [15] Ext ExtR ExtT vY vY vY ?_;iterate 4 refine vP ?_
     refine qL ⟨w.heap.size+1,a6,none⟩ _ rfl (fun w1 X=>jab Tryz.uU32 rfl (jaa (by exact b6.o) X)) ?_;refine vS ?_;iterate 5 refine vP ?_
     refine qL ⟨w.heap.size+1,a7,none⟩ _ rfl (fun w1 X=>jab Tryz.uU32 rfl (jaa (by exact f1.o) X)) ?_;refine vS ?_;iterate 4 refine vP ?_
     refine qH _ rfl (fun w1 H K hK=>?_);have G1:=f3.o.keeps ((jai w3).trans H) (fun h=>h);have K1:=f4.o.trans' ((jai w3).trans H) (fun _ _ h=>h.elim);have hl:=d7.o;rw[<-e6.o]at G1
     obtain⟨old,q1⟩:∃ v,w1.cell? ⟨w.heap.size+1,m,none⟩=some v:=⟨_,G1.cellL (bA (by rw[jjy vO];omega))⟩
     have q2:w1.frozen? ⟨w.heap.size+1,m,none⟩=false:=G1.frozen;have G2:=G1.set_same (i:=m) (wv (jjk J));have A:=jjz (W:=J) (n:=64) vO (jjk J);rw[hl]at A;have b1:J++[jjk J]=jg7 B (m+1 - 16):=by
      rw[show m+1 - 16=(m - 16)+1 by omega];simp only[jg7];rw[<-e6.o]
     rw[b1]at A;rw[show ((jdI J 64).toArray.setIfInBounds m (wv (jjk J)))=(jdI (jg7 B (m+1 - 16)) 64).toArray by rw[<-A];simp]at G2;have K2:=K1.setCell (p:=⟨w.heap.size+1,m,none⟩) (.inl rfl) (wv (jjk J));rw[e8.o]at G2 K2;have E:=Hd G2;have Z:=Hd K2;clear G1 K1 H hl G2 A b1 K2 f3 f4 b6 f1 e8;unfold sig0 sig1 at E Z;refine jlc _ _ _ rfl rfl rfl rfl Tryz.iU32 q1 q2 (hK _ _ ?_);clear hK K q1 q2;refine qE (fun w2 H=>?_);have d1:=Hd (E.o.keeps H (fun h=>h));have d2:=Hd (Z.o.trans' H (fun _ _ h=>h.elim));clear H E Z;go_wp2_with fail
     go_roundw
     case rel=>exact⟨m+1,by omega,by omega,by go_num,d1.o,d2.o⟩
     case measure=>exact vJ
    ·have d8:m=64:=vO
     subst d8;have a0:=jm6 (W:=ja8 B) (n:=64) (by unfold ja8;rw[jcx]);have g0:Hid (Blk wr (w.heap.size+1) (.cells ((ja8 B).map wv).toArray 184)):=Hd (by rw[<-a0];exact O.o);have f5:=Hd (e2.o.keeps b2.o vO);have HX:=Hd ((e0.o.trans' HK.o (G:=fun x=>x=w.heap.size+1) (fun x hx e=>by omega)).trans' b2.o (fun x hx e=>by omega));clear a0 O b2 HK e2;have f6:((ja8 B).map wv).length=64:=by simp[ja8,jcx]
     have b3:=Hd f6;clear f6;go_wp2_with (first |(refine wpList_load_mid rfl 184 (.tmp 3) rfl (w.heap.size+1) 0 rfl ((ja8 B).map wv) (.array 64 145) (jsX g0.o) Tryz.uArr64 rfl (by rw[b3.o];exact Tryz.iArr64) ?_) |(refine wpList_store_mid rfl 184 (.tmp 2) (.tmp 92) rfl w.heap.size 0 ((ja8 B).map wv).toArray rfl rfl (by have:=jk3 f5.o;simpa [ja8,jcx]using this) (by simp only[dN];rw[b3.o];exact Tryz.iArr64) (all_oneCell_toArray jtH) ?_))
     have hb:Blk (wr.setCells w.heap.size 0 ((ja8 B).map wv)) w.heap.size (.cells ((ja8 B).map wv).toArray 184):=by
      have:=Blk.setCells ((ja8 B).map wv) 0 wr (List.replicate 64 (wv 0)) f5.o (by rw[b3.o];simp)
      simpa [b3.o]using this
     have hx:=HX.o.trans' (jae.oneSetCells w.heap.size ((ja8 B).map wv) 0 wr) (fun x hx e=>by omega);have g1:=run_loadVar_mid (P:=Tryz.prog) _ w.heap.size 0 184 _ _ (jsX hb) Tryz.uArr64 rfl (by rw[b3.o];exact Tryz.iArr64);exact bodyPost_ret (v:=.agg ((ja8 B).map wv).toArray) (jbL (t:=2) (ty:=184) rfl rfl g1) rfl ⟨rfl,hx⟩
section
section mixe
variable {P:Program} {l:List Oper} {E:vW->vW->Prop}
def anyK(P:Program)(ops:Array Oper)(E:vW->vW->Prop)(Q:Act->vW->Prop):Nat->Array Bool->Act->vW->Prop
 | 0,listed,a,w=>∀ w1,E w w1->Region.ready .any ops listed=[]/\Q a w1
 | fuel+1,listed,a,w=>∀ w1,E w w1 ->
  (Region.ready .any ops listed=[]->Q a w1) /\
  ∀ i∈Region.ready .any ops listed,wpOp P ops NoQ i (fun a' w'=>E w1 w'/\anyK P ops E Q fuel (listed.setIfInBounds i true) a' w') a w1
theorem jqW(hT:∀ x y z,E x y->E y z->E x z){ops:Array Oper}{Q:Act->vW->Prop}:∀ (fuel:Nat) (listed:Array Bool) (a:Act) (w w1:vW),anyK P ops E Q fuel listed a w->E w w1->anyK P ops E Q fuel listed a w1
 | 0,_,_,_,_,h,he=>fun e m=>h e (hT _ _ _ he m)
 | _+1,_,_,_,_,h,he=>fun e m=>h e (hT _ _ _ he m)
theorem jjq(hE:∀ w,E w w){ops:Array Oper}{Q:Act->vW->Prop}{Q':Exit->Act->vW->Prop}(hQ:∀ a w,Q a w->Q' .normal a w) :
  ∀ (fuel:Nat) (listed:Array Bool) (a:Act) (w:vW),anyK P ops E Q fuel listed a w->wpAny P .any ops Q' fuel listed a w
 | 0,_,_,w,h=>let ⟨h1,h2⟩:=h w (hE w);⟨h1,hQ _ _ h2⟩
 | fuel+1,_,_,w,h=>let ⟨h1,h2⟩:=h w (hE w)
  ⟨fun e=>hQ _ _ (h1 e),fun i m=>jh5 (fun o w' ⟨_,A⟩=>jjq hE hQ fuel _ o w' A) (h2 i m)⟩
theorem jpx(hE:∀ w,E w w)(hT:∀ x y z,E x y->E y z->E x z){ops:Array Oper}{Q:Act->vW->Prop}{i:Nat}{oi:Oper}{v:vV}(hi:ops[i]?=some oi)(hsel:∀ (j:Nat) (o:Oper) cs b,ops[j]?=some o->o.op≠.select cs b) :
  ∀ (A:Nat) (m:Array Bool) (a:Act) (w:vW),
   (∀ j oj,ops[j]?=some oj->j≠i->m.getD j true=false->(∀ e∈oj.after,Region.binds .any e=true->e.on≠i)->oi.apart ops oj=true) ->
   i∈Region.ready .any ops m->jbN P ops E w oi v a ->
   anyK P ops E Q A (m.setIfInBounds i true) (a.put oi.dst v) w->anyK P ops E Q (A+1) m a w:=by
 intro A;induction A with
 | zero =>
  intro m a w _ hr hy H w1 O
  refine⟨fun h=>(by rw[h]at hr;cases hr),fun j hj=>?_⟩
  by_cases hji:j=i
  ·subst hji;exact hy.wpOp hi O hE (fun w' J=>⟨J,jqW hT _ _ _ _ _ H (hT _ _ _ O J)⟩)
  ·have:=ready_mono hj hji
   rw[(H w1 O).1]at this;cases this
 | succ A ih =>
  intro m a w K hr hy H w1 O
  refine⟨fun h=>(by rw[h]at hr;cases hr),fun j hj=>?_⟩
  by_cases hji:j=i
  ·subst hji;exact hy.wpOp hi O hE (fun w' J=>⟨J,jqW hT _ _ _ _ _ H (hT _ _ _ O J)⟩)
  ·have J:=(H w1 O).2 j (ready_mono hj hji)
   obtain⟨Z,oj,a0,a3⟩:=mem_ready.1 hj
   have a4:∀ e∈oj.after,Region.binds .any e=true->e.on≠i:=fun e O hb a6=>by
    have J:=a3 e O hb;have h0:=(mem_ready.1 hr).1;rw[a6]at J;rcases fH i m.size with h' | h'
    ·simp[h']at h0 J;rw[h0]at J;cases J
    ·simp[gH h']at J
   have h2:=jfr (v:=v) (Y:=fun a'=>execOp a'.eval oi=execOp a.eval oi/\Region.wanted oi (yielded ops a'.tmps)=Region.wanted oi (yielded ops a.tmps)) a0 (K j oj a0 hji Z a4) (fun cs b=>hsel i oi cs b hi) (fun cs b=>hsel j oj cs b a0)
    (fun a1 a2 h e1 e2=>⟨e1.trans h.1,e2.trans h.2⟩) ⟨rfl,rfl⟩ J
   have X:∀ k ok,ops[k]?=some ok->k≠i->(m.setIfInBounds j true).getD k true=false ->
     (∀ e∈ok.after,Region.binds .any e=true->e.on≠i)->oi.apart ops ok=true:=fun k ok hk a7 a5 a8=>by
    refine K k ok hk a7 ?_ a8
    by_cases hjk:j=k
    ·subst hjk;exact Z
    ·rw[getD_set_ne true hjk]at a5;exact a5
   refine wpOp_mono (fun a' w' h3=>⟨h3.2.1,?_⟩) h2
   obtain⟨⟨e1,e2⟩,h4,h5⟩:=h3
   have a9:jbN P ops E w' oi v a':=(hy.of_same e1 e2).st hT (hT _ _ _ O h4);refine ih (m.setIfInBounds j true) a' w' X (ready_mono hr (Ne.symm hji)) a9 ?_;rw[gQ _ _ hji];exact h5
def MixK(P:Program)(l:List Oper)(E:vW->vW->Prop)(Q:Act->vW->Prop):List Nat->List Nat->Act->vW->Prop
 | [],done,a,w=>∀ w1,E w w1->Region.ready .any l.toArray (jbc l done)=[]/\Q a w1
 | k :: ord,done,a,w =>
  (k∈Region.ready .any l.toArray (jbc l done)/\Region.free .any l.toArray (jbc l done) k=true/\∃ o v,l[k]?=some o/\jbN P l.toArray E w o v a/\MixK P l E Q ord (k :: done) (a.put o.dst v) w) \/
  (Region.ready .any l.toArray (jbc l done)=[k]/\∀ w1,E w w1->wpOp P l.toArray NoQ k (fun a' w'=>E w1 w'/\MixK P l E Q ord (k :: done) a' w') a w1)
theorem jfQ(hE:∀ w,E w w)(hT:∀ x y z,E x y->E y z->E x z)(hs:Region.noSelect l.toArray=true){Q:Act->vW->Prop}:∀ (ord:List Nat) (done:List Nat) (a:Act) (w:vW),
  MixK P l E Q ord done a w->anyK P l.toArray E Q ord.length (jbc l done) a w
 | [],_,_,_,h=>h
 | k :: ord,done,a,w,h=>by
  rcases h with⟨hr,hf,o,v,ho,hy,h⟩ |⟨hr,h⟩
  ·have e:l.toArray[k]?=some o:=by simpa using ho
   exact jpx hE hT e (gJ hs) ord.length (jbc l done) a w (gZ e hf) hr hy (jfQ hE hT hs ord _ _ _ h)
  ·intro w1 J
   refine⟨fun m=>(by rw[hr]at m;cases m),fun i A=>?_⟩
   rw[hr]at A;obtain rfl:i=k:=by simpa using A
   exact wpOp_mono (fun K w' H=>⟨H.1,jfQ hE hT hs ord _ _ _ H.2⟩) (h w1 J)
theorem jah(ord:List Nat)(E:vW->vW->Prop)(hE:∀ w,E w w)(hT:∀ x y z,E x y->E y z->E x z){id:Nat}{Q:Exit->Act->vW->Prop}{a:Act}{w:vW}
  (hm:P.follows .mixedOrders=true) (hs:Region.noSelect l.toArray=true) (hl:ord.length=l.toArray.size)
  (h:MixK P l E (fun a w=>Q .normal a w) ord [] a w.drew):(Code.region id l.toArray true).wp P Q a w:=by
 refine wp_region_any hm ?_;rw[<-hl]
 have:=jfQ hE hT hs ord _ _ _ h
 unfold jbc at this;rw[hl]at this ⊢;exact jjq hE (fun _ _ h=>h) _ _ _ _ this
variable {Q:Act->vW->Prop} {ord done:List Nat} {a:Act} {w:vW} {k:Nat} {o:Oper}
def jhD(l:List Oper)(done:List Nat)(k:Nat):Bool:=(Region.ready .any l.toArray (jbc l done)).contains k && Region.free .any l.toArray (jbc l done) k
def jvU(l:List Oper)(done:List Nat)(k:Nat):Bool:=Region.ready .any l.toArray (jbc l done) == [k]
theorem jso(o:Oper)(ho:l[k]?=some o)(hk:jhD l done k=true)(hw:Region.wanted o (yielded l.toArray a.tmps)=true)(hq:jiH o.op=true)
  (h:∀ K:Act->Prop,(∀ a',MixK P l E Q ord (k :: done) a' w->K a')->o.quiet P a (fun _=>True) K):MixK P l E Q (k :: ord) done a w:=by
 simp only[jhD,cJ,cO]at hk
 obtain⟨v,A,H⟩:=h _ (fun _ h=>h)
 have m:jbN P l.toArray E w o v a:=by
  refine .inl ⟨hw,fun w1 _=>?_⟩;have e:=A w1 trivial;unfold Oper.quietAt at e;have J:=fun f args w'=>jiW (ρ:=a.eval) hq P w1 w' f args;generalize (execOp a.eval o).run P w1=r at *;cases r with
  | ok n w'=>cases n <;> simp only[Oper.quietUpon]at e <;> first | exact e | exact absurd rfl (J _ _ _)
  | halt x w'=>simp only[Oper.quietUpon]at e
 exact .inl ⟨hk.1,hk.2,o,v,ho,m,H⟩
theorem jcr(o:Oper)(v:vV)(ho:l[k]?=some o)(hk:jhD l done k=true)(hw:Region.wanted o (yielded l.toArray a.tmps)=true)
  (hv:∀ w1,E w w1->(execOp a.eval o).run P w1=.ok (.value v) w1) (h:MixK P l E Q ord (k :: done) (a.put o.dst v) w):MixK P l E Q (k :: ord) done a w:=by
 simp only[jhD,cJ,cO]at hk;exact .inl ⟨hk.1,hk.2,o,v,ho,.inl ⟨hw,fun w1 e=>by rw[hv w1 e];exact⟨rfl,rfl⟩⟩,h⟩
theorem jsn(p:Addr)(v:vV){t:TypeId}{x:Operand}{d:Option Tmp}{ty:TypeId}{pos:String}{af:Array Edge}{g:Option (Nat × Bool)}(ho:l[k]?=some ⟨d,.load t x,ty,pos,af,g⟩)(hk:jhD l done k=true)
  (hw:Region.wanted ⟨d,.load t x,ty,pos,af,g⟩ (yielded l.toArray a.tmps)=true) (hx:a.eval x=.pointer (some p))
  (hv:∀ w1,E w w1->(Instr.loadAt t (.pointer (some p))).run P w1=.ok v w1) (h:MixK P l E Q ord (k :: done) (a.put d v) w):MixK P l E Q (k :: ord) done a w:=by
 refine jcr _ v ho hk hw (fun w1 e=>?_) h
 have:=hv w1 e
 simp only[execOp,hx,cA,this,Result.andThen,cR]
theorem qKL{t:TypeId}{x:Operand}{d:Option Tmp}{ty:TypeId}{pos:String}{af:Array Edge}{g:Option (Nat × Bool)}(p:Addr)(v:vV)(ho:l[k]?=some ⟨d,.load t x,ty,pos,af,g⟩)(hv:∀ w1,E w w1->(Instr.loadAt t (.pointer (some p))).run P w1=.ok v w1)(h:MixK P l E Q ord (k :: done) (a.put d v) w)(hk:jhD l done k=true:=by kernel_rfl)(hw:Region.wanted ⟨d,.load t x,ty,pos,af,g⟩ (yielded l.toArray a.tmps)=true:=by rfl)(hx:a.eval x=.pointer (some p):=by rfl):MixK P l E Q (k :: ord) done a w:=jsn p v ho hk hw hx hv h
theorem jsp(o:Oper)(ho:l[k]?=some o)(hk:jhD l done k=true)(hw:Region.wanted o (yielded l.toArray a.tmps)=false)
  (h:MixK P l E Q ord (k :: done) (a.put o.dst undef) w):MixK P l E Q (k :: ord) done a w:=by
 simp only[jhD,cJ,cO]at hk;exact .inl ⟨hk.1,hk.2,o,undef,ho,.inr ⟨hw,rfl⟩,h⟩
theorem qKS(o:Oper)(ho:l[k]?=some o)(h:MixK P l E Q ord (k :: done) (a.put o.dst undef) w)(hk:jhD l done k=true:=by kernel_rfl)(hw:Region.wanted o (yielded l.toArray a.tmps)=false:=by rfl):MixK P l E Q (k :: ord) done a w:=jsp o ho hk hw h
theorem jsm(o:Oper)(f:FuncId)(args:Array vV)(v:vV)(ho:l[k]?=some o)(hk:jhD l done k=true)(hw:Region.wanted o (yielded l.toArray a.tmps)=true)
  (hv:∀ w1,(execOp a.eval o).run P w1=.ok (.enter f args) w1) (hc:∀ w1,E w w1->Calls P f args w1 (fun e A=>e=.returned v/\E w1 A))
  (h:MixK P l E Q ord (k :: done) (a.put o.dst v) w):MixK P l E Q (k :: ord) done a w:=by
 simp only[jhD,cJ,cO]at hk;exact .inl ⟨hk.1,hk.2,o,v,ho,.inl ⟨hw,fun w1 m=>by rw[hv w1];exact⟨rfl,hc w1 m⟩⟩,h⟩
theorem qKC(o:Oper)(f:FuncId)(args:Array vV)(v:vV)(ho:l[k]?=some o)(hv:∀ w1,(execOp a.eval o).run P w1=.ok (.enter f args) w1)(hc:∀ w1,E w w1->Calls P f args w1 (fun e m=>e=.returned v/\E w1 m))(h:MixK P l E Q ord (k :: done) (a.put o.dst v) w)(hk:jhD l done k=true:=by kernel_rfl)(hw:Region.wanted o (yielded l.toArray a.tmps)=true:=by rfl):MixK P l E Q (k :: ord) done a w:=jsm o f args v ho hk hw hv hc h
theorem jen(o:Oper)(ho:l[k]?=some o)(hk:jvU l done k=true)(hw:Region.wanted o (yielded l.toArray a.tmps)=true)
  (h:∀ w1,E w w1->∀ K:Act->vW->Prop,(∀ a' w',E w1 w'->MixK P l E Q ord (k :: done) a' w'->K a' w')->o.wp P a w1 K NoQ):MixK P l E Q (k :: ord) done a w:=by
 simp only[jvU,beq_iff_eq]at hk;refine .inr ⟨hk,fun w1 m=>?_⟩;unfold wpOp;have e:l.toArray[k]?=some o:=by simpa using ho
 simp only[e,hw,if_true];exact .inl (h w1 m _ (fun _ _ A H=>⟨A,H⟩))
theorem juW(hk:(Region.ready .any l.toArray (jbc l done)).isEmpty=true)(h:∀ w1,E w w1->Q a w1):MixK P l E Q [] done a w:=
 fun w1 e=>⟨by simpa using hk,h w1 e⟩
theorem qKE(h:∀ w1,E w w1->Q a w1)(hk:(Region.ready .any l.toArray (jbc l done)).isEmpty=true:=by kernel_rfl):MixK P l E Q [] done a w:=juW hk h
end mixe
end
section
attribute [local go_sem] Oper.semAt_some
theorem jhO{s:vB}{k:Nat}(h:k < s.size):s.data.toList.getD k 0=s[k]:=by
 rw[bC,bA (show k < s.data.toList.length from h)];rfl
theorem jxR(w:vW)(s:vB)(k:Nat)(h:4 * k+3 < s.size)(hs:s.size<=1000000):vR 116 #[.string s,.int .i64 k] w (wv (jeX s.data.toList k)):=by
 have H:(0:Int)<=4 * (k:Int):=vO
 have J:(0:Int)<=4 * (k:Int)+1:=vO
 have K:(0:Int)<=4 * (k:Int)+2:=vO
 have O:(0:Int)<=4 * (k:Int)+3:=vO
 have Q:4 * (k:Int) < (s.size:Int):=vO
 have X:4 * (k:Int)+1 < (s.size:Int):=vO
 have Z:4 * (k:Int)+2 < (s.size:Int):=vO
 have d3:4 * (k:Int)+3 < (s.size:Int):=vO
 have n0:(4 * (k:Int)).toNat=4 * k:=vO
 have n1:(4 * (k:Int)+1).toNat=4 * k+1:=vO
 have n2:(4 * (k:Int)+2).toNat=4 * k+2:=vO
 have n3:(4 * (k:Int)+3).toNat=4 * k+3:=vO
 have A:=Hd (show jeX s.data.toList k=beW (s[4 * k]'(by omega)) (s[4 * k+1]'(by omega)) (s[4 * k+2]'(by omega)) (s[4 * k+3]'(by omega)) by unfold jeX;rw[jhO,jhO,jhO,jhO]);go_enter Tryz.func116,Tryz.ntmps116;go_wp2_with fail
 refine jah [0,1,2,3,4,5,6,7,8,9,10,11,12,13,14,15,16,17,18,19,20,21,22,23,24,25,26,27,28,29] Ext ExtR ExtT vY vY vY ?_;iterate 30 refine vK ?_
 refine qKE (fun w1 m=>?_);have E:=Hd ((jai w).trans m);have e:=jyR (s[4 * k]'(by omega)) (s[4 * k+1]'(by omega)) (s[4 * k+2]'(by omega)) (s[4 * k+3]'(by omega));rw[<-A.o]at e;rw[e];clear e m;go_wp2_with fail
 go_ret
 exact⟨rfl,E.o⟩
end
theorem Tryz.enterRight(args:Array vV)(w:vW):(callFunc 135 args).run Tryz.prog w=.ok (.enter 135 args) w:=vY
theorem jat{P:Program}{a:Act}{w:vW}{d:Option Tmp}{f:FuncId}{args:Array Operand}{ats:Array TypeId}{ty:TypeId}{pos:String}{af:Array Edge}{g:Option (Nat × Bool)}{vs:Array vV}(eg:∀ args w,(callFunc f args).run P w=.ok (.enter f args) w)(hv:args.map a.eval=vs) :
  (execOp a.eval ⟨d,.call { callee:=.value (.func f),args:=args,argTypes:=ats },ty,pos,af,g⟩).run P w=.ok (.enter f vs) w:=by
 subst hv;simp[execOp,resolve,Deferred.ofValue,invoke,Act.eval,cA,Result.andThen,cR,eg]
theorem jlH{P:Program}{a:Act}{w w':vW}{v:vV}{d:Option Tmp}{args:Array Operand}{ats:Array TypeId}{ty:TypeId}{pos:String}{af:Array Edge}{g:Option (Nat × Bool)}{vs:Array vV}(h:(Builtin.copy_ ats ty vs).run P w=.ok v w')(hv:args.map a.eval=vs) :
  (execOp a.eval ⟨d,.call { callee:=.builtin .copy,args:=args,argTypes:=ats },ty,pos,af,g⟩).run P w=.ok (.value v) w':=by
 subst hv;simp[execOp,resolve,invoke,Go.builtin,Act.eval,cA,Result.andThen,cR,h]
theorem jj5(b j:Nat):(⟨b,0,none⟩:Addr).add j=⟨b,j,none⟩:=by unfold Addr.add;split <;> simp_all
theorem jxm{P:Program}{l:List Oper}{hd:List Nat}{E:vW->vW->Prop}{Q:Act->vW->Prop}{ord done:List Nat}{a:Act}{w:vW}{k:Nat}(o:Oper)(v:vV)(ho:l[k]?=some o)(hk:jhz l hd done k=true)(hw:Region.wanted o (yielded l.toArray a.tmps)=true)
  (hv:∀ w1,(execOp a.eval o).run P w1=.ok (.value v) w1) (h:Mix P l hd E Q ord (k :: done) (a.put o.dst v) w):Mix P l hd E Q (k :: ord) done a w:=by
 simp only[jhz,cJ,cO,gX,jn6]at hk;have e:∀ w' m,execOp m.eval o=execOp a.eval o->Region.wanted o (yielded l.toArray m.tmps)=Region.wanted o (yielded l.toArray a.tmps)->jbN P l.toArray E w' o v m:=
  fun w' m A H=>.inl ⟨H.trans hw,fun w1 _=>by rw[A,hv w1];exact⟨rfl,rfl⟩⟩
 exact .inl ⟨hk.1.1,hk.1.2,hk.2,o,v,ho,e w a rfl rfl,.inr e,h⟩
theorem qA{P:Program}{l:List Oper}{hd:List Nat}{E:vW->vW->Prop}{Q:Act->vW->Prop}{ord done:List Nat}{a:Act}{w:vW}{k:Nat}(o:Oper)(v:vV)(ho:l[k]?=some o)(hv:∀ w1,(execOp a.eval o).run P w1=.ok (.value v) w1)(h:Mix P l hd E Q ord (k :: done) (a.put o.dst v) w)(hk:jhz l hd done k=true:=by kernel_rfl)(hw:Region.wanted o (yielded l.toArray a.tmps)=true:=by rfl):Mix P l hd E Q (k :: ord) done a w:=jxm o v ho hk hw hv h
theorem jjW{P:Program}{w:vW}{b i:Nat}{v old:vV}(hv:v.oneCell'=true)(hc:w.cell? ⟨b,i,none⟩=some old)(hf:w.frozen? ⟨b,i,none⟩=false):(storeCells ⟨b,i,none⟩ [v]).run P w=.ok () (w.setCell ⟨b,i,none⟩ v):=by
 rw[jmE,run_store P w _ v _ hv,hc,hf];rfl
theorem jaj{P:Program}{ops:Array Oper}{rest:List Oper}{o:Oper}{a:Act}{w:vW}{Q:Exit->Act->vW->Prop}{T:TypeId}{cs:List vV}(hrun:∀ w,(Instr.alloc T true (.tuple #[])).run P w=.ok (.pointer (some ⟨w.heap.size,0,none⟩)) (w.alloc (.cells cs.toArray T)))(hgd:o.guard=none)(ho:o.op=.alloc T)
  (h:∀ W,Blk W w.heap.size (.cells cs.toArray T)->Ext w W->wpList P ops Q rest (a.put o.dst (.pointer (some ⟨w.heap.size,0,none⟩))) W):wpList P ops Q (o :: rest) a w:=
 wpList_plain hgd fun K e=>jcu (v:=.pointer (some ⟨w.heap.size,0,none⟩)) (w':=w.alloc (.cells cs.toArray T)) (by simp only[execOp,ho,cA,hrun,Result.andThen,cR]) (e _ _ (h _ (Blk.new w _) ((ExtR w).alloc _)))
theorem jag{P:Program}{ops:Array Oper}{rest:List Oper}{o:Oper}{a:Act}{w:vW}{Q:Exit->Act->vW->Prop}{T T2:TypeId}{x y:Operand}{b:Nat}{old vs:List vV}(hgd:o.guard=none)(ho:o.op=.store T x y)(hx:a.eval x=.pointer (some ⟨b,0,none⟩))(hy:a.eval y=.agg vs.toArray)
  (hB:Blk w b (.cells old.toArray T2)) (hl:old.length=vs.length) (hi:(P.info? T).map (·.size)=some vs.length) (h1:∀ v∈vs,v.oneCell'=true)
  (h:∀ W,Blk W b (.cells vs.toArray T2)->jae (fun z=>z=b) w W->wpList P ops Q rest (a.put o.dst undef) W):wpList P ops Q (o :: rest) a w:=by
 refine wpList_store_mid hgd T x y ho b 0 vs.toArray hx hy (by have:=jk3 hB;rw[hl]at this;simpa using this) (by simpa using hi) (all_oneCell_toArray h1) (h _ ?_ (jae.oneSetCells b vs 0 w))
 have:=Blk.setCells vs 0 w old hB vO
 rw[gW vO]at this;simpa using this
structure W8 where
 a:UInt32
 b:UInt32
 c:UInt32
 d:UInt32
 e:UInt32
 f:UInt32
 g:UInt32
 h:UInt32
def W8.cells(v:W8):List vV:=[wv v.a,wv v.b,wv v.c,wv v.d,wv v.e,wv v.f,wv v.g,wv v.h]
def W8.words(v:W8):List UInt32:=[v.a,v.b,v.c,v.d,v.e,v.f,v.g,v.h]
def jeY(V U:List UInt32)(k:Nat):List UInt32:=(List.zipWith addW V U).take k++V.drop k
theorem jlk{V U:List UInt32}(h:V.length=U.length)(k:Nat):(jeY V U k).length=V.length:=by simp[jeY];omega
theorem jlj{V U:List UInt32}{k:Nat}(h:V.length=U.length)(hk:k < V.length):(jeY V U k)[k]?=V[k]?:=by
 unfold jeY;rw[cV (by simp;omega)];simp only[cL,List.length_zipWith,List.getElem?_drop]
 congr 1;omega
theorem jll{V U:List UInt32}{k:Nat}(h:V.length=U.length)(hk:k < V.length):(jeY V U k).set k (addW (V[k]'hk) (U[k]'(h ▸ hk)))=jeY V U (k+1):=by
 apply List.ext_getElem?;intro i;rw[List.getElem?_set];have e:=jlk h k;unfold jeY at *
 by_cases hi:k=i
 ·subst hi
  rw[if_pos rfl,if_pos vO,cP (by simp;omega),List.getElem?_take_of_lt vO,bA (by simp;omega)]
  simp
 ·rw[if_neg hi]
  by_cases hlt:i < k
  ·rw[cP (by simp;omega),cP (by simp;omega),List.getElem?_take_of_lt hlt,List.getElem?_take_of_lt vO]
  ·rw[cV (by simp;omega),cV (by simp;omega)]
   simp only[cL,List.length_zipWith,List.getElem?_drop]
   congr 1
   omega
def W8.add(v u:W8):W8:=⟨addW v.a u.a,addW v.b u.b,addW v.c u.c,addW v.d u.d,addW v.e u.e,addW v.f u.f,addW v.g u.g,addW v.h u.h⟩
theorem jli(v u:W8):jeY v.words u.words 8=(v.add u).words:=rfl
theorem W8.cells_words(v:W8):v.cells=v.words.map wv:=rfl
def tOne(v:W8)(k x:UInt32):UInt32:=addW (addW (addW (addW v.h (xorW (xorW (rotW v.e 6) (rotW v.e 11)) (rotW v.e 25))) (xorW (andW v.e v.f) (andW (notW v.e) v.g))) k) x
def tTwo(v:W8):UInt32:=addW (xorW (xorW (rotW v.a 2) (rotW v.a 13)) (rotW v.a 22)) (xorW (xorW (andW v.a v.b) (andW v.a v.c)) (andW v.b v.c))
def jmu(v:W8)(k x:UInt32):W8:=⟨addW (tOne v k x) (tTwo v),v.a,v.b,v.c,addW v.d (tOne v k x),v.e,v.f,v.g⟩
def jeU:List UInt32:=[0x428a2f98,0x71374491,0xb5c0fbcf,0xe9b5dba5,0x3956c25b,0x59f111f1,0x923f82a4,0xab1c5ed5,0xd807aa98,0x12835b01,0x243185be,0x550c7dc3,0x72be5d74,0x80deb1fe,0x9bdc06a7,0xc19bf174,
 0xe49b69c1,0xefbe4786,0x0fc19dc6,0x240ca1cc,0x2de92c6f,0x4a7484aa,0x5cb0a9dc,0x76f988da,0x983e5152,0xa831c66d,0xb00327c8,0xbf597fc7,0xc6e00bf3,0xd5a79147,0x06ca6351,0x14292967,
 0x27b70a85,0x2e1b2138,0x4d2c6dfc,0x53380d13,0x650a7354,0x766a0abb,0x81c2c92e,0x92722c85,0xa2bfe8a1,0xa81a664b,0xc24b8b70,0xc76c51a3,0xd192e819,0xd6990624,0xf40e3585,0x106aa070,
 0x19a4c116,0x1e376c08,0x2748774c,0x34b0bcb5,0x391c0cb3,0x4ed8aa4a,0x5b9cca4f,0x682e6ff3,0x748f82ee,0x78a5636f,0x84c87814,0x8cc70208,0x90befffa,0xa4506ceb,0xbef9a3f7,0xc67178f2]
def jbW(w:vW):Prop:=∀ i,i < 64->w.cell? ⟨0,i,none⟩=some (wv (jeU.getD i 0))
theorem jbW.lt{w:vW}(h:jbW w):0 < w.heap.size:=fE w _ (h 0 vI)
theorem jbW.keeps{F:BSet}{w w':vW}(h:jbW w)(k:jae F w w')(hF:¬ F 0):jbW w':=fun i m=>by
 have:=h i m
 have e:=k.block _ h.lt hF;unfold World.cell? at *;rw[e];exact this
theorem jbW.ext{w w':vW}(h:jbW w)(k:Ext w w'):jbW w':=h.keeps k (fun h=>h)
def jdU(Wd:List UInt32)(v:W8):Nat->W8
 | 0=>v
 | k+1=>jmu (jdU Wd v k) (jeU.getD k 0) (Wd.getD k 0)
theorem Tryz.uArr8:Tryz.prog.underlying 154=some (.array 8 145):=vY
theorem Tryz.iArr8:(Tryz.prog.info? 154).map (·.size)=some 8:=vY
theorem Tryz.uSlU32:Tryz.prog.underlying 141=some (.slice 145):=vY
theorem Tryz.newArr64(w:vW):(Instr.alloc 184 true (.tuple #[])).run Tryz.prog w=.ok (.pointer (some ⟨w.heap.size,0,none⟩)) (w.alloc (.cells (List.replicate 64 (wv 0)).toArray 184)):=vY
theorem Tryz.newArr8(w:vW):(Instr.alloc 154 true (.tuple #[])).run Tryz.prog w=.ok (.pointer (some ⟨w.heap.size,0,none⟩)) (w.alloc (.cells (List.replicate 8 (wv 0)).toArray 154)):=vY
def mixW(V:W8)(B:vN):W8:=V.add (jdU (ja8 B) V 64)
def jaP(ws:List UInt32)(B:vN)(n sz:Int):List vV:=ws.map wv++jaK B++[Value.int .i64 n,Value.int .u64 sz]
theorem jji{ws:List UInt32}{B:vN}{n sz:Int}{k:Nat}{x:UInt32}(h:ws[k]?=some x):(jaP ws B n sz)[k]?=some (wv x):=by
 have:=(bO.1 h).1
 unfold jaP;rw[cB,cP (by simpa using this)];simp[h]
theorem jku{ws:List UInt32}{B:vN}{n sz:Int}{k:Nat}(h:k < ws.length)(x:UInt32):(jaP ws B n sz).toArray.setIfInBounds k (wv x)=(jaP (ws.set k x) B n sz).toArray:=by
 unfold jaP;simp only[gA,cB];rw[List.set_append_left _ _ (by simpa using h),gU]
def jx9(w:vW)(bh:Nat)(V U:List UInt32)(B:vN)(n sz:Int)(i:vV)(wr:vW):Prop:=∃ k:Nat,k<=8/\i=.int .i64 k/\Blk wr bh (.cells (jaP (jeY V U k) B n sz).toArray 158)/\jae (fun x=>x=bh) w wr
def jwv(w:vW)(g5:Nat)(v:W8)(w':vW):Prop:=Blk w' g5 (.cells v.cells.toArray 154)/\jae (fun x=>x=g5) w w'
def jyu(w:vW)(g5:Nat)(Wd:List UInt32)(v:W8)(i:vV)(wr:vW):Prop:=∃ k:Nat,k<=64/\i=.int .i64 k/\jwv w g5 (jdU Wd v k) wr
theorem jAM(w:vW)(bh:Nat)(V:W8)(B:vN)(n sz:Int)(hL:B.length=64)(hB:Blk w bh (.cells (jaP V.words B n sz).toArray 158))(hc:jbW w)(hbh:bh≠0) :
  vQ 96 #[.pointer (some ⟨bh,0,none⟩),.slice (some ⟨bh,8,none⟩) 64 64] w fun e w'=>e=.returned (.tuple #[])/\Blk w' bh (.cells (jaP (mixW V B).words B n sz).toArray 158)/\jae (fun x=>x=bh) w w':=by
 have HB:=Hd hB;have HC:=Hd hc;have c8:jgK w bh 8 B:=fun j x hx=>hB.cellL (by
  have hj:=(bO.1 hx).1;unfold jaP;rw[cB,cV (by simp[W8.words]),cP (by simp[W8.words];omega)];simp[W8.words,jaK,hx])
 have hX:∀ (p q:UInt32) (w:vW),(binOp .xor 145 (wv p) (wv q)).run Tryz.prog w=.ok (wv (xorW p q)) w:=fun _ _ _=>jkZ;have hA:∀ (p q:UInt32) (w:vW),(binOp .add 145 (wv p) (wv q)).run Tryz.prog w=.ok (wv (addW p q)) w:=fun _ _ _=>jkX;have hN:∀ (p q:UInt32) (w:vW),(binOp .and 145 (wv p) (wv q)).run Tryz.prog w=.ok (wv (andW p q)) w:=fun _ _ _=>jo7;have hU:∀ (p:UInt32) (w:vW),(Op.unary .xor (wv p)).run Tryz.prog w=.ok (wv (notW p)) w:=fun _ _=>jo9;have c9:=Hd c8;have HL:=Hd hL;clear hB hc c8 hL;go_enter Tryz.func96,Tryz.ntmps96;go_wp2_with fail
 refine vC (jvD w bh 8 B HL.o c9.o) fun w1 hE=>?_;have HE:=Hd hE;have b1:=Hd (HB.o.keeps hE (fun h=>h));clear hE;have d0:((ja8 B).map wv).length=64:=by simp[ja8,jcx]
 have b2:=Hd d0;clear d0;go_wp2_with (refine jaj (cs:=List.replicate 64 (wv 0)) Tryz.newArr64 rfl rfl ?_)
 intro W4 B4 E4;refine jag (old:=List.replicate 64 (wv 0)) (vs:=(ja8 B).map wv) rfl rfl rfl rfl B4 (by rw[b2.o];rfl) (by rw[b2.o];exact Tryz.iArr64) jtH ?_;intro W5 B5 K5;have X5:Ext w1 W5:=(E4.trans' K5 (fun x hx e=>by omega))
 obtain⟨g4,a8⟩:=vE w1.heap.size
 have c4:g4 < W5.heap.size:=by rw[a8];exact B5.lt
 have d1:=b1.o.keeps X5 (fun h=>h);have d2:=HC.o.ext (HE.o.trans X5);have g0:bh≠g4:=by have:=b1.o.lt;omega
 have g1:0≠g4:=by have:=(HC.o.ext HE.o).lt;omega
 have g2:w.heap.size<=g4:=by rw[a8];exact HE.o.size
 rw[<-a8]at B5 ⊢;have d3:=Hd B5;have a9:=Hd d1;have b3:=Hd d2;have b4:=Hd (HE.o.trans X5);clear B4 E4 B5 K5 X5 d1 d2 a8 b1;have d4:W5.rangeAt bh 0 V.cells:=fun j v O=>by
  rw[W8.cells_words]at O;rw[cF];exact a9.o.cellL (by unfold jaP;rw[cB,cP (bO.1 O).1];exact O)
 have d5:=Hd d4;clear d4;go_wp2_with (first |(refine wpList_load_mid rfl 154 (.tmp 16) rfl bh 0 rfl V.cells (.array 8 145) d5.o Tryz.uArr8 rfl Tryz.iArr8 ?_) |(refine jaj (cs:=List.replicate 8 (wv 0)) Tryz.newArr8 rfl rfl ?_))
 intro W6 B6 E6;refine jag (old:=List.replicate 8 (wv 0)) (vs:=V.cells) rfl rfl rfl rfl B6 rfl Tryz.iArr8 (by intro v O;simp only[W8.cells,bX,iS,or_false]at O;rcases O with rfl | rfl | rfl | rfl | rfl | rfl | rfl | rfl <;> rfl) ?_;intro W7 B7 K7;have X7:Ext W5 W7:=(E6.trans' K7 (fun x hx e=>by omega))
 obtain⟨A,b5⟩:=vE W5.heap.size
 have d6:bh≠A:=by have:=a9.o.lt;omega
 have f1:0≠A:=by have:=b3.o.lt;omega
 have f2:g4≠A:=vO
 have b6:w.heap.size<=A:=by rw[b5];exact b4.o.size
 rw[<-b5]at B7 ⊢;have d7:=Hd B7;have d8:=Hd (d3.o.keeps X7 (fun h=>h));have d9:=Hd (a9.o.keeps X7 (fun h=>h));have e0:=Hd (b3.o.ext X7);have e1:=Hd (b4.o.trans X7);clear B6 E6 B7 K7 X7 b5 d3 a9 b3 b4 d5 c4 b2 HE c9 HL HC;go_wp2_with fail
 go_loopw [18] (fun i wr=>jyu W7 A (ja8 B) V i wr) (fun i _=>64 - (intOf i).toNat)
 case atStart=>exact⟨0,by omega,rfl,d7.o,jae.refl _ _⟩
 case round =>
  obtain⟨k,hk,rfl,H,hK⟩:=hrel
  have HK:=Hd hK
  by_cases hlt:k < 64
  ·obtain⟨v,O⟩:=vE (jdU (ja8 B) V k)
   have X:jdU (ja8 B) V (k+1)=jmu v (jeU.getD k 0) ((ja8 B).getD k 0):=by rw[O];rfl
   rw[<-O]at H
   obtain⟨ck,b7⟩:=vE (jeU.getD k 0)
   obtain⟨wk,b8⟩:=vE ((ja8 B).getD k 0)
   rw[<-b7, <-b8]at X;have qc:wr.cell? ⟨0,k,none⟩=some (wv ck):=by rw[b7];exact (e0.o.keeps hK f1) k hlt
   have qw:wr.cell? ⟨g4,k,none⟩=some (wv wk):=by
    rw[b8];refine (d8.o.keeps hK f2).cellL ?_;rw[bV,bA (by simp[ja8,jcx];omega)];simp[show k < (ja8 B).length by simp[ja8,jcx];omega]
   have QC:=Hd qc;have QW:=Hd qw;have f3:=Hd X;clear O X b7 b8 qc qw hK
   obtain⟨J,x1,x2,x3,Q,x5,x6,x7⟩:=v
   have HG:=Hd H;have Q0:=Hd (H.cell (i:=0) (v:=wv J) vF);have Q1:=Hd (H.cell (i:=1) (v:=wv x1) vF);have Q2:=Hd (H.cell (i:=2) (v:=wv x2) vF);have Q3:=Hd (H.cell (i:=3) (v:=wv x3) vF);have Q4:=Hd (H.cell (i:=4) (v:=wv Q) vF);have Q5:=Hd (H.cell (i:=5) (v:=wv x5) vF);have Q6:=Hd (H.cell (i:=6) (v:=wv x6) vF);have Q7:=Hd (H.cell (i:=7) (v:=wv x7) vF);clear H;go_wp2_with fail
   refine jay [0,1,2,3,4,5] [] Ext ExtR ExtT vY vY vY ?_
   refine vP ?_
   refine qL ⟨A,0,none⟩ _ rfl (fun w1 m=>jab Tryz.uU32 rfl (jaa (by exact Q0.o) m)) ?_;refine vS ?_
   refine vP ?_
   refine qL ⟨A,4,none⟩ _ rfl (fun w1 m=>jab Tryz.uU32 rfl (jaa (by exact Q4.o) m)) ?_;refine vS ?_;iterate 2 refine vP ?_
   refine qE (fun w3 E=>?_);have X3:=Hd ((jai wr).trans E);clear E;go_wp2_with fail
   refine jay [0,1,2,3,4,5,6,7,8,9,10,11,12,13,14,15,16,17,18,19,20,21,22,23,24,25,26,27,28,29,30] [] Ext ExtR ExtT vY vY vY ?_
   refine vP ?_
   refine qL ⟨A,7,none⟩ _ rfl (fun w1 m=>jab Tryz.uU32 rfl (jaa (by exact jaa Q7.o (X3.o.trans (jai w3))) m)) ?_;refine vS ?_
   refine vP ?_
   refine jdb _ 135 #[wv Q,.int .i64 6] (wv (rotW Q 6)) rfl vY rfl (fun w1=>jat Tryz.enterRight vY) (fun w1 m=>(jzJ w1 Q).mono (fun e w2 ⟨m,h2⟩=>⟨m,h2 ▸ ExtR w1⟩)) ?_;refine vS ?_
   refine vP ?_
   refine jdb _ 135 #[wv Q,.int .i64 11] (wv (rotW Q 11)) rfl vY rfl (fun w1=>jat Tryz.enterRight vY) (fun w1 m=>(jxE w1 Q).mono (fun e w2 ⟨m,h2⟩=>⟨m,h2 ▸ ExtR w1⟩)) ?_;refine vS ?_;iterate 2 refine vP ?_
   refine jdb _ 135 #[wv Q,.int .i64 25] (wv (rotW Q 25)) rfl vY rfl (fun w1=>jat Tryz.enterRight vY) (fun w1 m=>(jxK w1 Q).mono (fun e w2 ⟨m,h2⟩=>⟨m,h2 ▸ ExtR w1⟩)) ?_;refine vS ?_;iterate 4 refine vP ?_
   refine qL ⟨A,5,none⟩ _ rfl (fun w1 m=>jab Tryz.uU32 rfl (jaa (by exact jaa Q5.o (X3.o.trans (jai w3))) m)) ?_;refine vS ?_;iterate 4 refine vP ?_
   refine qL ⟨A,6,none⟩ _ rfl (fun w1 m=>jab Tryz.uU32 rfl (jaa (by exact jaa Q6.o (X3.o.trans (jai w3))) m)) ?_;refine vS ?_;iterate 5 refine vP ?_
   refine qL ⟨0,k,none⟩ _ rfl (fun w1 m=>jab Tryz.uU32 rfl (jaa (by exact jaa QC.o (X3.o.trans (jai w3))) m)) ?_;refine vS ?_;iterate 3 refine vP ?_
   refine qL ⟨g4,k,none⟩ _ rfl (fun w1 m=>jab Tryz.uU32 rfl (jaa (by exact jaa QW.o (X3.o.trans (jai w3))) m)) ?_;refine vS ?_;iterate 2 refine vP ?_
   refine qE (fun w4 E=>?_);have X4:=Hd (X3.o.trans ((jai w3).trans E));clear E X3
   obtain⟨tv,b9⟩:∃ t,t=tOne ⟨J,x1,x2,x3,Q,x5,x6,x7⟩ ck wk:=⟨_,rfl⟩
   have Z:=b9;unfold tOne at Z;simp only at Z;rw[<-Z];have f4:=Hd b9;clear b9 Z;go_wp2_with fail
   refine jay [0,1,2,3,4,5,6,7,8,9,10,11,12,13,14,15,16,17,18,19,20,21,22,23,24] [] Ext ExtR ExtT vY vY vY ?_
   refine vP ?_
   refine jdb _ 135 #[wv J,.int .i64 2] (wv (rotW J 2)) rfl vY rfl (fun w1=>jat Tryz.enterRight vY) (fun w1 m=>(jzI w1 J).mono (fun e w2 ⟨m,h2⟩=>⟨m,h2 ▸ ExtR w1⟩)) ?_;refine vS ?_
   refine vP ?_
   refine jdb _ 135 #[wv J,.int .i64 13] (wv (rotW J 13)) rfl vY rfl (fun w1=>jat Tryz.enterRight vY) (fun w1 m=>(jxF w1 J).mono (fun e w2 ⟨m,h2⟩=>⟨m,h2 ▸ ExtR w1⟩)) ?_;refine vS ?_;iterate 2 refine vP ?_
   refine jdb _ 135 #[wv J,.int .i64 22] (wv (rotW J 22)) rfl vY rfl (fun w1=>jat Tryz.enterRight vY) (fun w1 m=>(jxJ w1 J).mono (fun e w2 ⟨m,h2⟩=>⟨m,h2 ▸ ExtR w1⟩)) ?_;refine vS ?_;iterate 3 refine vP ?_
   refine qL ⟨A,1,none⟩ _ rfl (fun w1 m=>jab Tryz.uU32 rfl (jaa (by exact jaa Q1.o (X4.o.trans (jai w4))) m)) ?_;refine vS ?_;iterate 3 refine vP ?_
   refine qL ⟨A,2,none⟩ _ rfl (fun w1 m=>jab Tryz.uU32 rfl (jaa (by exact jaa Q2.o (X4.o.trans (jai w4))) m)) ?_;refine vS ?_;iterate 3 refine vP ?_
   refine qL ⟨A,1,none⟩ _ rfl (fun w1 m=>jab Tryz.uU32 rfl (jaa (by exact jaa Q1.o (X4.o.trans (jai w4))) m)) ?_;refine vS ?_
   refine vP ?_
   refine qL ⟨A,2,none⟩ _ rfl (fun w1 m=>jab Tryz.uU32 rfl (jaa (by exact jaa Q2.o (X4.o.trans (jai w4))) m)) ?_;refine vS ?_;iterate 4 refine vP ?_
   refine qE (fun w5 E=>?_);have X5:=Hd (X4.o.trans ((jai w4).trans E));clear E X4
   obtain⟨sv,c0⟩:∃ t,t=tTwo ⟨J,x1,x2,x3,Q,x5,x6,x7⟩:=⟨_,rfl⟩
   have a0:=c0;unfold tTwo at a0;simp only at a0;rw[<-a0];have f5:=Hd c0;clear c0 a0;have e2:=Hd (HG.o.keeps X5.o (fun h=>h));have e3:=Hd (HK.o.trans' X5.o (fun _ _ h=>h.elim));clear HG HK X5 Q0 Q1 Q2 Q3 Q4 Q5 Q6 Q7 QC QW;go_wp2_with fail
   refine jay [0,1,2] [2] Ext ExtR ExtT vY vY vY ?_;iterate 2 refine vP ?_
   refine qH _ rfl (fun w6 E K hK=>?_);have G1:=e2.o.keeps ((jai w5).trans E) (fun h=>h);have K1:=e3.o.trans' ((jai w5).trans E) (fun _ _ h=>h.elim);have c1:=run_copy_cells (P:=Tryz.prog) w6 141 141 3 145 A 1 7 7 ⟨A,0,none⟩ 7 8 [wv J,wv x1,wv x2,wv x3,wv Q,wv x5,wv x6] Tryz.uSlU32 Tryz.iU32 rfl
    (by intro j v O;rw[jj5];exact G1.cellL (by have:=(bO.1 O).1;simp at this;rcases (show j=0\/j=1\/j=2\/j=3\/j=4\/j=5\/j=6 by omega)with rfl | rfl | rfl | rfl | rfl | rfl | rfl <;> simpa [W8.cells]using O))
    (by intro j hj;rw[G1.cellL (i:=1+j) (bA (by simp[W8.cells]at hj ⊢;omega))];rfl)
    (by intro j hj;exact G1.frozen) (by intro v O;simp only[bX,iS,or_false]at O;rcases O with rfl | rfl | rfl | rfl | rfl | rfl | rfl <;> rfl)
   have G2:=Blk.setCells [wv J,wv x1,wv x2,wv x3,wv Q,wv x5,wv x6] 1 w6 _ G1 (by simp[W8.cells]);have K2:=K1.trans (jae.oneSetCells A [wv J,wv x1,wv x2,wv x3,wv Q,wv x5,wv x6] 1 w6)
   obtain⟨w7,b6⟩:=vE (w6.setCells A 1 [wv J,wv x1,wv x2,wv x3,wv Q,wv x5,wv x6])
   rw[<-b6]at c1 G2 K2;simp[W8.cells]at G2;have a3:=Hd G2;have a4:=Hd K2;clear G1 K1 G2 K2 b6 E e2 e3;refine jcu (w':=w7) (jlH c1 vY) (hK _ _ ?_);clear c1 hK K w6;refine qE (fun w8 E=>?_);have a2:=Hd (a3.o.keeps E (fun h=>h));have b0:=Hd (a4.o.trans' E (fun _ _ h=>h.elim));clear E a3 a4;have Q4:=a2.o.cell (i:=4) (v:=wv x3) vF;have F4:w8.frozen? ⟨A,4,none⟩=false:=a2.o.frozen;have G9:=a2.o.set_same (i:=4) (wv (addW x3 tv));have K9:=b0.o.setCell (p:=⟨A,4,none⟩) (.inl rfl) (wv (addW x3 tv));have a5:=Hd G9;have c2:=Hd K9;clear G9 K9 a2 b0;go_wp2_with fail
   rw[jjW rfl Q4 F4];go_wp2_with fail
   obtain⟨w9,e4⟩:=vE (w8.setCell ⟨A,4,none⟩ (wv (addW x3 tv)))
   rw[<-e4]at a5 c2 ⊢;clear e4 Q4 F4;have Q0:w9.cell? ⟨A,0,none⟩=some (wv J):=a5.o.cell (i:=0) vF;have F0:w9.frozen? ⟨A,0,none⟩=false:=a5.o.frozen;have G9:=a5.o.set_same (i:=0) (wv (addW tv sv));have K9:=c2.o.setCell (p:=⟨A,0,none⟩) (.inl rfl) (wv (addW tv sv));have e5:=Hd G9;have e6:=Hd K9;clear G9 K9 a5 c2;rw[jjW rfl Q0 F0];go_wp2_with fail
   obtain⟨wA,e7⟩:=vE (w9.setCell ⟨A,0,none⟩ (wv (addW tv sv)))
   rw[<-e7]at e5 e6 ⊢;clear e7 Q0 F0 w9 w8;go_roundw
   case rel=>exact⟨k+1,by omega,by go_num,by rw[f3.o];unfold jmu;rw[<-f4.o, <-f5.o];exact e5.o,e6.o⟩
   case measure=>exact vJ
  ·have c5:k=64:=vO
   subst c5
   obtain⟨U,c3⟩:=vE (jdU (ja8 B) V 64)
   rw[<-c3]at H;have f6:=Hd c3;have f7:=Hd H;have e8:=Hd (d9.o.keeps HK.o d6);have f8:=Hd (e1.o.trans' HK.o (fun x hx e=>by omega));clear c3 H HK d9 e1 d7 d8 e0 hX hN hU;go_wp2_with fail
   obtain⟨wm,rfl⟩:=vE wr
   rw[show ((64:Nat):Int)=(64:Int)from rfl];have g3:Hid (bh < wm.heap.size):=e8.o.lt;go_loopw [92] (fun i w2=>jx9 wm bh V.words U.words B n sz i w2) (fun i _=>8 - (intOf i).toNat)
   case atStart=>exact⟨0,by omega,rfl,e8.o,jae.refl _ _⟩
   case round =>
    obtain⟨k,hk,rfl,H,hK⟩:=hrel
    have HK:=Hd hK;have HG:=Hd H;clear hK H
    by_cases hlt:k < 8
    ·obtain⟨x,hx⟩:∃ x,V.words[k]?=some x:=⟨_,bA (by simp[W8.words];omega)⟩
     obtain⟨y,hy⟩:∃ y,U.words[k]?=some y:=⟨_,bA (by simp[W8.words];omega)⟩
     have a6:(jeY V.words U.words k).set k (addW x y)=jeY V.words U.words (k+1):=by
      have:=jll (V:=V.words) (U:=U.words) (k:=k) rfl (by simp[W8.words];omega)
      rw[(bO.1 hx).2,(bO.1 hy).2]at this;exact this
     have q1:=HG.o.cellL (jji ((jlj (V:=V.words) (U:=U.words) (k:=k) rfl (by simp[W8.words];omega)).trans hx));have q2:wr.cell? ⟨A,k,none⟩=some (wv y):=(f7.o.keeps HK.o (Ne.symm d6)).cellL (by rw[W8.cells_words,bV,hy];rfl);have a7:k < (jeY V.words U.words k).length:=by rw[jlk (V:=V.words) (U:=U.words) rfl];simp[W8.words];omega
     have Q1:=Hd q1;have Q2:=Hd q2;have c6:=Hd a6;have c7:=Hd a7;clear hx hy a6 q1 q2 a7;go_wp2_with fail
     refine jay [0,1,2,3,4,5,6,7,8,9,10,11,12,13] [13] Ext ExtR ExtT vY vY vY ?_;iterate 2 refine vP ?_
     refine qA _ (.pointer (some ⟨bh,0,none⟩)) rfl (fun w1=>by kernel_rfl) ?_;refine vS ?_;iterate 2 refine vP ?_
     refine qL ⟨bh,k,none⟩ _ rfl (fun w1 m=>jab Tryz.uU32 rfl (jaa (by exact Q1.o) m)) ?_;refine vS ?_;iterate 2 refine vP ?_
     refine qL ⟨A,k,none⟩ _ rfl (fun w1 m=>jab Tryz.uU32 rfl (jaa (by exact Q2.o) m)) ?_;refine vS ?_
     refine vP ?_
     refine qA _ (.pointer (some ⟨bh,0,none⟩)) rfl (fun w1=>by kernel_rfl) ?_;refine vS ?_;iterate 2 refine vP ?_
     refine qH _ rfl (fun w6 E K hK=>?_);have G1:=HG.o.keeps ((jai wr).trans E) (fun h=>h);have K1:=HK.o.trans' ((jai wr).trans E) (fun _ _ h=>h.elim);have e9:=jaa Q1.o ((jai wr).trans E);have f0:w6.frozen? ⟨bh,k,none⟩=false:=G1.frozen;have G2:=G1.set_same (i:=k) (wv (addW x y));rw[jku c7.o,c6.o]at G2;have K2:=K1.setCell (p:=⟨bh,k,none⟩) (.inl rfl) (wv (addW x y));have a3:=Hd G2;have a4:=Hd K2;clear G1 K1 G2 K2 E HG HK Q1 Q2;refine jlc bh k (wv (addW x y)) rfl vY vY rfl Tryz.iU32 e9 f0 (hK _ _ ?_);clear hK K e9 f0;refine qE (fun w8 E=>?_);have a2:=Hd (a3.o.keeps E (fun h=>h));have b0:=Hd (a4.o.trans' E (fun _ _ h=>h.elim));clear E a3 a4;go_wp2_with fail
     go_roundw
     case rel=>exact⟨k+1,by omega,by go_num,a2.o,b0.o⟩
     case measure=>exact vJ
    ·have f9:k=8:=vO
     subst f9;have a1:=HG.o;rw[jli,f6.o]at a1;have HF:=Hd a1;have HX:=Hd ((f8.o.mono (G:=fun x=>x=bh) (fun _ _ h=>h.elim)).trans HK.o);clear a1;go_wp2_with fail
     go_end0
     exact⟨rfl,HF.o,HX.o⟩
section
attribute [local go_sem] Oper.semAt_some
def jjG:W8:=⟨0x6a09e667,0xbb67ae85,0x3c6ef372,0xa54ff53a,0x510e527f,0x9b05688c,0x1f83d9ab,0x5be0cd19⟩
def Tab3(w:vW)(e:Ending)(w':vW):Prop:=∃ b1 b2,e=.returned (.tuple #[.slice (some ⟨b1,0,none⟩) 8 8,.slice (some ⟨b2,0,none⟩) 64 64])/\w.heap.size<=b1/\w.heap.size<=b2/\b1≠b2/\Ext w w'/\Blk w' b1 (.cells (jjG.words.map wv).toArray 145)/\Blk w' b2 (.cells (jeU.map wv).toArray 145)
theorem jvG(w:vW):vQ 84 #[] w (Tab3 w):=by
 go_enter Tryz.func84,Tryz.ntmps84;go_wp2_with fail
 go_ret2;have hb:∀ {W:vW} {b:Nat} {c d:Array vV} {T:TypeId},c=d->Blk W b (.cells c T)->Blk W b (.cells d T):=fun e h=>e ▸ h;have m:∀ o,(w.alloc o).heap.size=w.heap.size+1:=fun o=>by simp
 refine⟨w.heap.size,w.heap.size+1,rfl,bM _,Nat.le_succ _,by omega,((ExtR w).alloc _).alloc _,hb ?_ (Blk.alloc (Blk.new w _) _),hb ?_ (m _ ▸ Blk.new (w.alloc _) _)⟩
 ·kernel_rfl
 ·kernel_rfl
end
section
section mixd
variable {P:Program} {l:List Oper} {E D:vW->vW->Prop}
def jb6(P:Program)(ops:Array Oper)(E D:vW->vW->Prop)(w:vW)(o:Oper)(v:vV)(a:Act):Prop:=
 (Region.wanted o (yielded ops a.tmps)=true/\∀ w1,D w w1->jnB P E w1 v ((execOp a.eval o).run P w1))\/(Region.wanted o (yielded ops a.tmps)=false/\v=undef)
theorem jb6.of_same{ops:Array Oper}{w:vW}{o:Oper}{v:vV}{a a':Act}(hy:jb6 P ops E D w o v a)(he:execOp a'.eval o=execOp a.eval o)
  (hw:Region.wanted o (yielded ops a'.tmps)=Region.wanted o (yielded ops a.tmps)):jb6 P ops E D w o v a':=by
 unfold jb6 at *;rw[he,hw];exact hy
theorem jb6.st(hT:∀ x y z,D x y->D y z->D x z){ops:Array Oper}{w w1:vW}{o:Oper}{v:vV}{a:Act}(hy:jb6 P ops E D w o v a)(h:D w w1):jb6 P ops E D w1 o v a:=
 hy.imp (fun ⟨e,m⟩=>⟨e,fun A H=>m A (hT _ _ _ h H)⟩) id
theorem jb6.wpOp{ops:Array Oper}{i:Nat}{o:Oper}{v:vV}{a:Act}{w:vW}(hi:ops[i]?=some o)(hy:jb6 P ops E D w o v a){K:Act->vW->Prop}{w1:vW}(H:D w w1)(hE:∀ w,E w w)
  (h:∀ w',E w1 w'->K (a.put o.dst v) w'):wpOp P ops NoQ i K a w1:=by
 unfold Go.wpOp;simp only[hi];rcases hy with⟨hw,hv⟩ |⟨hw,rfl⟩
 ·simp only[hw,if_true]
  refine .inl ?_;have m:=hv w1 H;unfold Oper.wp;generalize (execOp a.eval o).run P w1=r at *;cases r with
  | ok n w' =>
   cases n <;> simp only[jnB]at m <;> simp only[Oper.upon]
   case value u=>obtain⟨A,J⟩:=m;rw[A,J];exact h _ (hE w1)
   case skip=>obtain⟨A,J⟩:=m;rw[A, <-J];exact h _ (hE w1)
   case enter f args =>
    obtain⟨A,O⟩:=m;rw[A]
    exact O.mono fun e Q ⟨X,H⟩=>by subst X;exact h _ H
  | halt x w'=>simp only[jnB]at m
 ·simp only[hw,cI,if_false];exact h _ (hE w1)
def anyD(P:Program)(ops:Array Oper)(hd:List Nat)(E D:vW->vW->Prop)(Q:Act->vW->Prop):Nat->Array Bool->Act->vW->Prop
 | 0,listed,a,w=>∀ w1,E w w1->Region.ready .any ops listed=[]/\Q a w1
 | fuel+1,listed,a,w=>∀ w1,E w w1 ->
  (Region.ready .any ops listed=[]->Q a w1) /\
  ∀ i∈Region.ready .any ops listed,wpOp P ops NoQ i (fun a' w'=>D w1 w'/\(i ∉ hd->E w1 w')/\anyD P ops hd E D Q fuel (listed.setIfInBounds i true) a' w') a w1
theorem jqV(hT:∀ x y z,E x y->E y z->E x z){ops:Array Oper}{hd:List Nat}{Q:Act->vW->Prop}:∀ (fuel:Nat) (listed:Array Bool) (a:Act) (w w1:vW),anyD P ops hd E D Q fuel listed a w->E w w1->anyD P ops hd E D Q fuel listed a w1
 | 0,_,_,_,_,h,he=>fun e m=>h e (hT _ _ _ he m)
 | _+1,_,_,_,_,h,he=>fun e m=>h e (hT _ _ _ he m)
theorem jgO(hE:∀ w,E w w){ops:Array Oper}{hd:List Nat}{Q:Act->vW->Prop}{Q':Exit->Act->vW->Prop}(hQ:∀ a w,Q a w->Q' .normal a w) :
  ∀ (fuel:Nat) (listed:Array Bool) (a:Act) (w:vW),anyD P ops hd E D Q fuel listed a w->wpAny P .any ops Q' fuel listed a w
 | 0,_,_,w,h=>let ⟨h1,h2⟩:=h w (hE w);⟨h1,hQ _ _ h2⟩
 | fuel+1,_,_,w,h=>let ⟨h1,h2⟩:=h w (hE w)
  ⟨fun e=>hQ _ _ (h1 e),fun i m=>jh5 (fun o w' ⟨_,_,A⟩=>jgO hE hQ fuel _ o w' A) (h2 i m)⟩
theorem jjp(hE:∀ w,E w w)(hT:∀ x y z,E x y->E y z->E x z)(hD:∀ x y z,D x y->D y z->D x z)(hED:∀ x y,E x y->D x y){ops:Array Oper}{hd:List Nat}{Q:Act->vW->Prop}{i:Nat}{oi:Oper}{v:vV}(hi:ops[i]?=some oi)(hsel:∀ (j:Nat) (o:Oper) cs b,ops[j]?=some o->o.op≠.select cs b) :
  ∀ (A:Nat) (m:Array Bool) (a:Act) (w:vW),
   (∀ j oj,ops[j]?=some oj->j≠i->m.getD j true=false->(∀ e∈oj.after,Region.binds .any e=true->e.on≠i)->oi.apart ops oj=true) ->
   i∈Region.ready .any ops m->jb6 P ops E D w oi v a ->
   anyD P ops hd E D Q A (m.setIfInBounds i true) (a.put oi.dst v) w->anyD P ops hd E D Q (A+1) m a w:=by
 intro A;induction A with
 | zero =>
  intro m a w _ hr hy H w1 O
  refine⟨fun h=>(by rw[h]at hr;cases hr),fun j hj=>?_⟩
  by_cases hji:j=i
  ·subst hji;exact hy.wpOp hi (hED _ _ O) hE (fun w' J=>⟨hED _ _ J,fun _=>J,jqV hT _ _ _ _ _ H (hT _ _ _ O J)⟩)
  ·have:=ready_mono hj hji
   rw[(H w1 O).1]at this;cases this
 | succ A ih =>
  intro m a w K hr hy H w1 O
  refine⟨fun h=>(by rw[h]at hr;cases hr),fun j hj=>?_⟩
  by_cases hji:j=i
  ·subst hji;exact hy.wpOp hi (hED _ _ O) hE (fun w' J=>⟨hED _ _ J,fun _=>J,jqV hT _ _ _ _ _ H (hT _ _ _ O J)⟩)
  ·have J:=(H w1 O).2 j (ready_mono hj hji)
   obtain⟨Z,oj,a0,a3⟩:=mem_ready.1 hj
   have a4:∀ e∈oj.after,Region.binds .any e=true->e.on≠i:=fun e O hb a6=>by
    have J:=a3 e O hb;have h0:=(mem_ready.1 hr).1;rw[a6]at J;rcases fH i m.size with h' | h'
    ·simp[h']at h0 J;rw[h0]at J;cases J
    ·simp[gH h']at J
   have h2:=jfr (v:=v) (Y:=fun a'=>execOp a'.eval oi=execOp a.eval oi/\Region.wanted oi (yielded ops a'.tmps)=Region.wanted oi (yielded ops a.tmps)) a0 (K j oj a0 hji Z a4) (fun cs b=>hsel i oi cs b hi) (fun cs b=>hsel j oj cs b a0)
    (fun a1 a2 h e1 e2=>⟨e1.trans h.1,e2.trans h.2⟩) ⟨rfl,rfl⟩ J
   have X:∀ k ok,ops[k]?=some ok->k≠i->(m.setIfInBounds j true).getD k true=false ->
     (∀ e∈ok.after,Region.binds .any e=true->e.on≠i)->oi.apart ops ok=true:=fun k ok hk a7 a5 a8=>by
    refine K k ok hk a7 ?_ a8
    by_cases hjk:j=k
    ·subst hjk;exact Z
    ·rw[getD_set_ne true hjk]at a5;exact a5
   refine wpOp_mono (fun a' w' h3=>⟨h3.2.1,h3.2.2.1,?_⟩) h2
   obtain⟨⟨e1,e2⟩,h4,_,h5⟩:=h3
   have a9:jb6 P ops E D w' oi v a':=(hy.of_same e1 e2).st hD (hD _ _ _ (hED _ _ O) h4);refine ih (m.setIfInBounds j true) a' w' X (ready_mono hr (Ne.symm hji)) a9 ?_;rw[gQ _ _ hji];exact h5
def MixD(P:Program)(l:List Oper)(hd:List Nat)(E D:vW->vW->Prop)(Q:Act->vW->Prop):List Nat->List Nat->Act->vW->Prop
 | [],done,a,w=>∀ w1,E w w1->Region.ready .any l.toArray (jbc l done)=[]/\Q a w1
 | k :: ord,done,a,w =>
  (k∈Region.ready .any l.toArray (jbc l done)/\Region.free .any l.toArray (jbc l done) k=true/\∃ o v,l[k]?=some o/\jb6 P l.toArray E D w o v a/\MixD P l hd E D Q ord (k :: done) (a.put o.dst v) w) \/
  (Region.ready .any l.toArray (jbc l done)=[k]/\k∈hd/\∀ w1,E w w1->wpOp P l.toArray NoQ k (fun a' w'=>D w1 w'/\MixD P l hd E D Q ord (k :: done) a' w') a w1)
theorem jfP(hE:∀ w,E w w)(hT:∀ x y z,E x y->E y z->E x z)(hD:∀ x y z,D x y->D y z->D x z)(hED:∀ x y,E x y->D x y)(hs:Region.noSelect l.toArray=true){hd:List Nat}{Q:Act->vW->Prop}:∀ (ord:List Nat) (done:List Nat) (a:Act) (w:vW),
  MixD P l hd E D Q ord done a w->anyD P l.toArray hd E D Q ord.length (jbc l done) a w
 | [],_,_,_,h=>h
 | k :: ord,done,a,w,h=>by
  rcases h with⟨hr,hf,o,v,ho,hy,h⟩ |⟨hr,hk,h⟩
  ·have e:l.toArray[k]?=some o:=by simpa using ho
   exact jjp hE hT hD hED e (gJ hs) ord.length (jbc l done) a w (gZ e hf) hr hy (jfP hE hT hD hED hs ord _ _ _ h)
  ·intro w1 J
   refine⟨fun m=>(by rw[hr]at m;cases m),fun i A=>?_⟩
   rw[hr]at A;obtain rfl:i=k:=by simpa using A
   exact wpOp_mono (fun O w' H=>⟨H.1,fun K=>absurd hk K,jfP hE hT hD hED hs ord _ _ _ H.2⟩) (h w1 J)
theorem jaJ(ord hd:List Nat)(E D:vW->vW->Prop)(hE:∀ w,E w w)(hT:∀ x y z,E x y->E y z->E x z)(hD:∀ x y z,D x y->D y z->D x z)(hED:∀ x y,E x y->D x y){id:Nat}{Q:Exit->Act->vW->Prop}{a:Act}{w:vW}
  (hm:P.follows .mixedOrders=true) (hs:Region.noSelect l.toArray=true) (hl:ord.length=l.toArray.size)
  (h:MixD P l hd E D (fun a w=>Q .normal a w) ord [] a w.drew):(Code.region id l.toArray true).wp P Q a w:=by
 refine wp_region_any hm ?_;rw[<-hl]
 have:=jfP hE hT hD hED hs ord _ _ _ h
 unfold jbc at this;rw[hl]at this ⊢;exact jgO hE (fun _ _ h=>h) _ _ _ _ this
variable {Q:Act->vW->Prop} {ord done hd:List Nat} {a:Act} {w:vW} {k:Nat} {o:Oper}
def headD(l:List Oper)(done:List Nat)(k:Nat):Bool:=(Region.ready .any l.toArray (jbc l done)).contains k && Region.free .any l.toArray (jbc l done) k
def jqT(l:List Oper)(hd done:List Nat)(k:Nat):Bool:=Region.ready .any l.toArray (jbc l done) == [k] && hd.contains k
theorem jsl(o:Oper)(ho:l[k]?=some o)(hk:headD l done k=true)(hw:Region.wanted o (yielded l.toArray a.tmps)=true)(hq:jiH o.op=true)
  (h:∀ K:Act->Prop,(∀ a',MixD P l hd E D Q ord (k :: done) a' w->K a')->o.quiet P a (fun _=>True) K):MixD P l hd E D Q (k :: ord) done a w:=by
 simp only[headD,cJ,cO]at hk
 obtain⟨v,A,H⟩:=h _ (fun _ h=>h)
 have m:jb6 P l.toArray E D w o v a:=by
  refine .inl ⟨hw,fun w1 _=>?_⟩;have e:=A w1 trivial;unfold Oper.quietAt at e;have J:=fun f args w'=>jiW (ρ:=a.eval) hq P w1 w' f args;generalize (execOp a.eval o).run P w1=r at *;cases r with
  | ok n w'=>cases n <;> simp only[Oper.quietUpon]at e <;> first | exact e | exact absurd rfl (J _ _ _)
  | halt x w'=>simp only[Oper.quietUpon]at e
 exact .inl ⟨hk.1,hk.2,o,v,ho,m,H⟩
theorem joK(o:Oper)(v:vV)(ho:l[k]?=some o)(hk:headD l done k=true)(hw:Region.wanted o (yielded l.toArray a.tmps)=true)
  (hv:∀ w1,D w w1->(execOp a.eval o).run P w1=.ok (.value v) w1) (h:MixD P l hd E D Q ord (k :: done) (a.put o.dst v) w):MixD P l hd E D Q (k :: ord) done a w:=by
 simp only[headD,cJ,cO]at hk;exact .inl ⟨hk.1,hk.2,o,v,ho,.inl ⟨hw,fun w1 e=>by rw[hv w1 e];exact⟨rfl,rfl⟩⟩,h⟩
theorem qDV(o:Oper)(v:vV)(ho:l[k]?=some o)(hv:∀ w1,D w w1->(execOp a.eval o).run P w1=.ok (.value v) w1)(h:MixD P l hd E D Q ord (k :: done) (a.put o.dst v) w)(hk:headD l done k=true:=by kernel_rfl)(hw:Region.wanted o (yielded l.toArray a.tmps)=true:=by rfl):MixD P l hd E D Q (k :: ord) done a w:=joK o v ho hk hw hv h
theorem jsk(p:Addr)(v:vV){t:TypeId}{x:Operand}{d:Option Tmp}{ty:TypeId}{pos:String}{af:Array Edge}{g:Option (Nat × Bool)}(ho:l[k]?=some ⟨d,.load t x,ty,pos,af,g⟩)(hk:headD l done k=true)
  (hw:Region.wanted ⟨d,.load t x,ty,pos,af,g⟩ (yielded l.toArray a.tmps)=true) (hx:a.eval x=.pointer (some p))
  (hv:∀ w1,D w w1->(Instr.loadAt t (.pointer (some p))).run P w1=.ok v w1) (h:MixD P l hd E D Q ord (k :: done) (a.put d v) w):MixD P l hd E D Q (k :: ord) done a w:=by
 refine joK _ v ho hk hw (fun w1 e=>?_) h
 have:=hv w1 e
 simp only[execOp,hx,cA,this,Result.andThen,cR]
theorem qDL{t:TypeId}{x:Operand}{d:Option Tmp}{ty:TypeId}{pos:String}{af:Array Edge}{g:Option (Nat × Bool)}(p:Addr)(v:vV)(ho:l[k]?=some ⟨d,.load t x,ty,pos,af,g⟩)(hv:∀ w1,D w w1->(Instr.loadAt t (.pointer (some p))).run P w1=.ok v w1)(h:MixD P l hd E D Q ord (k :: done) (a.put d v) w)(hk:headD l done k=true:=by kernel_rfl)(hw:Region.wanted ⟨d,.load t x,ty,pos,af,g⟩ (yielded l.toArray a.tmps)=true:=by rfl)(hx:a.eval x=.pointer (some p):=by rfl):MixD P l hd E D Q (k :: ord) done a w:=jsk p v ho hk hw hx hv h
theorem jiL(o:Oper)(f:FuncId)(args:Array vV)(v:vV)(ho:l[k]?=some o)(hk:headD l done k=true)(hw:Region.wanted o (yielded l.toArray a.tmps)=true)
  (hv:∀ w1,(execOp a.eval o).run P w1=.ok (.enter f args) w1) (hc:∀ w1,D w w1->Calls P f args w1 (fun e A=>e=.returned v/\E w1 A))
  (h:MixD P l hd E D Q ord (k :: done) (a.put o.dst v) w):MixD P l hd E D Q (k :: ord) done a w:=by
 simp only[headD,cJ,cO]at hk;exact .inl ⟨hk.1,hk.2,o,v,ho,.inl ⟨hw,fun w1 m=>by rw[hv w1];exact⟨rfl,hc w1 m⟩⟩,h⟩
theorem jsj(o:Oper)(ho:l[k]?=some o)(hk:jqT l hd done k=true)(hw:Region.wanted o (yielded l.toArray a.tmps)=true)
  (h:∀ w1,E w w1->∀ K:Act->vW->Prop,(∀ a' w',D w1 w'->MixD P l hd E D Q ord (k :: done) a' w'->K a' w')->o.wp P a w1 K NoQ):MixD P l hd E D Q (k :: ord) done a w:=by
 simp only[jqT,cJ,beq_iff_eq,cO]at hk;refine .inr ⟨hk.1,hk.2,fun w1 m=>?_⟩;unfold wpOp;have e:l.toArray[k]?=some o:=by simpa using ho
 simp only[e,hw,if_true];exact .inl (h w1 m _ (fun _ _ A H=>⟨A,H⟩))
theorem qDH(o:Oper)(ho:l[k]?=some o)(h:∀ w1,E w w1->∀ K:Act->vW->Prop,(∀ a' w',D w1 w'->MixD P l hd E D Q ord (k :: done) a' w'->K a' w')->o.wp P a w1 K NoQ)(hk:jqT l hd done k=true:=by kernel_rfl)(hw:Region.wanted o (yielded l.toArray a.tmps)=true:=by rfl):MixD P l hd E D Q (k :: ord) done a w:=jsj o ho hk hw h
theorem juV(hk:(Region.ready .any l.toArray (jbc l done)).isEmpty=true)(h:∀ w1,E w w1->Q a w1):MixD P l hd E D Q [] done a w:=
 fun w1 e=>⟨by simpa using hk,h w1 e⟩
theorem qDE(h:∀ w1,E w w1->Q a w1)(hk:(Region.ready .any l.toArray (jbc l done)).isEmpty=true:=by kernel_rfl):MixD P l hd E D Q [] done a w:=juV hk h
end mixd
end
theorem ji6{P:Program}(w:vW){t ty e:TypeId}{i:TypeInfo}{z:vV}{size bytes:Nat}(ht:P.underlying t=some (.slice e))(hi:P.info? e=some i)(hz:i.zero=some z)
  (hsize:i.size=size) (hby:i.bytes=bytes) (hzs:z.cells.size=size) (hsz:0 < size)
  {v:vV} {n:Nat} {xs:List vV} (hown:w.ownsRow 0 e size v n xs)
  {a:Addr} {m c:Nat} {news:List vV} (hl:news.length=m * size) (hnews:∀ j u,news[j]?=some u->w.cell? (a.add j)=some u) (X:∀ u∈news,u.oneCell'=true)
  (h63:n+m<=maxLen) (hbytes:(n+m) * bytes<=140737488355328) :
  ∃ o w',(Builtin.append_ #[t,t] ty #[v,.slice (some a) m c]).run P w=.ok o w'/\w'.ownsRow 0 e size o (n+m) (xs++news)/\jae (fun b=>v.ownBlock=some b) w w' /\
   (o.ownBlock=v.ownBlock\/∀ b,o.ownBlock=some b->w.heap.size<=b)/\w'.ownsRow 0 e size v n xs:=by
 have up:∀ {B:Nat} {w':vW} {o:vV} {k:Nat} {O:List vV},w'.ownsRow B e size o k O->w'.ownsRow 0 e size o k O:=by
  rintro B w' o k O ⟨X,h2 |⟨g,E,Z,h2,_,h3⟩⟩
  ·exact⟨X,.inl h2⟩
  ·exact⟨X,.inr ⟨g,E,Z,h2,cD _,h3⟩⟩
 have lo:∀ {B:Nat} {w':vW} {o:vV} {k:Nat} {O:List vV},w'.ownsRow B e size o k O->∀ b,o.ownBlock=some b->B<=b:=by
  intro B w' o k O h b hb;exact (World.ownsRow.lt h b hb).1
 have A:=hown
 obtain⟨H,⟨rfl,rfl⟩ |⟨g,E,Z,rfl,_,hg,a1,a3,a4,a5⟩⟩:=hown
 ·obtain⟨o,w',hr,J,Q,_⟩:=run_append_own (P:=P) w w.heap.size t ty e i z size bytes ht hi hz hsize hby hzs hsz (.slice none 0 0) 0 xs ⟨H,.inl ⟨rfl,rfl⟩⟩ a m c news hl hnews X h63 hbytes (bM _)
  exact⟨o,w',hr,up J,jae.of_grown Q (fun r e _=>e),.inr (lo J),⟨H,.inl ⟨rfl,rfl⟩⟩⟩
 ·by_cases hroom:n+m<=E
  ·obtain⟨w',hr,J,Q⟩:=run_append_fits (P:=P) w 0 t ty e i size ht hi hsize g n E xs A a m c news hl hnews X hroom
   refine⟨_,w',hr,J,jae.of_grown Q (fun r e _=>e),.inl rfl,?_⟩
   obtain⟨k1,⟨k2,_⟩ |⟨g',a2,a0,k2,_,k4,k5,k6,k7,k8⟩⟩:=J
   ·cases k2
   ·obtain⟨e1,_,e3⟩:=cT k2
    have e1:=congrArg Addr.block (bN e1);have e1:g=g':=e1;subst e1 e3
    refine⟨H,.inr ⟨g,E,a0,rfl,cD _,k4,a1,k6,k7,?_⟩⟩
    have h:=congrArg (List.take (n * size)) k8;rw[iL,iG (Nat.mul_le_mul_right _ vO),List.take_left' H]at h;exact h
  ·have K:∀ j u,xs[j]?=some u->w.cell? ((⟨g,0,none⟩:Addr).add j)=some u:=World.ownsRow.cells A rfl
   obtain⟨o,w',hr,J,Q⟩:=run_append_arg_grows (P:=P) w t ty e i z size bytes ht hi hz hsize hby hzs hsz ⟨g,0,none⟩ n E xs H K a m c news hl hnews vO h63 hbytes
   exact⟨o,w',hr,up J,jae.of_grown Q (fun r e _=>by cases e),.inr (lo J),jbl A (jae.of_grown Q (fun r e _=>by cases e))⟩
theorem jx8{P:Program}{t T:TypeId}{sz by':Nat}(I:jd3 P t T sz by'){w0 w:vW}{v:vV}{n:Nat}{xs:List vV}{o:Oper}{a:Act}{g m c:Nat}{news:List vV}{K:Act->vW->Prop}{Q:Exit->Act->vW->Prop}(hR:ORow T sz w0 w v n xs)(s x:Operand)(hs:a.eval s=v)(hx:a.eval x=.slice (some ⟨g,0,none⟩) m c)(hB:∀ j u,news[j]?=some u->w.cell? ((⟨g,0,none⟩:Addr).add j)=some u)(h1:∀ u∈news,u.oneCell'=true)(hl:news.length=m * sz)
  (ho:o.op=Op.call { callee:=Callee.builtin Builtin.append,args:=#[s,x],argTypes:=#[t,t] }) (h63:n+m<=maxLen) (hby:(n+m) * by'<=140737488355328)
  (h:∀ e w',ORow T sz w0 w' e (n+m) (xs++news)->jae (fun b=>v.ownBlock=some b) w w'->(e.ownBlock=v.ownBlock\/∀ b,e.ownBlock=some b->w.heap.size<=b)->ORow T sz w0 w' v n xs->K (a.put o.dst e) w'):o.wp P a w K Q:=by
 obtain⟨i,z,J,O,X,Z,e5⟩:=I.hi
 obtain⟨e,w',A,r1,E,H,r4⟩:=ji6 (P:=P) w (t:=t) (ty:=o.type) I.ht J O X Z e5 I.hsz hR.own (c:=c) hl hB h1 h63 hby
 unfold Oper.wp;simp[execOp,ho,resolve,invoke,builtin,hs,hx,A,Result.andThen];exact h e w' (hR.step r1 E H) E H ⟨hR.sl,r4,jg0 hR.ext hR.new E,hR.new⟩
theorem jsJ{w:vW}{B B':Nat}{T T':TypeId}{sz sz':Nat}{v v':vV}{n n':Nat}{xs xs':List vV}(h:w.ownsRow B T sz v n xs)(k:w.ownsRow B' T' sz' v' n' xs')(hT:T≠T'):∀ b,v.ownBlock=some b->¬ v'.ownBlock=some b:=by
 intro b hb m
 obtain⟨_,o |⟨g,J,K,o,_,O,_⟩⟩:=h
 ·rw[o.1]at hb;cases hb
 obtain⟨_,A |⟨Q,E,H,A,_,X,_⟩⟩:=k
 ·rw[A.1]at m;cases m
 rw[o]at hb;rw[A]at m;have e:some g=some b:=hb;have Z:some Q=some b:=m;obtain rfl:=bN e;obtain rfl:=bN Z
 have:=Blk.uniq O X
 injection this with _ e _;exact hT e
end Go.Proofs.YtegloohdmjadoaaGreatDoor
