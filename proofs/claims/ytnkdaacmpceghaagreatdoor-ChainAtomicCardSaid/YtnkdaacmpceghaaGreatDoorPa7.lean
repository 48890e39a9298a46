/- Lemmas; each is under no condition but those that it states. -/
import Derived.Test.YtnkdaacmpceghaaGreatDoorPa6
import Derived.Deep.MidRow
namespace Go.Proofs.YtnkdaacmpceghaaGreatDoor
set_option linter.unusedSimpArgs false
set_option linter.unusedVariables false
set_option maxRecDepth 100000
set_option maxHeartbeats 16000000
open Go Go.RowKit
variable {a:Act}{af:Array Edge}{ops:Array Oper}{vs:Array vV}{F:BSet}{Q:Exit->Act->vW->Prop}{hd ord done:List Nat}{l rest:List Oper}{W V U ws:List UInt32}{C cs:List vV}{b n i k:Nat}{o:Oper}{x y:Operand}{g:Option (Nat × Bool)}{d:Option Tmp}{P:Program}{pos:String}{B:vN}{old v:vV}{w w':vW}{E:vW->vW->Prop}
def beW(a b c d:vU):UInt32:=a.toUInt32 <<< 24 ||| b.toUInt32 <<< 16 ||| c.toUInt32 <<< 8 ||| d.toUInt32
def jhY(B:vN)(i:Nat):UInt32:=beW (B.getD (4 * i) 0) (B.getD (4 * i+1) 0) (B.getD (4 * i+2) 0) (B.getD (4 * i+3) 0)
def jeq(B:vN)(k:Nat):List UInt32:=(List.range k).map (jhY B)
def sig0(x:UInt32):UInt32:=xorW (xorW (rotW x 7) (rotW x 18)) (shrW x 3)
def sig1(x:UInt32):UInt32:=xorW (xorW (rotW x 17) (rotW x 19)) (shrW x 10)
def jkC(W:List UInt32):UInt32:=addW (addW (addW (W.getD (W.length - 16) 0) (sig0 (W.getD (W.length - 15) 0))) (W.getD (W.length - 7) 0)) (sig1 (W.getD (W.length - 2) 0))
def jhw(B:vN):Nat->List UInt32
 | 0=>jeq B 16
 | j+1=>jhw B j++[jkC (jhw B j)]
theorem jcF(B:vN):∀ j,(jhw B j).length=16+j
 | 0=>by simp[jhw,jeq]
 | j+1=>by simp[jhw,jcF B j];omega
def ja4(B:vN):List UInt32:=jhw B 48
def jdb(W:List UInt32)(n:Nat):List vV:=W.map wv++List.replicate (n - W.length) (wv 0)
theorem jik(h:W.length<=n):(jdb W n).length=n:=by simp[jdb];omega
theorem jil(h:W.length < n)(x:UInt32):(jdb W n).set W.length (wv x)=jdb (W++[x]) n:=by
 unfold jdb;rw[dK _ _ (by simp),show n - W.length=(n - (W++[x]).length)+1 by simp;omega,dQ]
 simp
theorem jeP(h:i < W.length):(jdb W n)[i]?=some (wv (W.getD i 0)):=by
 unfold jdb;rw[cR (by simpa using h)];simp[h]
theorem jli(h:W.length=n):jdb W n=W.map wv:=by simp[jdb,h]
theorem jzc(a b c d:vU):bits .or .u32 (bits .or .u32 (bits .or .u32 ((a.toNat:Int) % (4294967296:Int) * (16777216:Int) % (4294967296:Int)) ((b.toNat:Int) % (4294967296:Int) * (65536:Int) % (4294967296:Int))) ((c.toNat:Int) % (4294967296:Int) * (256:Int) % (4294967296:Int))) ((d.toNat:Int) % (4294967296:Int))=((beW a b c d).toNat:Int):=by
 have e:∀ (x:vU) (s:UInt32) (m:Nat),s.toNat < 32->m=2 ^ s.toNat->(x.toNat:Int) % (4294967296:Int) * (m:Int) % (4294967296:Int)=((x.toUInt32 <<< s).toNat:Int):=by
  intro x s m q A;rw[UInt32.toNat_shiftLeft,fR q,Nat.shiftLeft_eq,A];have h:=x.toNat_lt;rw[show (x.toNat:Int) % (4294967296:Int)=(x.toNat:Int) by omega]
  simp
 have H:(a.toNat:Int) % (4294967296:Int) * (16777216:Int) % (4294967296:Int)=((a.toUInt32 <<< 24).toNat:Int):=e a 24 16777216 vI vI;have J:(b.toNat:Int) % (4294967296:Int) * (65536:Int) % (4294967296:Int)=((b.toUInt32 <<< 16).toNat:Int):=e b 16 65536 vI vI;have K:(c.toNat:Int) % (4294967296:Int) * (256:Int) % (4294967296:Int)=((c.toUInt32 <<< 8).toNat:Int):=e c 8 256 vI vI;have O:(d.toNat:Int) % (4294967296:Int)=(d.toUInt32.toNat:Int):=by have:=d.toNat_lt;simp;omega
 rw[H,J,K,O,jgS,jgS,jgS];rfl
def jfW(w:vW)(b o:Nat)(B:vN):Prop:=∀ (j:Nat) x,B[j]?=some x->w.cell? ⟨b,o+j,none⟩=some (.int .u8 (x.toNat:Int))
theorem jfW.keeps{o:Nat}(h:jfW w b o B)(k:jac F w w')(hF:¬ F b):jfW w' b o B:=fun j x A=>by
 have:=h j x A
 have q:=dN w _ this;have e:=k.block b q hF;unfold World.cell? at *;rw[e];exact this
theorem Tryz.uArr64:Tryz.prog.underlying 316=some (.array 64 257):=vY
theorem Tryz.iArr64:(Tryz.prog.info? 316).map (·.size)=some 64:=vY
theorem jrk{T:TypeId}{fz:Nat × Nat}(h:Blk w b (.cells C.toArray T fz)):w.rangeAt b 0 C:=fun j v e=>by rw[bT];exact h.cellL e
theorem jhU{T:TypeId}(h:Blk w b (.cells C.toArray T)):w.there b 0 C.length:=fun j e=>by
 rw[bT];exact⟨by rw[h.cellL (bB e)];rfl,h.frozen⟩
theorem jr1:∀ v∈W.map wv,v.oneCell'=true:=fun v e=>by obtain⟨x,_,rfl⟩:=bD.1 e;rfl
def jy3(w:vW)(b g:Nat)(B:vN)(i:vV)(wr:vW):Prop:=∃ k:Nat,k<=16/\i=.int .i64 k/\Blk wr g (.cells (jdb (jeq B k) 64).toArray 316)/\jac (fun x=>x=g) w wr
def jxn(w:vW)(g:Nat)(B:vN)(i:vV)(wr:vW):Prop:=∃ m:Nat,16<=m/\m<=64/\i=.int .i64 m/\Blk wr g (.cells (jdb (jhw B (m - 16)) 64).toArray 316)/\jac (fun x=>x=g) w wr
theorem juf(w:vW)(b o:Nat)(B:vN)(hL:B.length=64)(hB:jfW w b o B):vR 175 #[.slice (some ⟨b,o,none⟩) 64 64] w (.agg ((ja4 B).map wv).toArray):=by
 have HB:=Hd hB;have HL:=Hd hL;have g8:b < w.heap.size:=dN w _ (hB 0 (B[0]'(by omega)) (bB vO));have hX:∀ (p q:UInt32) (w:vW),(binOp .xor 257 (wv p) (wv q)).run Tryz.prog w=.ok (wv (xorW p q)) w:=fun _ _ _=>jnd;have hA:∀ (p q:UInt32) (w:vW),(binOp .add 257 (wv p) (wv q)).run Tryz.prog w=.ok (wv (addW p q)) w:=fun _ _ _=>jnc;have h0:∀ (p:UInt32) (w:vW),(binOp .shr 257 (wv p) (.int .u64 3)).run Tryz.prog w=.ok (wv (shrW p 3)) w:=fun _ _=>jfP 3 vI .u64;have g9:∀ (p:UInt32) (w:vW),(binOp .shr 257 (wv p) (.int .u64 10)).run Tryz.prog w=.ok (wv (shrW p 10)) w:=fun _ _=>jfP 10 vI .u64;clear hB hL;unfold vR vQ;go_in;go_wp2_with fail
 obtain⟨W1,b0⟩:∃ W1,w.alloc (.cells (List.replicate 64 (wv 0)).toArray 316)=W1:=⟨_,rfl⟩
 obtain⟨W0,b1⟩:∃ W0,W1.alloc (.cells (List.replicate 64 (wv 0)).toArray 316)=W0:=⟨_,rfl⟩
 have e2:W1.heap.size=w.heap.size+1:=by rw[<-b0];simp
 have G2:Blk W0 w.heap.size (.cells (List.replicate 64 (wv 0)).toArray 316):=by rw[<-b1];refine Blk.alloc ?_ _;rw[<-b0];exact Blk.new w _
 have G3:Blk W0 (w.heap.size+1) (.cells (List.replicate 64 (wv 0)).toArray 316):=by rw[<-b1, <-e2];exact Blk.new W1 _
 have E0:Ext w W0:=by rw[<-b1, <-b0];exact ((ExtR w).alloc _).alloc _
 change Code.wp _ _ _ _ ((w.alloc (.cells (List.replicate 64 (wv 0)).toArray 316)).alloc (.cells (List.replicate 64 (wv 0)).toArray 316));rw[b0,b1];have g3:=Hd G2;have g4:=Hd G3;have e3:=Hd E0;clear b1 b0 e2 G2 G3 E0;go_loopw [11] (fun i wr=>jy3 W0 b (w.heap.size+1) B i wr) (fun i _=>16 - (intOf i).toNat)
 case atStart=>exact⟨0,by omega,rfl,g4.o,jac.refl _ _⟩
 case round =>
  obtain⟨k,hk,rfl,hG,hK⟩:=hrel
  have HG:=Hd hG;have HK:=Hd hK;clear hG hK
  by_cases hlt:k < 16
  ·have c1:(0:Int)<=4 * (k:Int):=vO
   have c2:4 * (k:Int)<=4 * (k:Int)+4:=vO
   have c3:4 * (k:Int)+4<=64:=vO
   have c4:(4 * (k:Int)).toNat=4 * k:=vO
   have c5:(4 * (k:Int)+4).toNat=4 * k+4:=vO
   have b2:jfW wr b o B:=((HB.o.keeps e3.o (fun h=>h)).keeps HK.o vO);have q0:wr.cell? ⟨b,o+4 * k,none⟩=some (.int .u8 ((B.getD (4 * k) 0).toNat:Int)):=b2 (4 * k) _ (by rw[bB (by have:=HL.o;omega)];congr 1;simp[show 4 * k < B.length by have:=HL.o;omega]);have q1:wr.cell? ⟨b,o+4 * k+1,none⟩=some (.int .u8 ((B.getD (4 * k+1) 0).toNat:Int)):=b2 (4 * k+1) _ (by rw[bB (by have:=HL.o;omega)];congr 1;simp[show 4 * k+1 < B.length by have:=HL.o;omega]);have q2:wr.cell? ⟨b,o+4 * k+2,none⟩=some (.int .u8 ((B.getD (4 * k+2) 0).toNat:Int)):=b2 (4 * k+2) _ (by rw[bB (by have:=HL.o;omega)];congr 1;simp[show 4 * k+2 < B.length by have:=HL.o;omega]);have q3:wr.cell? ⟨b,o+4 * k+3,none⟩=some (.int .u8 ((B.getD (4 * k+3) 0).toNat:Int)):=b2 (4 * k+3) _ (by rw[bB (by have:=HL.o;omega)];congr 1;simp[show 4 * k+3 < B.length by have:=HL.o;omega]);have c7:=Hd q0;have c8:=Hd q1;have c9:=Hd q2;have d0:=Hd q3;clear q0 q1 q2 q3 b2
   obtain⟨x0,d1⟩:=vE (B.getD (4 * k) 0)
   obtain⟨x1,d2⟩:=vE (B.getD (4 * k+1) 0)
   obtain⟨x2,Z⟩:=vE (B.getD (4 * k+2) 0)
   obtain⟨x3,d3⟩:=vE (B.getD (4 * k+3) 0)
   rw[<-d1]at c7;rw[<-d2]at c8;rw[<-Z]at c9;rw[<-d3]at d0;have HW:=Hd (show jhY B k=beW x0 x1 x2 x3 by rw[d1,d2,Z,d3];rfl);clear d1 d2 Z d3;go_wp2_with fail
   refine jaq [0,1,2,3,4,5,6,7,8,9,10,11,12,13,14,15,16,17,18,19,20,21,22,23,24] [24] Ext ExtR ExtT vY vY vY ?_;iterate 3 refine vP ?_
   refine qL ⟨b,o+4 * k,none⟩ _ rfl (fun w1 h1=>jab Tryz.uU8 rfl (jaa (by exact c7.o) h1)) ?_;refine vS ?_;iterate 4 refine vP ?_
   refine qL ⟨b,o+4 * k+1,none⟩ _ rfl (fun w1 h1=>jab Tryz.uU8 rfl (jaa (by exact c8.o) h1)) ?_;refine vS ?_;iterate 5 refine vP ?_
   refine qL ⟨b,o+4 * k+2,none⟩ _ rfl (fun w1 h1=>jab Tryz.uU8 rfl (jaa (by exact c9.o) h1)) ?_;refine vS ?_;iterate 5 refine vP ?_
   refine qL ⟨b,o+4 * k+3,none⟩ _ rfl (fun w1 h1=>jab Tryz.uU8 rfl (jaa (by exact d0.o) h1)) ?_;refine vS ?_;iterate 3 refine vP ?_
   have e4:=jzc x0 x1 x2 x3;rw[<-HW.o]at e4;refine qH _ rfl (fun w1 J K hK=>?_);have G1:=HG.o.keeps ((jak wr).trans J) (fun h=>h);have K1:=HK.o.trans' ((jak wr).trans J) (fun _ _ h=>h.elim);have hl:(jeq B k).length=k:=by simp[jeq]
   obtain⟨old,q1⟩:∃ v,w1.cell? ⟨w.heap.size+1,k,none⟩=some v:=⟨_,G1.cellL (bB (by rw[jik vO];omega))⟩
   have q2:w1.frozen? ⟨w.heap.size+1,k,none⟩=false:=G1.frozen;have G2:=G1.set_same (i:=k) (wv (jhY B k));have A:=jil (W:=jeq B k) (n:=64) vO (jhY B k);rw[hl]at A;have b3:jeq B k++[jhY B k]=jeq B (k+1):=by simp[jeq,gI]
   rw[b3]at A;rw[show ((jdb (jeq B k) 64).toArray.setIfInBounds k (wv (jhY B k)))=(jdb (jeq B (k+1)) 64).toArray by rw[<-A];simp]at G2;have H:=Hd G2;have a5:=Hd (K1.setCell (p:=⟨w.heap.size+1,k,none⟩) (.inl rfl) (wv (jhY B k)));clear G1 K1 J hl G2 A b3 HG HK HW c7 c8 c9 d0;go_simp;refine hK _ _ ?_;clear hK K q1 q2;refine qE (fun w2 J=>?_);have d4:=Hd (H.o.keeps J (fun h=>h));have d5:=Hd (a5.o.trans' J (fun _ _ h=>h.elim));clear J H a5 e4;go_wp2_with fail
   go_roundw
   case rel=>exact⟨k+1,by omega,by go_num,d4.o,d5.o⟩
   case measure=>exact vJ
  ·have d9:k=16:=vO
   subst d9;have e5:=Hd (g3.o.keeps HK.o vO);go_wp2_with fail
   obtain⟨W2,rfl⟩:=vE wr
   rw[show ((16:Nat):Int)=(16:Int)from rfl];go_loopw [6] (fun i wr=>jxn W2 (w.heap.size+1) B i wr) (fun i _=>64 - (intOf i).toNat)
   case atStart=>exact⟨16,by omega,by omega,rfl,HG.o,jac.refl _ _⟩
   case round =>
    obtain⟨m,h2,h3,rfl,hG,hK⟩:=hrel
    have X:=Hd hG;have b4:=Hd hK;clear hG hK HG
    by_cases hlt:m < 64
    ·have e6:=jcF B (m - 16)
     obtain⟨a8,b6⟩:∃ a,a=m - 15:=⟨_,rfl⟩
     obtain⟨a2,e7⟩:∃ a,a=m - 2:=⟨_,rfl⟩
     obtain⟨a9,b7⟩:∃ a,a=m - 16:=⟨_,rfl⟩
     obtain⟨a7,e8⟩:∃ a,a=m - 7:=⟨_,rfl⟩
     have h4:(m:Int) - 15=(a8:Int):=vO
     have f2:(m:Int) - 2=(a2:Int):=vO
     have h5:(m:Int) - 16=(a9:Int):=vO
     have f7:(m:Int) - 7=(a7:Int):=vO
     have h6:a8 < 64:=vO
     have l2:a2 < 64:=vO
     have h7:a9 < 64:=vO
     have l7:a7 < 64:=vO
     have b9:=X.o.cellL (i:=a8) (jeP (n:=64) vO);have g2:=X.o.cellL (i:=a2) (jeP (n:=64) vO);have c0:=X.o.cellL (i:=a9) (jeP (n:=64) vO);have g7:=X.o.cellL (i:=a7) (jeP (n:=64) vO)
     obtain⟨O,d6⟩:=vE (jhw B (m - 16))
     have e9:=Hd d6;rw[<-d6]at b9 g2 c0 g7 e6;have a1:O.length=m:=vO
     have d7:jkC O=addW (addW (addW (O.getD a9 0) (sig0 (O.getD a8 0))) (O.getD a7 0)) (sig1 (O.getD a2 0)):=by
      unfold jkC;rw[a1, <-b7, <-b6, <-e8, <-e7]
     obtain⟨f0,a3⟩:∃ x,x=O.getD a8 0:=⟨_,rfl⟩
     obtain⟨x2,Z⟩:∃ x,x=O.getD a2 0:=⟨_,rfl⟩
     obtain⟨h8,a4⟩:∃ x,x=O.getD a9 0:=⟨_,rfl⟩
     obtain⟨x7,d8⟩:∃ x,x=O.getD a7 0:=⟨_,rfl⟩
     rw[<-a3]at b9;rw[<-Z]at g2;rw[<-a4]at c0;rw[<-d8]at g7;rw[<-a3, <-Z, <-a4, <-d8]at d7;have f1:=Hd d7;have e0:=Hd a1;have f3:=Hd b9;have H2:=Hd g2;have f4:=Hd c0;have H7:=Hd g7;clear a3 Z a4 d8 d7 a1 b9 g2 c0 g7 b6 e7 b7 e8 e6 d6;go_wp2_with fail
     refine jaq [0,1,2,3,4,5,6,7,8,9] [] Ext ExtR ExtT vY vY vY ?_;iterate 3 refine vP ?_
     refine qL ⟨w.heap.size+1,a8,none⟩ _ rfl (fun w1 h1=>jab Tryz.uU32 rfl (jaa (by exact f3.o) h1)) ?_;refine vS ?_;iterate 3 refine vP ?_
     refine qL ⟨w.heap.size+1,a2,none⟩ _ rfl (fun w1 h1=>jab Tryz.uU32 rfl (jaa (by exact H2.o) h1)) ?_;refine vS ?_;iterate 2 refine vP ?_
     refine qE (fun w3 J=>?_);have X1:=Hd ((jak wr).trans J);clear J;go_wp2_with fail
     refine (jyy w3 f0).mono ?_;rintro e w4 ⟨rfl,rfl⟩;go_wp2_with fail
     refine (jwo w3 f0).mono ?_;rintro e w4 ⟨rfl,rfl⟩;go_wp2_with fail
     refine (jwn w3 x2).mono ?_;rintro e w4 ⟨rfl,rfl⟩;go_wp2_with fail
     refine (jwp w3 x2).mono ?_;rintro e w4 ⟨rfl,rfl⟩;go_wp2_with fail
     have b8:=Hd (jaa f4.o X1.o);have f5:=Hd (jaa H7.o X1.o);have f6:=Hd (X.o.keeps X1.o (fun h=>h));have f8:=Hd (b4.o.trans' X1.o (fun _ _ h=>h.elim));clear f4 H7 X b4 X1 f3 H2;refine jaq [0,1,2,3,4,5,6,7,8,9,10,11,12,13,14,15] [15] Ext ExtR ExtT vY vY vY ?_;iterate 4 refine vP ?_
     refine qL ⟨w.heap.size+1,a9,none⟩ _ rfl (fun w1 h1=>jab Tryz.uU32 rfl (jaa (by exact b8.o) h1)) ?_;refine vS ?_;iterate 5 refine vP ?_
     refine qL ⟨w.heap.size+1,a7,none⟩ _ rfl (fun w1 h1=>jab Tryz.uU32 rfl (jaa (by exact f5.o) h1)) ?_;refine vS ?_;iterate 4 refine vP ?_
     refine qH _ rfl (fun w1 J K hK=>?_);have G1:=f6.o.keeps ((jak w3).trans J) (fun h=>h);have K1:=f8.o.trans' ((jak w3).trans J) (fun _ _ h=>h.elim);have hl:=e0.o;rw[<-e9.o]at G1
     obtain⟨old,q1⟩:∃ v,w1.cell? ⟨w.heap.size+1,m,none⟩=some v:=⟨_,G1.cellL (bB (by rw[jik vO];omega))⟩
     have q2:w1.frozen? ⟨w.heap.size+1,m,none⟩=false:=G1.frozen;have G2:=G1.set_same (i:=m) (wv (jkC O));have A:=jil (W:=O) (n:=64) vO (jkC O);rw[hl]at A;have b3:O++[jkC O]=jhw B (m+1 - 16):=by
      rw[show m+1 - 16=(m - 16)+1 by omega];simp only[jhw];rw[<-e9.o]
     rw[b3]at A;rw[show ((jdb O 64).toArray.setIfInBounds m (wv (jkC O)))=(jdb (jhw B (m+1 - 16)) 64).toArray by rw[<-A];simp]at G2;have K2:=K1.setCell (p:=⟨w.heap.size+1,m,none⟩) (.inl rfl) (wv (jkC O));rw[f1.o]at G2 K2;have H:=Hd G2;have a5:=Hd K2;clear G1 K1 J hl G2 A b3 K2 f6 f8 b8 f5 f1;unfold sig0 sig1 at H a5;refine jjQ _ _ _ rfl rfl rfl rfl Tryz.iU32 q1 q2 (hK _ _ ?_);clear hK K q1 q2;refine qE (fun w2 J=>?_);have d4:=Hd (H.o.keeps J (fun h=>h));have d5:=Hd (a5.o.trans' J (fun _ _ h=>h.elim));clear J H a5;go_wp2_with fail
     go_roundw
     case rel=>exact⟨m+1,by omega,by omega,by go_num,d4.o,d5.o⟩
     case measure=>exact vJ
    ·have e1:m=64:=vO
     subst e1;have a0:=jli (W:=ja4 B) (n:=64) (by unfold ja4;rw[jcF]);have g5:Hid (Blk wr (w.heap.size+1) (.cells ((ja4 B).map wv).toArray 316)):=Hd (by rw[<-a0];exact X.o);have f9:=Hd (e5.o.keeps b4.o vO);have HX:=Hd ((e3.o.trans' HK.o (G:=fun x=>x=w.heap.size+1) (fun x hx e=>by omega)).trans' b4.o (fun x hx e=>by omega));clear a0 X b4 HK e5;have g0:((ja4 B).map wv).length=64:=by simp[ja4,jcF]
     have b5:=Hd g0;clear g0;go_wp2_with (first |(refine wpList_load_mid rfl 316 (.tmp 3) rfl (w.heap.size+1) 0 rfl ((ja4 B).map wv) (.array 64 257) (jrk g5.o) Tryz.uArr64 rfl (by rw[b5.o];exact Tryz.iArr64) ?_) |(refine wpList_store_mid rfl 316 (.tmp 2) (.tmp 92) rfl w.heap.size 0 ((ja4 B).map wv).toArray rfl rfl (by have:=jhU f9.o;simpa [ja4,jcF]using this) (by simp only[cT];rw[b5.o];exact Tryz.iArr64) (all_oneCell_toArray jr1) ?_))
     have hb:Blk (wr.setCells w.heap.size 0 ((ja4 B).map wv)) w.heap.size (.cells ((ja4 B).map wv).toArray 316):=by
      have:=Blk.setCells ((ja4 B).map wv) 0 wr (List.replicate 64 (wv 0)) f9.o (by rw[b5.o];simp)
      simpa [b5.o]using this
     have hx:=HX.o.trans' (jac.oneSetCells w.heap.size ((ja4 B).map wv) 0 wr) (fun x hx e=>by omega);have g6:=run_loadVar_mid (P:=Tryz.prog) _ w.heap.size 0 316 _ _ (jrk hb) Tryz.uArr64 rfl (by rw[b5.o];exact Tryz.iArr64);exact bodyPost_ret (v:=.agg ((ja4 B).map wv).toArray) (jbl (t:=2) (ty:=316) rfl rfl g6) rfl ⟨rfl,hx⟩
theorem Tryz.enterRight(args:Array vV)(w:vW):(callFunc 176 args).run Tryz.prog w=.ok (.enter 176 args) w:=vY
theorem jal{w:vW}{f:FuncId}{args:Array Operand}{ats:Array TypeId}{ty:TypeId}(eg:∀ args w,(callFunc f args).run P w=.ok (.enter f args) w)(hv:args.map a.eval=vs) :
  (execOp a.eval ⟨d,.call { callee:=.value (.func f),args:=args,argTypes:=ats },ty,pos,af,g⟩).run P w=.ok (.enter f vs) w:=by
 subst hv;simp[execOp,resolve,Deferred.ofValue,invoke,Act.eval,bK,Result.andThen,cP,eg]
theorem jkf{args:Array Operand}{ats:Array TypeId}{ty:TypeId}(h:(Builtin.copy_ ats ty vs).run P w=.ok v w')(hv:args.map a.eval=vs) :
  (execOp a.eval ⟨d,.call { callee:=.builtin .copy,args:=args,argTypes:=ats },ty,pos,af,g⟩).run P w=.ok (.value v) w':=by
 subst hv;simp[execOp,resolve,invoke,Go.builtin,Act.eval,bK,Result.andThen,cP,h]
theorem jgQ(b j:Nat):(⟨b,0,none⟩:Addr).add j=⟨b,j,none⟩:=by unfold Addr.add;split <;> simp_all
theorem jvY{Q:Act->vW->Prop}(o:Oper)(v:vV)(ho:l[k]?=some o)(hk:jgD l hd done k=true)(hw:Region.wanted o (yielded l.toArray a.tmps)=true)
  (hv:∀ w1,(execOp a.eval o).run P w1=.ok (.value v) w1) (h:Mix P l hd E Q ord (k :: done) (a.put o.dst v) w):Mix P l hd E Q (k :: ord) done a w:=by
 simp only[jgD,cC,cL,gR,jma]at hk;have e:∀ w' q,execOp q.eval o=execOp a.eval o->Region.wanted o (yielded l.toArray q.tmps)=Region.wanted o (yielded l.toArray a.tmps)->jbw P l.toArray E w' o v q:=
  fun w' q A H=>.inl ⟨H.trans hw,fun w1 _=>by rw[A,hv w1];exact⟨rfl,rfl⟩⟩
 exact .inl ⟨hk.1.1,hk.1.2,hk.2,o,v,ho,e w a rfl rfl,.inr e,h⟩
theorem qA{Q:Act->vW->Prop}(o:Oper)(v:vV)(ho:l[k]?=some o)(hv:∀ w1,(execOp a.eval o).run P w1=.ok (.value v) w1)(h:Mix P l hd E Q ord (k :: done) (a.put o.dst v) w)(hk:jgD l hd done k=true:=by kernel_rfl)(hw:Region.wanted o (yielded l.toArray a.tmps)=true:=by rfl):Mix P l hd E Q (k :: ord) done a w:=jvY o v ho hk hw hv h
theorem jiR(hv:v.oneCell'=true)(hc:w.cell? ⟨b,i,none⟩=some old)(hf:w.frozen? ⟨b,i,none⟩=false):(storeCells ⟨b,i,none⟩ [v]).run P w=.ok () (w.setCell ⟨b,i,none⟩ v):=by
 rw[jk2,run_store P w _ v _ hv,hc,hf];rfl
theorem jah{w:vW}{T:TypeId}(hrun:∀ w,(Instr.alloc T true (.tuple #[])).run P w=.ok (.pointer (some ⟨w.heap.size,0,none⟩)) (w.alloc (.cells cs.toArray T)))(hgd:o.guard=none)(ho:o.op=.alloc T)
  (h:∀ W,Blk W w.heap.size (.cells cs.toArray T)->Ext w W->wpList P ops Q rest (a.put o.dst (.pointer (some ⟨w.heap.size,0,none⟩))) W):wpList P ops Q (o :: rest) a w:=
 wpList_plain hgd fun K e=>jbk (v:=.pointer (some ⟨w.heap.size,0,none⟩)) (w':=w.alloc (.cells cs.toArray T)) (by simp only[execOp,ho,bK,hrun,Result.andThen,cP]) (e _ _ (h _ (Blk.new w _) ((ExtR w).alloc _)))
theorem jc0{t:TypeId}(hgd:o.guard=none)(b i:Nat)(v:vV)(ho:o.op=.store t x y)(hx:a.eval x=.pointer (some ⟨b,i,none⟩))(hy:a.eval y=v)(hv:v.oneCell'=true)
  (hi:(P.info? t).map (·.size)=some 1)  (hc:w.cell? ⟨b,i,none⟩=some old) (hf:w.frozen? ⟨b,i,none⟩=false) (h:∀ W,W=w.setCell ⟨b,i,none⟩ v->wpList P ops Q rest (a.put o.dst undef) W):wpList P ops Q (o :: rest) a w:=
 jk8 hgd b i v ho hx hy hv hi hc hf (h _ rfl)
theorem jad{T T2:TypeId}{old vs:List vV}(hgd:o.guard=none)(ho:o.op=.store T x y)(hx:a.eval x=.pointer (some ⟨b,0,none⟩))(hy:a.eval y=.agg vs.toArray)
  (hB:Blk w b (.cells old.toArray T2)) (hl:old.length=vs.length) (hi:(P.info? T).map (·.size)=some vs.length) (h1:∀ v∈vs,v.oneCell'=true)
  (h:∀ W,Blk W b (.cells vs.toArray T2)->jac (fun z=>z=b) w W->wpList P ops Q rest (a.put o.dst undef) W):wpList P ops Q (o :: rest) a w:=by
 refine wpList_store_mid hgd T x y ho b 0 vs.toArray hx hy (by have:=jhU hB;rw[hl]at this;simpa using this) (by simpa using hi) (all_oneCell_toArray h1) (h _ ?_ (jac.oneSetCells b vs 0 w))
 have:=Blk.setCells vs 0 w old hB vO
 rw[fG vO]at this;simpa using this
structure W8 where
 a:UInt32
 b:UInt32
 c:UInt32
 d:UInt32
 e:UInt32
 f:UInt32
 g:UInt32
 h:UInt32
def W8.cells(v:W8):List vV:=[wv v.a,wv v.b,wv v.c,wv v.d,wv v.e,wv v.f,wv v.g,wv v.h]
def W8.words(v:W8):List UInt32:=[v.a,v.b,v.c,v.d,v.e,v.f,v.g,v.h]
def jgJ(V U:List UInt32)(k:Nat):List UInt32:=(List.zipWith addW V U).take k++V.drop k
theorem jjW(h:V.length=U.length)(k:Nat):(jgJ V U k).length=V.length:=by simp[jgJ];omega
theorem joS(h:V.length=U.length)(hk:k < V.length):(jgJ V U k)[k]?=V[k]?:=by
 unfold jgJ;rw[cO (by simp;omega)];simp only[cQ,List.length_zipWith,List.getElem?_drop]
 congr 1;omega
theorem joT(h:V.length=U.length)(hk:k < V.length):(jgJ V U k).set k (addW (V[k]'hk) (U[k]'(h ▸ hk)))=jgJ V U (k+1):=by
 apply iI;intro i;rw[List.getElem?_set];have e:=jjW h k;unfold jgJ at *
 by_cases hi:k=i
 ·subst hi
  rw[if_pos rfl,if_pos vO,cR (by simp;omega),List.getElem?_take_of_lt vO,bB (by simp;omega)]
  simp
 ·rw[if_neg hi]
  by_cases hlt:i < k
  ·rw[cR (by simp;omega),cR (by simp;omega),List.getElem?_take_of_lt hlt,List.getElem?_take_of_lt vO]
  ·rw[cO (by simp;omega),cO (by simp;omega)]
   simp only[cQ,List.length_zipWith,List.getElem?_drop]
   congr 1
   omega
def W8.add(v u:W8):W8:=⟨addW v.a u.a,addW v.b u.b,addW v.c u.c,addW v.d u.d,addW v.e u.e,addW v.f u.f,addW v.g u.g,addW v.h u.h⟩
theorem joR(v u:W8):jgJ v.words u.words 8=(v.add u).words:=rfl
theorem W8.cells_words(v:W8):v.cells=v.words.map wv:=rfl
def tOne(v:W8)(k x:UInt32):UInt32:=addW (addW (addW (addW v.h (xorW (xorW (rotW v.e 6) (rotW v.e 11)) (rotW v.e 25))) (xorW (andW v.e v.f) (andW (notW v.e) v.g))) k) x
def tTwo(v:W8):UInt32:=addW (xorW (xorW (rotW v.a 2) (rotW v.a 13)) (rotW v.a 22)) (xorW (xorW (andW v.a v.b) (andW v.a v.c)) (andW v.b v.c))
def jrw(v:W8)(k x:UInt32):W8:=⟨addW (tOne v k x) (tTwo v),v.a,v.b,v.c,addW v.d (tOne v k x),v.e,v.f,v.g⟩
def jhj:List UInt32:=[0x428a2f98,0x71374491,0xb5c0fbcf,0xe9b5dba5,0x3956c25b,0x59f111f1,0x923f82a4,0xab1c5ed5,0xd807aa98,0x12835b01,0x243185be,0x550c7dc3,0x72be5d74,0x80deb1fe,0x9bdc06a7,0xc19bf174,
 0xe49b69c1,0xefbe4786,0x0fc19dc6,0x240ca1cc,0x2de92c6f,0x4a7484aa,0x5cb0a9dc,0x76f988da,0x983e5152,0xa831c66d,0xb00327c8,0xbf597fc7,0xc6e00bf3,0xd5a79147,0x06ca6351,0x14292967,
 0x27b70a85,0x2e1b2138,0x4d2c6dfc,0x53380d13,0x650a7354,0x766a0abb,0x81c2c92e,0x92722c85,0xa2bfe8a1,0xa81a664b,0xc24b8b70,0xc76c51a3,0xd192e819,0xd6990624,0xf40e3585,0x106aa070,
 0x19a4c116,0x1e376c08,0x2748774c,0x34b0bcb5,0x391c0cb3,0x4ed8aa4a,0x5b9cca4f,0x682e6ff3,0x748f82ee,0x78a5636f,0x84c87814,0x8cc70208,0x90befffa,0xa4506ceb,0xbef9a3f7,0xc67178f2]
def jbA(w:vW):Prop:=∀ i,i < 64->w.cell? ⟨1,i,none⟩=some (wv (jhj.getD i 0))
theorem jbA.lt(h:jbA w):1 < w.heap.size:=dN w _ (h 0 vI)
theorem jbA.keeps(h:jbA w)(k:jac F w w')(hF:¬ F 1):jbA w':=fun i hi=>by
 have:=h i hi
 have e:=k.block _ h.lt hF;unfold World.cell? at *;rw[e];exact this
theorem jbA.ext(h:jbA w)(k:Ext w w'):jbA w':=h.keeps k (fun h=>h)
def jgt(Wd:List UInt32)(v:W8):Nat->W8
 | 0=>v
 | k+1=>jrw (jgt Wd v k) (jhj.getD k 0) (Wd.getD k 0)
theorem Tryz.uArr8:Tryz.prog.underlying 258=some (.array 8 257):=vY
theorem Tryz.iArr8:(Tryz.prog.info? 258).map (·.size)=some 8:=vY
theorem Tryz.uSlU32:Tryz.prog.underlying 319=some (.slice 257):=vY
theorem Tryz.newArr64(w:vW):(Instr.alloc 316 true (.tuple #[])).run Tryz.prog w=.ok (.pointer (some ⟨w.heap.size,0,none⟩)) (w.alloc (.cells (List.replicate 64 (wv 0)).toArray 316)):=vY
theorem Tryz.newArr8(w:vW):(Instr.alloc 258 true (.tuple #[])).run Tryz.prog w=.ok (.pointer (some ⟨w.heap.size,0,none⟩)) (w.alloc (.cells (List.replicate 8 (wv 0)).toArray 258)):=vY
def mixW(V:W8)(B:vN):W8:=V.add (jgt (ja4 B) V 64)
def jaC(ws:List UInt32)(B:vN)(n sz:Int):List vV:=ws.map wv++jaB B++[Value.int .i64 n,Value.int .u64 sz]
theorem jh3{n sz:Int}{x:UInt32}(h:ws[k]?=some x):(jaC ws B n sz)[k]?=some (wv x):=by
 have:=(bH.1 h).1
 unfold jaC;rw[cE,cR (by simpa using this)];simp[h]
theorem jji{n sz:Int}(h:k < ws.length)(x:UInt32):(jaC ws B n sz).toArray.setIfInBounds k (wv x)=(jaC (ws.set k x) B n sz).toArray:=by
 unfold jaC;simp only[fJ,cE];rw[List.set_append_left _ _ (by simpa using h),gB]
def jwM(w:vW)(bh:Nat)(V U:List UInt32)(B:vN)(n sz:Int)(i:vV)(wr:vW):Prop:=∃ k:Nat,k<=8/\i=.int .i64 k/\Blk wr bh (.cells (jaC (jgJ V U k) B n sz).toArray 261)/\jac (fun x=>x=bh) w wr
def ju3(w:vW)(g5:Nat)(v:W8)(w':vW):Prop:=Blk w' g5 (.cells v.cells.toArray 258)/\jac (fun x=>x=g5) w w'
def jxc(w:vW)(g5:Nat)(Wd:List UInt32)(v:W8)(i:vV)(wr:vW):Prop:=∃ k:Nat,k<=64/\i=.int .i64 k/\ju3 w g5 (jgt Wd v k) wr
theorem jzn(w:vW)(bh:Nat)(V:W8)(B:vN)(n sz:Int)(hL:B.length=64)(hB:Blk w bh (.cells (jaC V.words B n sz).toArray 261))(hc:jbA w)(hbh:bh≠1) :
  vQ 137 #[.pointer (some ⟨bh,0,none⟩),.slice (some ⟨bh,8,none⟩) 64 64] w fun e w'=>e=.returned (.tuple #[])/\Blk w' bh (.cells (jaC (mixW V B).words B n sz).toArray 261)/\jac (fun x=>x=bh) w w':=by
 have HB:=Hd hB;have HC:=Hd hc;have d2:jfW w bh 8 B:=fun j x hx=>hB.cellL (by
  have hj:=(bH.1 hx).1;unfold jaC;rw[cE,cO (by simp[W8.words]),cR (by simp[W8.words];omega)];simp[W8.words,jaB,hx])
 have hX:∀ (p q:UInt32) (w:vW),(binOp .xor 257 (wv p) (wv q)).run Tryz.prog w=.ok (wv (xorW p q)) w:=fun _ _ _=>jnd;have hA:∀ (p q:UInt32) (w:vW),(binOp .add 257 (wv p) (wv q)).run Tryz.prog w=.ok (wv (addW p q)) w:=fun _ _ _=>jnc;have hN:∀ (p q:UInt32) (w:vW),(binOp .and 257 (wv p) (wv q)).run Tryz.prog w=.ok (wv (andW p q)) w:=fun _ _ _=>jt3;have hU:∀ (p:UInt32) (w:vW),(Op.unary .xor (wv p)).run Tryz.prog w=.ok (wv (notW p)) w:=fun _ _=>jt4;have d3:=Hd d2;have HL:=Hd hL;clear hB hc d2 hL;go_enter Tryz.func137,Tryz.ntmps137;go_wp2_with fail
 refine vC (juf w bh 8 B HL.o d3.o) fun w1 hE=>?_;have HE:=Hd hE;have b4:=Hd (HB.o.keeps hE (fun h=>h));clear hE;have d4:((ja4 B).map wv).length=64:=by simp[ja4,jcF]
 have b5:=Hd d4;clear d4;go_wp2_with (refine jah (cs:=List.replicate 64 (wv 0)) Tryz.newArr64 rfl rfl ?_)
 intro W4 B4 E4;refine jad (old:=List.replicate 64 (wv 0)) (vs:=(ja4 B).map wv) rfl rfl rfl rfl B4 (by rw[b5.o];rfl) (by rw[b5.o];exact Tryz.iArr64) jr1 ?_;intro W5 B5 K5;have X5:Ext w1 W5:=(E4.trans' K5 (fun x hx e=>by omega))
 obtain⟨g4,b1⟩:=vE w1.heap.size
 have c8:g4 < W5.heap.size:=by rw[b1];exact B5.lt
 have d5:=b4.o.keeps X5 (fun h=>h);have d6:=HC.o.ext (HE.o.trans X5);have g7:bh≠g4:=by have:=b4.o.lt;omega
 have g8:1≠g4:=by have:=(HC.o.ext HE.o).lt;omega
 have g9:w.heap.size<=g4:=by rw[b1];exact HE.o.size
 rw[<-b1]at B5 ⊢;have d7:=Hd B5;have b2:=Hd d5;have b6:=Hd d6;have b7:=Hd (HE.o.trans X5);clear B4 E4 B5 K5 X5 d5 d6 b1 b4;have d8:W5.rangeAt bh 0 V.cells:=fun j v Z=>by
  rw[W8.cells_words]at Z;rw[bT];exact b2.o.cellL (by unfold jaC;rw[cE,cR (bH.1 Z).1];exact Z)
 have d9:=Hd d8;clear d8;go_wp2_with (first |(refine wpList_load_mid rfl 258 (.tmp 16) rfl bh 0 rfl V.cells (.array 8 257) d9.o Tryz.uArr8 rfl Tryz.iArr8 ?_) |(refine jah (cs:=List.replicate 8 (wv 0)) Tryz.newArr8 rfl rfl ?_))
 intro W6 B6 E6;refine jad (old:=List.replicate 8 (wv 0)) (vs:=V.cells) rfl rfl rfl rfl B6 rfl Tryz.iArr8 (by intro v Z;simp only[W8.cells,bZ,gW,or_false]at Z;rcases Z with rfl | rfl | rfl | rfl | rfl | rfl | rfl | rfl <;> rfl) ?_;intro W7 B7 K7;have X7:Ext W5 W7:=(E6.trans' K7 (fun x hx e=>by omega))
 obtain⟨H,b8⟩:=vE W5.heap.size
 have e0:bh≠H:=by have:=b2.o.lt;omega
 have f5:1≠H:=by have:=b6.o.lt;omega
 have f6:g4≠H:=vO
 have b9:w.heap.size<=H:=by rw[b8];exact b7.o.size
 rw[<-b8]at B7 ⊢;have e1:=Hd B7;have e2:=Hd (d7.o.keeps X7 (fun h=>h));have e3:=Hd (b2.o.keeps X7 (fun h=>h));have e4:=Hd (b6.o.ext X7);have e5:=Hd (b7.o.trans X7);clear B6 E6 B7 K7 X7 b8 d7 b2 b6 b7 d9 c8 b5 HE d3 HL HC;go_wp2_with fail
 go_loopw [18] (fun i wr=>jxc W7 H (ja4 B) V i wr) (fun i _=>64 - (intOf i).toNat)
 case atStart=>exact⟨0,by omega,rfl,e1.o,jac.refl _ _⟩
 case round =>
  obtain⟨k,hk,rfl,O,hK⟩:=hrel
  have HK:=Hd hK
  by_cases hlt:k < 64
  ·obtain⟨v,Z⟩:=vE (jgt (ja4 B) V k)
   have a0:jgt (ja4 B) V (k+1)=jrw v (jhj.getD k 0) ((ja4 B).getD k 0):=by rw[Z];rfl
   rw[<-Z]at O
   obtain⟨ck,c0⟩:=vE (jhj.getD k 0)
   obtain⟨wk,c1⟩:=vE ((ja4 B).getD k 0)
   rw[<-c0, <-c1]at a0;have qc:wr.cell? ⟨1,k,none⟩=some (wv ck):=by rw[c0];exact (e4.o.keeps hK f5) k hlt
   have qw:wr.cell? ⟨g4,k,none⟩=some (wv wk):=by
    rw[c1];refine (e2.o.keeps hK f6).cellL ?_;rw[bV,bB (by simp[ja4,jcF];omega)];simp[show k < (ja4 B).length by simp[ja4,jcF];omega]
   have QC:=Hd qc;have QW:=Hd qw;have f7:=Hd a0;clear Z a0 c0 c1 qc qw hK
   obtain⟨X,x1,x2,x3,x4,x5,x6,x7⟩:=v
   have HG:=Hd O;have Q0:=Hd (O.cell (i:=0) (v:=wv X) vF);have Q1:=Hd (O.cell (i:=1) (v:=wv x1) vF);have Q2:=Hd (O.cell (i:=2) (v:=wv x2) vF);have Q3:=Hd (O.cell (i:=3) (v:=wv x3) vF);have Q4:=Hd (O.cell (i:=4) (v:=wv x4) vF);have Q5:=Hd (O.cell (i:=5) (v:=wv x5) vF);have Q6:=Hd (O.cell (i:=6) (v:=wv x6) vF);have Q7:=Hd (O.cell (i:=7) (v:=wv x7) vF);clear O;go_wp2_with fail
   refine jaq [0,1,2,3,4,5] [] Ext ExtR ExtT vY vY vY ?_
   refine vP ?_
   refine qL ⟨H,0,none⟩ _ rfl (fun w1 A=>jab Tryz.uU32 rfl (jaa (by exact Q0.o) A)) ?_;refine vS ?_
   refine vP ?_
   refine qL ⟨H,4,none⟩ _ rfl (fun w1 A=>jab Tryz.uU32 rfl (jaa (by exact Q4.o) A)) ?_;refine vS ?_;iterate 2 refine vP ?_
   refine qE (fun w3 J=>?_);have X3:=Hd ((jak wr).trans J);clear J;go_wp2_with fail
   refine jaq [0,1,2,3,4,5,6,7,8,9,10,11,12,13,14,15,16,17,18,19,20,21,22,23,24,25,26,27,28,29,30] [] Ext ExtR ExtT vY vY vY ?_
   refine vP ?_
   refine qL ⟨H,7,none⟩ _ rfl (fun w1 A=>jab Tryz.uU32 rfl (jaa (by exact jaa Q7.o (X3.o.trans (jak w3))) A)) ?_;refine vS ?_
   refine vP ?_
   refine jcC _ 176 #[wv x4,.int .i64 6] (wv (rotW x4 6)) rfl vY rfl (fun w1=>jal Tryz.enterRight vY) (fun w1 A=>(jyx w1 x4).mono (fun e w2 ⟨A,h2⟩=>⟨A,h2 ▸ ExtR w1⟩)) ?_;refine vS ?_
   refine vP ?_
   refine jcC _ 176 #[wv x4,.int .i64 11] (wv (rotW x4 11)) rfl vY rfl (fun w1=>jal Tryz.enterRight vY) (fun w1 A=>(jwl w1 x4).mono (fun e w2 ⟨A,h2⟩=>⟨A,h2 ▸ ExtR w1⟩)) ?_;refine vS ?_;iterate 2 refine vP ?_
   refine jcC _ 176 #[wv x4,.int .i64 25] (wv (rotW x4 25)) rfl vY rfl (fun w1=>jal Tryz.enterRight vY) (fun w1 A=>(jwr w1 x4).mono (fun e w2 ⟨A,h2⟩=>⟨A,h2 ▸ ExtR w1⟩)) ?_;refine vS ?_;iterate 4 refine vP ?_
   refine qL ⟨H,5,none⟩ _ rfl (fun w1 A=>jab Tryz.uU32 rfl (jaa (by exact jaa Q5.o (X3.o.trans (jak w3))) A)) ?_;refine vS ?_;iterate 4 refine vP ?_
   refine qL ⟨H,6,none⟩ _ rfl (fun w1 A=>jab Tryz.uU32 rfl (jaa (by exact jaa Q6.o (X3.o.trans (jak w3))) A)) ?_;refine vS ?_;iterate 5 refine vP ?_
   refine qL ⟨1,k,none⟩ _ rfl (fun w1 A=>jab Tryz.uU32 rfl (jaa (by exact jaa QC.o (X3.o.trans (jak w3))) A)) ?_;refine vS ?_;iterate 3 refine vP ?_
   refine qL ⟨g4,k,none⟩ _ rfl (fun w1 A=>jab Tryz.uU32 rfl (jaa (by exact jaa QW.o (X3.o.trans (jak w3))) A)) ?_;refine vS ?_;iterate 2 refine vP ?_
   refine qE (fun w4 J=>?_);have X4:=Hd (X3.o.trans ((jak w3).trans J));clear J X3
   obtain⟨tv,c2⟩:∃ t,t=tOne ⟨X,x1,x2,x3,x4,x5,x6,x7⟩ ck wk:=⟨_,rfl⟩
   have a1:=c2;unfold tOne at a1;simp only at a1;rw[<-a1];have f8:=Hd c2;clear c2 a1;go_wp2_with fail
   refine jaq [0,1,2,3,4,5,6,7,8,9,10,11,12,13,14,15,16,17,18,19,20,21,22,23,24] [] Ext ExtR ExtT vY vY vY ?_
   refine vP ?_
   refine jcC _ 176 #[wv X,.int .i64 2] (wv (rotW X 2)) rfl vY rfl (fun w1=>jal Tryz.enterRight vY) (fun w1 A=>(jyw w1 X).mono (fun e w2 ⟨A,h2⟩=>⟨A,h2 ▸ ExtR w1⟩)) ?_;refine vS ?_
   refine vP ?_
   refine jcC _ 176 #[wv X,.int .i64 13] (wv (rotW X 13)) rfl vY rfl (fun w1=>jal Tryz.enterRight vY) (fun w1 A=>(jwm w1 X).mono (fun e w2 ⟨A,h2⟩=>⟨A,h2 ▸ ExtR w1⟩)) ?_;refine vS ?_;iterate 2 refine vP ?_
   refine jcC _ 176 #[wv X,.int .i64 22] (wv (rotW X 22)) rfl vY rfl (fun w1=>jal Tryz.enterRight vY) (fun w1 A=>(jwq w1 X).mono (fun e w2 ⟨A,h2⟩=>⟨A,h2 ▸ ExtR w1⟩)) ?_;refine vS ?_;iterate 3 refine vP ?_
   refine qL ⟨H,1,none⟩ _ rfl (fun w1 A=>jab Tryz.uU32 rfl (jaa (by exact jaa Q1.o (X4.o.trans (jak w4))) A)) ?_;refine vS ?_;iterate 3 refine vP ?_
   refine qL ⟨H,2,none⟩ _ rfl (fun w1 A=>jab Tryz.uU32 rfl (jaa (by exact jaa Q2.o (X4.o.trans (jak w4))) A)) ?_;refine vS ?_;iterate 3 refine vP ?_
   refine qL ⟨H,1,none⟩ _ rfl (fun w1 A=>jab Tryz.uU32 rfl (jaa (by exact jaa Q1.o (X4.o.trans (jak w4))) A)) ?_;refine vS ?_
   refine vP ?_
   refine qL ⟨H,2,none⟩ _ rfl (fun w1 A=>jab Tryz.uU32 rfl (jaa (by exact jaa Q2.o (X4.o.trans (jak w4))) A)) ?_;refine vS ?_;iterate 4 refine vP ?_
   refine qE (fun w5 J=>?_);have X5:=Hd (X4.o.trans ((jak w4).trans J));clear J X4
   obtain⟨sv,c3⟩:∃ t,t=tTwo ⟨X,x1,x2,x3,x4,x5,x6,x7⟩:=⟨_,rfl⟩
   have a2:=c3;unfold tTwo at a2;simp only at a2;rw[<-a2];have f9:=Hd c3;clear c3 a2;have e6:=Hd (HG.o.keeps X5.o (fun h=>h));have e7:=Hd (HK.o.trans' X5.o (fun _ _ h=>h.elim));clear HG HK X5 Q0 Q1 Q2 Q3 Q4 Q5 Q6 Q7 QC QW;go_wp2_with fail
   refine jaq [0,1,2] [2] Ext ExtR ExtT vY vY vY ?_;iterate 2 refine vP ?_
   refine qH _ rfl (fun w6 J K hK=>?_);have G1:=e6.o.keeps ((jak w5).trans J) (fun h=>h);have K1:=e7.o.trans' ((jak w5).trans J) (fun _ _ h=>h.elim);have c4:=run_copy_cells (P:=Tryz.prog) w6 319 319 3 257 H 1 7 7 ⟨H,0,none⟩ 7 8 [wv X,wv x1,wv x2,wv x3,wv x4,wv x5,wv x6] Tryz.uSlU32 Tryz.iU32 rfl
    (by intro j v Z;rw[jgQ];exact G1.cellL (by have:=(bH.1 Z).1;simp at this;rcases (show j=0\/j=1\/j=2\/j=3\/j=4\/j=5\/j=6 by omega)with rfl | rfl | rfl | rfl | rfl | rfl | rfl <;> simpa [W8.cells]using Z))
    (by intro j hj;rw[G1.cellL (i:=1+j) (bB (by simp[W8.cells]at hj ⊢;omega))];rfl)
    (by intro j hj;exact G1.frozen) (by intro v Z;simp only[bZ,gW,or_false]at Z;rcases Z with rfl | rfl | rfl | rfl | rfl | rfl | rfl <;> rfl)
   have G2:=Blk.setCells [wv X,wv x1,wv x2,wv x3,wv x4,wv x5,wv x6] 1 w6 _ G1 (by simp[W8.cells]);have K2:=K1.trans (jac.oneSetCells H [wv X,wv x1,wv x2,wv x3,wv x4,wv x5,wv x6] 1 w6)
   obtain⟨w7,b9⟩:=vE (w6.setCells H 1 [wv X,wv x1,wv x2,wv x3,wv x4,wv x5,wv x6])
   rw[<-b9]at c4 G2 K2;simp[W8.cells]at G2;have a5:=Hd G2;have a7:=Hd K2;clear G1 K1 G2 K2 b9 J e6 e7;refine jbk (w':=w7) (jkf c4 vY) (hK _ _ ?_);clear c4 hK K w6;refine qE (fun w8 J=>?_);have a4:=Hd (a5.o.keeps J (fun h=>h));have b3:=Hd (a7.o.trans' J (fun _ _ h=>h.elim));clear J a5 a7;have Q4:=a4.o.cell (i:=4) (v:=wv x3) vF;have F4:w8.frozen? ⟨H,4,none⟩=false:=a4.o.frozen;have G9:=a4.o.set_same (i:=4) (wv (addW x3 tv));have K9:=b3.o.setCell (p:=⟨H,4,none⟩) (.inl rfl) (wv (addW x3 tv));have a8:=Hd G9;have c5:=Hd K9;clear G9 K9 a4 b3;go_wp2_with fail
   rw[jiR rfl Q4 F4];go_wp2_with fail
   obtain⟨w9,e8⟩:=vE (w8.setCell ⟨H,4,none⟩ (wv (addW x3 tv)))
   rw[<-e8]at a8 c5 ⊢;clear e8 Q4 F4;have Q0:w9.cell? ⟨H,0,none⟩=some (wv X):=a8.o.cell (i:=0) vF;have F0:w9.frozen? ⟨H,0,none⟩=false:=a8.o.frozen;have G9:=a8.o.set_same (i:=0) (wv (addW tv sv));have K9:=c5.o.setCell (p:=⟨H,0,none⟩) (.inl rfl) (wv (addW tv sv));have e9:=Hd G9;have f0:=Hd K9;clear G9 K9 a8 c5;rw[jiR rfl Q0 F0];go_wp2_with fail
   obtain⟨wA,f1⟩:=vE (w9.setCell ⟨H,0,none⟩ (wv (addW tv sv)))
   rw[<-f1]at e9 f0 ⊢;clear f1 Q0 F0 w9 w8;go_roundw
   case rel=>exact⟨k+1,by omega,by go_num,by rw[f7.o];unfold jrw;rw[<-f8.o, <-f9.o];exact e9.o,f0.o⟩
   case measure=>exact vJ
  ·have c9:k=64:=vO
   subst c9
   obtain⟨U,c7⟩:=vE (jgt (ja4 B) V 64)
   rw[<-c7]at O;have g0:=Hd c7;have g2:=Hd O;have f2:=Hd (e3.o.keeps HK.o e0);have g3:=Hd (e5.o.trans' HK.o (fun x hx e=>by omega));clear c7 O HK e3 e5 e1 e2 e4 hX hN hU;go_wp2_with fail
   obtain⟨wm,rfl⟩:=vE wr
   rw[show ((64:Nat):Int)=(64:Int)from rfl];have h0:Hid (bh < wm.heap.size):=f2.o.lt;go_loopw [92] (fun i w2=>jwM wm bh V.words U.words B n sz i w2) (fun i _=>8 - (intOf i).toNat)
   case atStart=>exact⟨0,by omega,rfl,f2.o,jac.refl _ _⟩
   case round =>
    obtain⟨k,hk,rfl,O,hK⟩:=hrel
    have HK:=Hd hK;have HG:=Hd O;clear hK O
    by_cases hlt:k < 8
    ·obtain⟨x,hx⟩:∃ x,V.words[k]?=some x:=⟨_,bB (by simp[W8.words];omega)⟩
     obtain⟨y,hy⟩:∃ y,U.words[k]?=some y:=⟨_,bB (by simp[W8.words];omega)⟩
     have a9:(jgJ V.words U.words k).set k (addW x y)=jgJ V.words U.words (k+1):=by
      have:=joT (V:=V.words) (U:=U.words) (k:=k) rfl (by simp[W8.words];omega)
      rw[(bH.1 hx).2,(bH.1 hy).2]at this;exact this
     have q1:=HG.o.cellL (jh3 ((joS (V:=V.words) (U:=U.words) (k:=k) rfl (by simp[W8.words];omega)).trans hx));have q2:wr.cell? ⟨H,k,none⟩=some (wv y):=(g2.o.keeps HK.o (Ne.symm e0)).cellL (by rw[W8.cells_words,bV,hy];rfl);have b0:k < (jgJ V.words U.words k).length:=by rw[jjW (V:=V.words) (U:=U.words) rfl];simp[W8.words];omega
     have Q1:=Hd q1;have Q2:=Hd q2;have d0:=Hd a9;have d1:=Hd b0;clear hx hy a9 q1 q2 b0;go_wp2_with fail
     refine jaq [0,1,2,3,4,5,6,7,8,9,10,11,12,13] [13] Ext ExtR ExtT vY vY vY ?_;iterate 2 refine vP ?_
     refine qA _ (.pointer (some ⟨bh,0,none⟩)) rfl (fun w1=>by kernel_rfl) ?_;refine vS ?_;iterate 2 refine vP ?_
     refine qL ⟨bh,k,none⟩ _ rfl (fun w1 A=>jab Tryz.uU32 rfl (jaa (by exact Q1.o) A)) ?_;refine vS ?_;iterate 2 refine vP ?_
     refine qL ⟨H,k,none⟩ _ rfl (fun w1 A=>jab Tryz.uU32 rfl (jaa (by exact Q2.o) A)) ?_;refine vS ?_
     refine vP ?_
     refine qA _ (.pointer (some ⟨bh,0,none⟩)) rfl (fun w1=>by kernel_rfl) ?_;refine vS ?_;iterate 2 refine vP ?_
     refine qH _ rfl (fun w6 J K hK=>?_);have G1:=HG.o.keeps ((jak wr).trans J) (fun h=>h);have K1:=HK.o.trans' ((jak wr).trans J) (fun _ _ h=>h.elim);have f3:=jaa Q1.o ((jak wr).trans J);have f4:w6.frozen? ⟨bh,k,none⟩=false:=G1.frozen;have G2:=G1.set_same (i:=k) (wv (addW x y));rw[jji d1.o,d0.o]at G2;have K2:=K1.setCell (p:=⟨bh,k,none⟩) (.inl rfl) (wv (addW x y));have a5:=Hd G2;have a7:=Hd K2;clear G1 K1 G2 K2 J HG HK Q1 Q2;refine jjQ bh k (wv (addW x y)) rfl vY vY rfl Tryz.iU32 f3 f4 (hK _ _ ?_);clear hK K f3 f4;refine qE (fun w8 J=>?_);have a4:=Hd (a5.o.keeps J (fun h=>h));have b3:=Hd (a7.o.trans' J (fun _ _ h=>h.elim));clear J a5 a7;go_wp2_with fail
     go_roundw
     case rel=>exact⟨k+1,by omega,by go_num,a4.o,b3.o⟩
     case measure=>exact vJ
    ·have g6:k=8:=vO
     subst g6;have a3:=HG.o;rw[joR,g0.o]at a3;have HF:=Hd a3;have HX:=Hd ((g3.o.mono (G:=fun x=>x=bh) (fun _ _ h=>h.elim)).trans HK.o);clear a3;go_wp2_with fail
     go_end0
     exact⟨rfl,HF.o,HX.o⟩
