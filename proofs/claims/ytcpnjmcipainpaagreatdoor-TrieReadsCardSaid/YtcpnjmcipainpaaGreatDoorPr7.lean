/- Lemmas; each is under no condition but those that it states. -/
import Derived.Test.YtcpnjmcipainpaaGreatDoorPr6
import Derived.Deep.MidRow
namespace Go.Proofs.YtcpnjmcipainpaaGreatDoor
set_option linter.unusedSimpArgs false
set_option linter.unusedVariables false
set_option maxRecDepth 100000
set_option maxHeartbeats 16000000
open Go Go.RowKit
def beW(a b c d:UInt8):UInt32:=a.toUInt32 <<< 24 ||| b.toUInt32 <<< 16 ||| c.toUInt32 <<< 8 ||| d.toUInt32
def jeE(B:List UInt8)(i:Nat):UInt32:=beW (B.getD (4 * i) 0) (B.getD (4 * i+1) 0) (B.getD (4 * i+2) 0) (B.getD (4 * i+3) 0)
def jdG(B:List UInt8)(k:Nat):List UInt32:=(List.range k).map (jeE B)
def sig0(x:UInt32):UInt32:=xorW (xorW (rotW x 7) (rotW x 18)) (shrW x 3)
def sig1(x:UInt32):UInt32:=xorW (xorW (rotW x 17) (rotW x 19)) (shrW x 10)
def jix(W:List UInt32):UInt32:=addW (addW (addW (W.getD (W.length - 16) 0) (sig0 (W.getD (W.length - 15) 0))) (W.getD (W.length - 7) 0)) (sig1 (W.getD (W.length - 2) 0))
def jgD(B:List UInt8):Nat->List UInt32
 | 0=>jdG B 16
 | j+1=>jgD B j++[jix (jgD B j)]
theorem jcm(B:List UInt8):∀ j,(jgD B j).length=16+j
 | 0=>by simp[jgD,jdG]
 | j+1=>by simp[jgD,jcm B j];omega
def ja2(B:List UInt8):List UInt32:=jgD B 48
def jdt(W:List UInt32)(n:Nat):List Value:=W.map wv++List.replicate (n - W.length) (wv 0)
theorem jiK{W:List UInt32}{n:Nat}(h:W.length<=n):(jdt W n).length=n:=by simp[jdt];omega
theorem jiL{W:List UInt32}{n:Nat}(h:W.length < n)(x:UInt32):(jdt W n).set W.length (wv x)=jdt (W++[x]) n:=by
 unfold jdt;rw[List.set_append_right _ _ (by simp),show n - W.length=(n - (W++[x]).length)+1 by simp;omega,List.replicate_succ]
 simp
theorem je9{W:List UInt32}{n i:Nat}(h:i < W.length):(jdt W n)[i]?=some (wv (W.getD i 0)):=by
 unfold jdt;rw[List.getElem?_append_left (by simpa using h)];simp[h]
theorem jl9{W:List UInt32}{n:Nat}(h:W.length=n):jdt W n=W.map wv:=by simp[jdt,h]
theorem jw0(a b c d:UInt8):bits .or .u32 (bits .or .u32 (bits .or .u32 ((a.toNat:Int) % (4294967296:Int) * (16777216:Int) % (4294967296:Int)) ((b.toNat:Int) % (4294967296:Int) * (65536:Int) % (4294967296:Int))) ((c.toNat:Int) % (4294967296:Int) * (256:Int) % (4294967296:Int))) ((d.toNat:Int) % (4294967296:Int))=((beW a b c d).toNat:Int):=by
 have e:∀ (x:UInt8) (s:UInt32) (m:Nat),s.toNat < 32->m=2 ^ s.toNat->(x.toNat:Int) % (4294967296:Int) * (m:Int) % (4294967296:Int)=((x.toUInt32 <<< s).toNat:Int):=by
  intro x s m hs hm;rw[UInt32.toNat_shiftLeft,Nat.mod_eq_of_lt hs,Nat.shiftLeft_eq,hm];have h:=x.toNat_lt;rw[show (x.toNat:Int) % (4294967296:Int)=(x.toNat:Int) by omega]
  simp
 have f1:(a.toNat:Int) % (4294967296:Int) * (16777216:Int) % (4294967296:Int)=((a.toUInt32 <<< 24).toNat:Int):=e a 24 16777216 vI vI;have f2:(b.toNat:Int) % (4294967296:Int) * (65536:Int) % (4294967296:Int)=((b.toUInt32 <<< 16).toNat:Int):=e b 16 65536 vI vI;have f3:(c.toNat:Int) % (4294967296:Int) * (256:Int) % (4294967296:Int)=((c.toUInt32 <<< 8).toNat:Int):=e c 8 256 vI vI;have f4:(d.toNat:Int) % (4294967296:Int)=(d.toUInt32.toNat:Int):=by have:=d.toNat_lt;simp;omega
 rw[f1,f2,f3,f4,jfP,jfP,jfP];rfl
def jgj(w:World)(b o:Nat)(B:List UInt8):Prop:=∀ (j:Nat) x,B[j]?=some x->w.cell? ⟨b,o+j,none⟩=some (.int .u8 (x.toNat:Int))
theorem jgj.keeps{F:BSet}{w w':World}{b o:Nat}{B:List UInt8}(h:jgj w b o B)(k:jae F w w')(hF:¬ F b):jgj w' b o B:=fun j x hx=>by
 have:=h j x hx
 have hlt:=World.block_lt_of_cell? w _ this;have e:=k.block b hlt hF;unfold World.cell? at *;rw[e];exact this
theorem Tryz.uArr64:Tryz.prog.underlying 296=some (.array 64 206):=by kernel_rfl
theorem Tryz.iArr64:(Tryz.prog.info? 296).map (·.size)=some 64:=by kernel_rfl
theorem jrn{w:World}{b:Nat}{C:List Value}{T:TypeId}{fz:Nat × Nat}(h:Blk w b (.cells C.toArray T fz)):w.rangeAt b 0 C:=fun j v hv=>by rw[Nat.zero_add];exact h.cellL hv
theorem jkc{w:World}{b:Nat}{C:List Value}{T:TypeId}(h:Blk w b (.cells C.toArray T)):w.there b 0 C.length:=fun j hj=>by
 rw[Nat.zero_add];exact⟨by rw[h.cellL (List.getElem?_eq_getElem hj)];rfl,h.frozen⟩
theorem jr7{W:List UInt32}:∀ v∈W.map wv,v.oneCell'=true:=fun v hv=>by obtain⟨x,_,rfl⟩:=List.mem_map.1 hv;rfl
def jyx(w:World)(b g:Nat)(B:List UInt8)(i:Value)(wr:World):Prop:=∃ k:Nat,k<=16/\i=.int .i64 k/\Blk wr g (.cells (jdt (jdG B k) 64).toArray 296)/\jae (fun x=>x=g) w wr
def jwO(w:World)(g:Nat)(B:List UInt8)(i:Value)(wr:World):Prop:=∃ m:Nat,16<=m/\m<=64/\i=.int .i64 m/\Blk wr g (.cells (jdt (jgD B (m - 16)) 64).toArray 296)/\jae (fun x=>x=g) w wr
theorem jtX(w:World)(b o:Nat)(B:List UInt8)(hL:B.length=64)(hB:jgj w b o B):vR 216 #[.slice (some ⟨b,o,none⟩) 64 64] w (.agg ((ja2 B).map wv).toArray):=by
 have HB:=Hd hB;have HL:=Hd hL;have hblt:b < w.heap.size:=World.block_lt_of_cell? w _ (hB 0 (B[0]'(by omega)) (List.getElem?_eq_getElem vO));have hX:∀ (p q:UInt32) (w:World),(binOp .xor 206 (wv p) (wv q)).run Tryz.prog w=.ok (wv (xorW p q)) w:=fun _ _ _=>jj8;have hA:∀ (p q:UInt32) (w:World),(binOp .add 206 (wv p) (wv q)).run Tryz.prog w=.ok (wv (addW p q)) w:=fun _ _ _=>jj6;have hS3:∀ (p:UInt32) (w:World),(binOp .shr 206 (wv p) (.int .u64 3)).run Tryz.prog w=.ok (wv (shrW p 3)) w:=fun _ _=>jc0 3 vI .u64;have hS10:∀ (p:UInt32) (w:World),(binOp .shr 206 (wv p) (.int .u64 10)).run Tryz.prog w=.ok (wv (shrW p 10)) w:=fun _ _=>jc0 10 vI .u64;clear hB hL;go_enter Tryz.func216,Tryz.ntmps216;go_wp2_with fail
 obtain⟨W1,hW1⟩:∃ W1,w.alloc (.cells (List.replicate 64 (wv 0)).toArray 296)=W1:=⟨_,rfl⟩
 obtain⟨W0,hW0⟩:∃ W0,W1.alloc (.cells (List.replicate 64 (wv 0)).toArray 296)=W0:=⟨_,rfl⟩
 have hs1:W1.heap.size=w.heap.size+1:=by rw[<-hW1];simp
 have G2:Blk W0 w.heap.size (.cells (List.replicate 64 (wv 0)).toArray 296):=by rw[<-hW0];refine Blk.alloc ?_ _;rw[<-hW1];exact Blk.new w _
 have G3:Blk W0 (w.heap.size+1) (.cells (List.replicate 64 (wv 0)).toArray 296):=by rw[<-hW0, <-hs1];exact Blk.new W1 _
 have E0:Ext w W0:=by rw[<-hW0, <-hW1];exact ((ExtR w).alloc _).alloc _
 change Code.wp _ _ _ _ ((w.alloc (.cells (List.replicate 64 (wv 0)).toArray 296)).alloc (.cells (List.replicate 64 (wv 0)).toArray 296));rw[hW1,hW0];have HG2:=Hd G2;have HG3:=Hd G3;have HE0:=Hd E0;clear hW0 hW1 hs1 G2 G3 E0;go_loopw [11] (fun i wr=>jyx W0 b (w.heap.size+1) B i wr) (fun i _=>16 - (intOf i).toNat)
 case atStart=>exact⟨0,by omega,rfl,HG3.o,jae.refl _ _⟩
 case round =>
  obtain⟨k,hk,rfl,hG,hK⟩:=hrel
  have HG:=Hd hG;have HK:=Hd hK;clear hG hK
  by_cases hlt:k < 16
  ·have c1:(0:Int)<=4 * (k:Int):=by omega
   have c2:4 * (k:Int)<=4 * (k:Int)+4:=by omega
   have c3:4 * (k:Int)+4<=64:=by omega
   have c4:(4 * (k:Int)).toNat=4 * k:=by omega
   have c5:(4 * (k:Int)+4).toNat=4 * k+4:=by omega
   have hBr:jgj wr b o B:=((HB.o.keeps HE0.o (fun h=>h)).keeps HK.o vO);have q0:wr.cell? ⟨b,o+4 * k,none⟩=some (.int .u8 ((B.getD (4 * k) 0).toNat:Int)):=hBr (4 * k) _ (by rw[List.getElem?_eq_getElem (by have:=HL.o;omega)];congr 1;simp[show 4 * k < B.length by have:=HL.o;omega]);have q1:wr.cell? ⟨b,o+4 * k+1,none⟩=some (.int .u8 ((B.getD (4 * k+1) 0).toNat:Int)):=hBr (4 * k+1) _ (by rw[List.getElem?_eq_getElem (by have:=HL.o;omega)];congr 1;simp[show 4 * k+1 < B.length by have:=HL.o;omega]);have q2:wr.cell? ⟨b,o+4 * k+2,none⟩=some (.int .u8 ((B.getD (4 * k+2) 0).toNat:Int)):=hBr (4 * k+2) _ (by rw[List.getElem?_eq_getElem (by have:=HL.o;omega)];congr 1;simp[show 4 * k+2 < B.length by have:=HL.o;omega]);have q3:wr.cell? ⟨b,o+4 * k+3,none⟩=some (.int .u8 ((B.getD (4 * k+3) 0).toNat:Int)):=hBr (4 * k+3) _ (by rw[List.getElem?_eq_getElem (by have:=HL.o;omega)];congr 1;simp[show 4 * k+3 < B.length by have:=HL.o;omega]);have HQ0:=Hd q0;have HQ1:=Hd q1;have HQ2:=Hd q2;have HQ3:=Hd q3;clear q0 q1 q2 q3 hBr
   obtain⟨x0,hx0⟩:=vE (B.getD (4 * k) 0)
   obtain⟨x1,hx1⟩:=vE (B.getD (4 * k+1) 0)
   obtain⟨x2,hx2⟩:=vE (B.getD (4 * k+2) 0)
   obtain⟨x3,hx3⟩:=vE (B.getD (4 * k+3) 0)
   rw[<-hx0]at HQ0;rw[<-hx1]at HQ1;rw[<-hx2]at HQ2;rw[<-hx3]at HQ3;have HW:=Hd (show jeE B k=beW x0 x1 x2 x3 by rw[hx0,hx1,hx2,hx3];rfl);clear hx0 hx1 hx2 hx3;go_wp2_with fail
   refine jau [0,1,2,3,4,5,6,7,8,9,10,11,12,13,14,15,16,17,18,19,20,21,22,23,24] [24] Ext ExtR ExtT vY vY vY ?_;iterate 3 refine vP ?_
   refine qL ⟨b,o+4 * k,none⟩ _ rfl (fun w1 h1=>jab Tryz.uU8 rfl (jaa (by exact HQ0.o) h1)) ?_;refine vS ?_;iterate 4 refine vP ?_
   refine qL ⟨b,o+4 * k+1,none⟩ _ rfl (fun w1 h1=>jab Tryz.uU8 rfl (jaa (by exact HQ1.o) h1)) ?_;refine vS ?_;iterate 5 refine vP ?_
   refine qL ⟨b,o+4 * k+2,none⟩ _ rfl (fun w1 h1=>jab Tryz.uU8 rfl (jaa (by exact HQ2.o) h1)) ?_;refine vS ?_;iterate 5 refine vP ?_
   refine qL ⟨b,o+4 * k+3,none⟩ _ rfl (fun w1 h1=>jab Tryz.uU8 rfl (jaa (by exact HQ3.o) h1)) ?_;refine vS ?_;iterate 3 refine vP ?_
   have hbe:=jw0 x0 x1 x2 x3;rw[<-HW.o]at hbe;refine qH _ rfl (fun w1 he K hK=>?_);have G1:=HG.o.keeps ((jaj wr).trans he) (fun h=>h);have K1:=HK.o.trans' ((jaj wr).trans he) (fun _ _ h=>h.elim);have hl:(jdG B k).length=k:=by simp[jdG]
   obtain⟨old,q1⟩:∃ v,w1.cell? ⟨w.heap.size+1,k,none⟩=some v:=⟨_,G1.cellL (List.getElem?_eq_getElem (by rw[jiK vO];omega))⟩
   have q2:w1.frozen? ⟨w.heap.size+1,k,none⟩=false:=G1.frozen;have G2:=G1.set_same (i:=k) (wv (jeE B k));have hset:=jiL (W:=jdG B k) (n:=64) vO (jeE B k);rw[hl]at hset;have hfs:jdG B k++[jeE B k]=jdG B (k+1):=by simp[jdG,List.range_succ]
   rw[hfs]at hset;rw[show ((jdt (jdG B k) 64).toArray.setIfInBounds k (wv (jeE B k)))=(jdt (jdG B (k+1)) 64).toArray by rw[<-hset];simp]at G2;have HG3':=Hd G2;have HK1:=Hd (K1.setCell (p:=⟨w.heap.size+1,k,none⟩) (.inl rfl) (wv (jeE B k)));clear G1 K1 he hl G2 hset hfs HG HK HW HQ0 HQ1 HQ2 HQ3;go_simp;refine hK _ _ ?_;clear hK K q1 q2;refine qE (fun w2 he=>?_);have HG4:=Hd (HG3'.o.keeps he (fun h=>h));have HK2:=Hd (HK1.o.trans' he (fun _ _ h=>h.elim));clear he HG3' HK1 hbe;go_wp2_with fail
   go_roundw
   case rel=>exact⟨k+1,by omega,by go_num,HG4.o,HK2.o⟩
   case measure=>simp[intOf];omega
  ·have hk16:k=16:=by omega
   subst hk16;have HB2:=Hd (HG2.o.keeps HK.o vO);go_wp2_with fail
   obtain⟨W2,rfl⟩:=vE wr
   rw[show ((16:Nat):Int)=(16:Int)from rfl];go_loopw [6] (fun i wr=>jwO W2 (w.heap.size+1) B i wr) (fun i _=>64 - (intOf i).toNat)
   case atStart=>exact⟨16,by omega,by omega,rfl,HG.o,jae.refl _ _⟩
   case round =>
    obtain⟨m,hm1,hm2,rfl,hG,hK⟩:=hrel
    have HG5:=Hd hG;have HK5:=Hd hK;clear hG hK HG
    by_cases hlt:m < 64
    ·have hgl:=jcm B (m - 16)
     obtain⟨a15,ha15⟩:∃ a,a=m - 15:=⟨_,rfl⟩
     obtain⟨a2,ha2⟩:∃ a,a=m - 2:=⟨_,rfl⟩
     obtain⟨a16,ha16⟩:∃ a,a=m - 16:=⟨_,rfl⟩
     obtain⟨a7,ha7⟩:∃ a,a=m - 7:=⟨_,rfl⟩
     have f15:(m:Int) - 15=(a15:Int):=by omega
     have f2:(m:Int) - 2=(a2:Int):=by omega
     have f16:(m:Int) - 16=(a16:Int):=by omega
     have f7:(m:Int) - 7=(a7:Int):=by omega
     have l15:a15 < 64:=by omega
     have l2:a2 < 64:=by omega
     have l16:a16 < 64:=by omega
     have l7:a7 < 64:=by omega
     have g15:=HG5.o.cellL (i:=a15) (je9 (n:=64) vO);have g2:=HG5.o.cellL (i:=a2) (je9 (n:=64) vO);have g16:=HG5.o.cellL (i:=a16) (je9 (n:=64) vO);have g7:=HG5.o.cellL (i:=a7) (je9 (n:=64) vO)
     obtain⟨WL,hWL⟩:=vE (jgD B (m - 16))
     have HWL:=Hd hWL;rw[<-hWL]at g15 g2 g16 g7 hgl;have hlen:WL.length=m:=by omega
     have hnx:jix WL=addW (addW (addW (WL.getD a16 0) (sig0 (WL.getD a15 0))) (WL.getD a7 0)) (sig1 (WL.getD a2 0)):=by
      unfold jix;rw[hlen, <-ha16, <-ha15, <-ha7, <-ha2]
     obtain⟨x15,hx15⟩:∃ x,x=WL.getD a15 0:=⟨_,rfl⟩
     obtain⟨x2,hx2⟩:∃ x,x=WL.getD a2 0:=⟨_,rfl⟩
     obtain⟨x16,hx16⟩:∃ x,x=WL.getD a16 0:=⟨_,rfl⟩
     obtain⟨x7,hx7⟩:∃ x,x=WL.getD a7 0:=⟨_,rfl⟩
     rw[<-hx15]at g15;rw[<-hx2]at g2;rw[<-hx16]at g16;rw[<-hx7]at g7;rw[<-hx15, <-hx2, <-hx16, <-hx7]at hnx;have HNX:=Hd hnx;have HLEN:=Hd hlen;have H15:=Hd g15;have H2:=Hd g2;have H16:=Hd g16;have H7:=Hd g7;clear hx15 hx2 hx16 hx7 hnx hlen g15 g2 g16 g7 ha15 ha2 ha16 ha7 hgl hWL;go_wp2_with fail
     refine jau [0,1,2,3,4,5,6,7,8,9] [] Ext ExtR ExtT vY vY vY ?_;iterate 3 refine vP ?_
     refine qL ⟨w.heap.size+1,a15,none⟩ _ rfl (fun w1 h1=>jab Tryz.uU32 rfl (jaa (by exact H15.o) h1)) ?_;refine vS ?_;iterate 3 refine vP ?_
     refine qL ⟨w.heap.size+1,a2,none⟩ _ rfl (fun w1 h1=>jab Tryz.uU32 rfl (jaa (by exact H2.o) h1)) ?_;refine vS ?_;iterate 2 refine vP ?_
     refine qE (fun w3 he=>?_);have X1:=Hd ((jaj wr).trans he);clear he;go_wp2_with fail
     refine (jxV w3 x15).mono ?_;rintro e w4 ⟨rfl,rfl⟩;go_wp2_with fail
     refine (jvU w3 x15).mono ?_;rintro e w4 ⟨rfl,rfl⟩;go_wp2_with fail
     refine (jvT w3 x2).mono ?_;rintro e w4 ⟨rfl,rfl⟩;go_wp2_with fail
     refine (jvV w3 x2).mono ?_;rintro e w4 ⟨rfl,rfl⟩;go_wp2_with fail
     have H16':=Hd (jaa H16.o X1.o);have H7':=Hd (jaa H7.o X1.o);have HG6:=Hd (HG5.o.keeps X1.o (fun h=>h));have HK6:=Hd (HK5.o.trans' X1.o (fun _ _ h=>h.elim));clear H16 H7 HG5 HK5 X1 H15 H2;refine jau [0,1,2,3,4,5,6,7,8,9,10,11,12,13,14,15] [15] Ext ExtR ExtT vY vY vY ?_;iterate 4 refine vP ?_
     refine qL ⟨w.heap.size+1,a16,none⟩ _ rfl (fun w1 h1=>jab Tryz.uU32 rfl (jaa (by exact H16'.o) h1)) ?_;refine vS ?_;iterate 5 refine vP ?_
     refine qL ⟨w.heap.size+1,a7,none⟩ _ rfl (fun w1 h1=>jab Tryz.uU32 rfl (jaa (by exact H7'.o) h1)) ?_;refine vS ?_;iterate 4 refine vP ?_
     refine qH _ rfl (fun w1 he K hK=>?_);have G1:=HG6.o.keeps ((jaj w3).trans he) (fun h=>h);have K1:=HK6.o.trans' ((jaj w3).trans he) (fun _ _ h=>h.elim);have hl:=HLEN.o;rw[<-HWL.o]at G1
     obtain⟨old,q1⟩:∃ v,w1.cell? ⟨w.heap.size+1,m,none⟩=some v:=⟨_,G1.cellL (List.getElem?_eq_getElem (by rw[jiK vO];omega))⟩
     have q2:w1.frozen? ⟨w.heap.size+1,m,none⟩=false:=G1.frozen;have G2:=G1.set_same (i:=m) (wv (jix WL));have hset:=jiL (W:=WL) (n:=64) vO (jix WL);rw[hl]at hset;have hfs:WL++[jix WL]=jgD B (m+1 - 16):=by
      rw[show m+1 - 16=(m - 16)+1 by omega];simp only[jgD];rw[<-HWL.o]
     rw[hfs]at hset;rw[show ((jdt WL 64).toArray.setIfInBounds m (wv (jix WL)))=(jdt (jgD B (m+1 - 16)) 64).toArray by rw[<-hset];simp]at G2;have K2:=K1.setCell (p:=⟨w.heap.size+1,m,none⟩) (.inl rfl) (wv (jix WL));rw[HNX.o]at G2 K2;have HG3':=Hd G2;have HK1:=Hd K2;clear G1 K1 he hl G2 hset hfs K2 HG6 HK6 H16' H7' HNX;unfold sig0 sig1 at HG3' HK1;refine jkm _ _ _ rfl rfl rfl rfl Tryz.iU32 q1 q2 (hK _ _ ?_);clear hK K q1 q2;refine qE (fun w2 he=>?_);have HG4:=Hd (HG3'.o.keeps he (fun h=>h));have HK2:=Hd (HK1.o.trans' he (fun _ _ h=>h.elim));clear he HG3' HK1;go_wp2_with fail
     go_roundw
     case rel=>exact⟨m+1,by omega,by omega,by go_num,HG4.o,HK2.o⟩
     case measure=>simp[intOf];omega
    ·have hm64:m=64:=by omega
     subst hm64;have hfull:=jl9 (W:=ja2 B) (n:=64) (by unfold ja2;rw[jcm]);have HG7:Hid (Blk wr (w.heap.size+1) (.cells ((ja2 B).map wv).toArray 296)):=Hd (by rw[<-hfull];exact HG5.o);have HB3:=Hd (HB2.o.keeps HK5.o vO);have HX:=Hd ((HE0.o.trans' HK.o (G:=fun x=>x=w.heap.size+1) (fun x hx e=>by omega)).trans' HK5.o (fun x hx e=>by omega));clear hfull HG5 HK5 HK HB2;have hsl:((ja2 B).map wv).length=64:=by simp[ja2,jcm]
     have HSL:=Hd hsl;clear hsl;go_wp2_with (first |(refine wpList_load_mid rfl 296 (.tmp 3) rfl (w.heap.size+1) 0 rfl ((ja2 B).map wv) (.array 64 206) (jrn HG7.o) Tryz.uArr64 rfl (by rw[HSL.o];exact Tryz.iArr64) ?_) |(refine wpList_store_mid rfl 296 (.tmp 2) (.tmp 92) rfl w.heap.size 0 ((ja2 B).map wv).toArray rfl rfl (by have:=jkc HB3.o;simpa [ja2,jcm]using this) (by simp only[List.size_toArray];rw[HSL.o];exact Tryz.iArr64) (all_oneCell_toArray jr7) ?_))
     have hb:Blk (wr.setCells w.heap.size 0 ((ja2 B).map wv)) w.heap.size (.cells ((ja2 B).map wv).toArray 296):=by
      have:=Blk.setCells ((ja2 B).map wv) 0 wr (List.replicate 64 (wv 0)) HB3.o (by rw[HSL.o];simp)
      simpa [HSL.o]using this
     have hx:=HX.o.trans' (jae.oneSetCells w.heap.size ((ja2 B).map wv) 0 wr) (fun x hx e=>by omega);have hld:=run_loadVar_mid (P:=Tryz.prog) _ w.heap.size 0 296 _ _ (jrn hb) Tryz.uArr64 rfl (by rw[HSL.o];exact Tryz.iArr64);exact bodyPost_ret (v:=.agg ((ja2 B).map wv).toArray) (jbE (t:=2) (ty:=296) rfl rfl hld) rfl ⟨rfl,hx⟩
theorem Tryz.enterRight(args:Array Value)(w:World):(callFunc 217 args).run Tryz.prog w=.ok (.enter 217 args) w:=by kernel_rfl
theorem jay{P:Program}{a:Act}{w:World}{d:Option Tmp}{f:FuncId}{args:Array Operand}{ats:Array TypeId}{ty:TypeId}{pos:String}{af:Array Edge}{g:Option (Nat × Bool)}{vs:Array Value}(eg:∀ args w,(callFunc f args).run P w=.ok (.enter f args) w)(hv:args.map a.eval=vs) :
  (execOp a.eval ⟨d,.call { callee:=.value (.func f),args:=args,argTypes:=ats },ty,pos,af,g⟩).run P w=.ok (.enter f vs) w:=by
 subst hv;simp[execOp,resolve,Deferred.ofValue,invoke,Act.eval,Sem.run_bind,Result.andThen,Sem.run_pure,eg]
theorem jkN{P:Program}{a:Act}{w w':World}{v:Value}{d:Option Tmp}{args:Array Operand}{ats:Array TypeId}{ty:TypeId}{pos:String}{af:Array Edge}{g:Option (Nat × Bool)}{vs:Array Value}(h:(Builtin.copy_ ats ty vs).run P w=.ok v w')(hv:args.map a.eval=vs) :
  (execOp a.eval ⟨d,.call { callee:=.builtin .copy,args:=args,argTypes:=ats },ty,pos,af,g⟩).run P w=.ok (.value v) w':=by
 subst hv;simp[execOp,resolve,invoke,Go.builtin,Act.eval,Sem.run_bind,Result.andThen,Sem.run_pure,h]
theorem jjg(b j:Nat):(⟨b,0,none⟩:Addr).add j=⟨b,j,none⟩:=by unfold Addr.add;split <;> simp_all
theorem jvB{P:Program}{l:List Oper}{hd:List Nat}{E:World->World->Prop}{Q:Act->World->Prop}{ord done:List Nat}{a:Act}{w:World}{k:Nat}(o:Oper)(v:Value)(ho:l[k]?=some o)(hk:jgV l hd done k=true)(hw:Region.wanted o (yielded l.toArray a.tmps)=true)
  (hv:∀ w1,(execOp a.eval o).run P w1=.ok (.value v) w1) (h:Mix P l hd E Q ord (k :: done) (a.put o.dst v) w):Mix P l hd E Q (k :: ord) done a w:=by
 simp only[jgV,Bool.and_eq_true,List.contains_iff_mem,Bool.not_eq_true',jmZ]at hk;have key:∀ w' a',execOp a'.eval o=execOp a.eval o->Region.wanted o (yielded l.toArray a'.tmps)=Region.wanted o (yielded l.toArray a.tmps)->jbG P l.toArray E w' o v a':=
  fun w' a' e1 e2=>.inl ⟨e2.trans hw,fun w1 _=>by rw[e1,hv w1];exact⟨rfl,rfl⟩⟩
 exact .inl ⟨hk.1.1,hk.1.2,hk.2,o,v,ho,key w a rfl rfl,.inr key,h⟩
theorem qA{P:Program}{l:List Oper}{hd:List Nat}{E:World->World->Prop}{Q:Act->World->Prop}{ord done:List Nat}{a:Act}{w:World}{k:Nat}(o:Oper)(v:Value)(ho:l[k]?=some o)(hv:∀ w1,(execOp a.eval o).run P w1=.ok (.value v) w1)(h:Mix P l hd E Q ord (k :: done) (a.put o.dst v) w)(hk:jgV l hd done k=true:=by kernel_rfl)(hw:Region.wanted o (yielded l.toArray a.tmps)=true:=by rfl):Mix P l hd E Q (k :: ord) done a w:=jvB o v ho hk hw hv h
theorem ji8{P:Program}{w:World}{b i:Nat}{v old:Value}(hv:v.oneCell'=true)(hc:w.cell? ⟨b,i,none⟩=some old)(hf:w.frozen? ⟨b,i,none⟩=false):(storeCells ⟨b,i,none⟩ [v]).run P w=.ok () (w.setCell ⟨b,i,none⟩ v):=by
 rw[jlH,run_store P w _ v _ hv,hc,hf];rfl
theorem jah{P:Program}{ops:Array Oper}{rest:List Oper}{o:Oper}{a:Act}{w:World}{Q:Exit->Act->World->Prop}{T:TypeId}{cs:List Value}(hrun:∀ w,(Instr.alloc T true (.tuple #[])).run P w=.ok (.pointer (some ⟨w.heap.size,0,none⟩)) (w.alloc (.cells cs.toArray T)))(hgd:o.guard=none)(ho:o.op=.alloc T)
  (h:∀ W,Blk W w.heap.size (.cells cs.toArray T)->Ext w W->wpList P ops Q rest (a.put o.dst (.pointer (some ⟨w.heap.size,0,none⟩))) W):wpList P ops Q (o :: rest) a w:=
 wpList_plain hgd fun K hK=>jcy (v:=.pointer (some ⟨w.heap.size,0,none⟩)) (w':=w.alloc (.cells cs.toArray T)) (by simp only[execOp,ho,Sem.run_bind,hrun,Result.andThen,Sem.run_pure]) (hK _ _ (h _ (Blk.new w _) ((ExtR w).alloc _)))
theorem jag{P:Program}{ops:Array Oper}{rest:List Oper}{o:Oper}{a:Act}{w:World}{Q:Exit->Act->World->Prop}{T T2:TypeId}{x y:Operand}{b:Nat}{old vs:List Value}(hgd:o.guard=none)(ho:o.op=.store T x y)(hx:a.eval x=.pointer (some ⟨b,0,none⟩))(hy:a.eval y=.agg vs.toArray)
  (hB:Blk w b (.cells old.toArray T2)) (hl:old.length=vs.length) (hi:(P.info? T).map (·.size)=some vs.length) (h1:∀ v∈vs,v.oneCell'=true)
  (h:∀ W,Blk W b (.cells vs.toArray T2)->jae (fun z=>z=b) w W->wpList P ops Q rest (a.put o.dst undef) W):wpList P ops Q (o :: rest) a w:=by
 refine wpList_store_mid hgd T x y ho b 0 vs.toArray hx hy (by have:=jkc hB;rw[hl]at this;simpa using this) (by simpa using hi) (all_oneCell_toArray h1) (h _ ?_ (jae.oneSetCells b vs 0 w))
 have:=Blk.setCells vs 0 w old hB vO
 rw[List.drop_of_length_le vO]at this;simpa using this
structure W8 where
 a:UInt32
 b:UInt32
 c:UInt32
 d:UInt32
 e:UInt32
 f:UInt32
 g:UInt32
 h:UInt32
def W8.cells(v:W8):List Value:=[wv v.a,wv v.b,wv v.c,wv v.d,wv v.e,wv v.f,wv v.g,wv v.h]
def W8.words(v:W8):List UInt32:=[v.a,v.b,v.c,v.d,v.e,v.f,v.g,v.h]
def jeG(V U:List UInt32)(k:Nat):List UInt32:=(List.zipWith addW V U).take k++V.drop k
theorem jks{V U:List UInt32}(h:V.length=U.length)(k:Nat):(jeG V U k).length=V.length:=by simp[jeG];omega
theorem jkr{V U:List UInt32}{k:Nat}(h:V.length=U.length)(hk:k < V.length):(jeG V U k)[k]?=V[k]?:=by
 unfold jeG;rw[List.getElem?_append_right (by simp;omega)];simp only[List.length_take,List.length_zipWith,List.getElem?_drop]
 congr 1;omega
theorem jkt{V U:List UInt32}{k:Nat}(h:V.length=U.length)(hk:k < V.length):(jeG V U k).set k (addW (V[k]'hk) (U[k]'(h ▸ hk)))=jeG V U (k+1):=by
 apply List.ext_getElem?;intro i;rw[List.getElem?_set];have hl:=jks h k;unfold jeG at *
 by_cases hi:k=i
 ·subst hi
  rw[if_pos rfl,if_pos vO,List.getElem?_append_left (by simp;omega),List.getElem?_take_of_lt vO,List.getElem?_eq_getElem (by simp;omega)]
  simp
 ·rw[if_neg hi]
  by_cases hlt:i < k
  ·rw[List.getElem?_append_left (by simp;omega),List.getElem?_append_left (by simp;omega),List.getElem?_take_of_lt hlt,List.getElem?_take_of_lt vO]
  ·rw[List.getElem?_append_right (by simp;omega),List.getElem?_append_right (by simp;omega)]
   simp only[List.length_take,List.length_zipWith,List.getElem?_drop]
   congr 1
   omega
def W8.add(v u:W8):W8:=⟨addW v.a u.a,addW v.b u.b,addW v.c u.c,addW v.d u.d,addW v.e u.e,addW v.f u.f,addW v.g u.g,addW v.h u.h⟩
theorem jkq(v u:W8):jeG v.words u.words 8=(v.add u).words:=rfl
theorem W8.cells_words(v:W8):v.cells=v.words.map wv:=rfl
def tOne(v:W8)(k x:UInt32):UInt32:=addW (addW (addW (addW v.h (xorW (xorW (rotW v.e 6) (rotW v.e 11)) (rotW v.e 25))) (xorW (andW v.e v.f) (andW (notW v.e) v.g))) k) x
def tTwo(v:W8):UInt32:=addW (xorW (xorW (rotW v.a 2) (rotW v.a 13)) (rotW v.a 22)) (xorW (xorW (andW v.a v.b) (andW v.a v.c)) (andW v.b v.c))
def jlA(v:W8)(k x:UInt32):W8:=⟨addW (tOne v k x) (tTwo v),v.a,v.b,v.c,addW v.d (tOne v k x),v.e,v.f,v.g⟩
def jeC:List UInt32:=[0x428a2f98,0x71374491,0xb5c0fbcf,0xe9b5dba5,0x3956c25b,0x59f111f1,0x923f82a4,0xab1c5ed5,0xd807aa98,0x12835b01,0x243185be,0x550c7dc3,0x72be5d74,0x80deb1fe,0x9bdc06a7,0xc19bf174,
 0xe49b69c1,0xefbe4786,0x0fc19dc6,0x240ca1cc,0x2de92c6f,0x4a7484aa,0x5cb0a9dc,0x76f988da,0x983e5152,0xa831c66d,0xb00327c8,0xbf597fc7,0xc6e00bf3,0xd5a79147,0x06ca6351,0x14292967,
 0x27b70a85,0x2e1b2138,0x4d2c6dfc,0x53380d13,0x650a7354,0x766a0abb,0x81c2c92e,0x92722c85,0xa2bfe8a1,0xa81a664b,0xc24b8b70,0xc76c51a3,0xd192e819,0xd6990624,0xf40e3585,0x106aa070,
 0x19a4c116,0x1e376c08,0x2748774c,0x34b0bcb5,0x391c0cb3,0x4ed8aa4a,0x5b9cca4f,0x682e6ff3,0x748f82ee,0x78a5636f,0x84c87814,0x8cc70208,0x90befffa,0xa4506ceb,0xbef9a3f7,0xc67178f2]
def jb2(w:World):Prop:=∀ i,i < 64->w.cell? ⟨0,i,none⟩=some (wv (jeC.getD i 0))
theorem jb2.lt{w:World}(h:jb2 w):0 < w.heap.size:=World.block_lt_of_cell? w _ (h 0 vI)
theorem jb2.keeps{F:BSet}{w w':World}(h:jb2 w)(k:jae F w w')(hF:¬ F 0):jb2 w':=fun i hi=>by
 have:=h i hi
 have e:=k.block _ h.lt hF;unfold World.cell? at *;rw[e];exact this
theorem jb2.ext{w w':World}(h:jb2 w)(k:Ext w w'):jb2 w':=h.keeps k (fun h=>h)
def jdC(Wd:List UInt32)(v:W8):Nat->W8
 | 0=>v
 | k+1=>jlA (jdC Wd v k) (jeC.getD k 0) (Wd.getD k 0)
theorem Tryz.uArr8:Tryz.prog.underlying 235=some (.array 8 206):=by kernel_rfl
theorem Tryz.iArr8:(Tryz.prog.info? 235).map (·.size)=some 8:=by kernel_rfl
theorem Tryz.uSlU32:Tryz.prog.underlying 202=some (.slice 206):=by kernel_rfl
theorem Tryz.newArr64(w:World):(Instr.alloc 296 true (.tuple #[])).run Tryz.prog w=.ok (.pointer (some ⟨w.heap.size,0,none⟩)) (w.alloc (.cells (List.replicate 64 (wv 0)).toArray 296)):=by kernel_rfl
theorem Tryz.newArr8(w:World):(Instr.alloc 235 true (.tuple #[])).run Tryz.prog w=.ok (.pointer (some ⟨w.heap.size,0,none⟩)) (w.alloc (.cells (List.replicate 8 (wv 0)).toArray 235)):=by kernel_rfl
def mixW(V:W8)(B:List UInt8):W8:=V.add (jdC (ja2 B) V 64)
def jaI(ws:List UInt32)(B:List UInt8)(n sz:Int):List Value:=ws.map wv++jaE B++[Value.int .i64 n,Value.int .u64 sz]
theorem jiv{ws:List UInt32}{B:List UInt8}{n sz:Int}{k:Nat}{x:UInt32}(h:ws[k]?=some x):(jaI ws B n sz)[k]?=some (wv x):=by
 have:=(List.getElem?_eq_some_iff.1 h).1
 unfold jaI;rw[List.append_assoc,List.getElem?_append_left (by simpa using this)];simp[h]
theorem jjD{ws:List UInt32}{B:List UInt8}{n sz:Int}{k:Nat}(h:k < ws.length)(x:UInt32):(jaI ws B n sz).toArray.setIfInBounds k (wv x)=(jaI (ws.set k x) B n sz).toArray:=by
 unfold jaI;simp only[List.setIfInBounds_toArray,List.append_assoc];rw[List.set_append_left _ _ (by simpa using h),List.map_set]
def jwi(w:World)(bh:Nat)(V U:List UInt32)(B:List UInt8)(n sz:Int)(i:Value)(wr:World):Prop:=∃ k:Nat,k<=8/\i=.int .i64 k/\Blk wr bh (.cells (jaI (jeG V U k) B n sz).toArray 239)/\jae (fun x=>x=bh) w wr
def juM(w:World)(g5:Nat)(v:W8)(w':World):Prop:=Blk w' g5 (.cells v.cells.toArray 235)/\jae (fun x=>x=g5) w w'
def jwC(w:World)(g5:Nat)(Wd:List UInt32)(v:W8)(i:Value)(wr:World):Prop:=∃ k:Nat,k<=64/\i=.int .i64 k/\juM w g5 (jdC Wd v k) wr
theorem jyN(w:World)(bh:Nat)(V:W8)(B:List UInt8)(n sz:Int)(hL:B.length=64)(hB:Blk w bh (.cells (jaI V.words B n sz).toArray 239))(hc:jb2 w)(hbh:bh≠0) :
  vQ 172 #[.pointer (some ⟨bh,0,none⟩),.slice (some ⟨bh,8,none⟩) 64 64] w fun e w'=>e=.returned (.tuple #[])/\Blk w' bh (.cells (jaI (mixW V B).words B n sz).toArray 239)/\jae (fun x=>x=bh) w w':=by
 have HB:=Hd hB;have HC:=Hd hc;have hby:jgj w bh 8 B:=fun j x hx=>hB.cellL (by
  have hj:=(List.getElem?_eq_some_iff.1 hx).1;unfold jaI;rw[List.append_assoc,List.getElem?_append_right (by simp[W8.words]),List.getElem?_append_left (by simp[W8.words];omega)];simp[W8.words,jaE,hx])
 have hX:∀ (p q:UInt32) (w:World),(binOp .xor 206 (wv p) (wv q)).run Tryz.prog w=.ok (wv (xorW p q)) w:=fun _ _ _=>jj8;have hA:∀ (p q:UInt32) (w:World),(binOp .add 206 (wv p) (wv q)).run Tryz.prog w=.ok (wv (addW p q)) w:=fun _ _ _=>jj6;have hN:∀ (p q:UInt32) (w:World),(binOp .and 206 (wv p) (wv q)).run Tryz.prog w=.ok (wv (andW p q)) w:=fun _ _ _=>jnO;have hU:∀ (p:UInt32) (w:World),(Op.unary .xor (wv p)).run Tryz.prog w=.ok (wv (notW p)) w:=fun _ _=>jnP;have HBY:=Hd hby;have HL:=Hd hL;clear hB hc hby hL;go_enter Tryz.func172,Tryz.ntmps172;go_wp2_with fail
 refine vC (jtX w bh 8 B HL.o HBY.o) fun w1 hE=>?_;have HE:=Hd hE;have HB1:=Hd (HB.o.keeps hE (fun h=>h));clear hE;have hsl:((ja2 B).map wv).length=64:=by simp[ja2,jcm]
 have HSL:=Hd hsl;clear hsl;go_wp2_with (refine jah (cs:=List.replicate 64 (wv 0)) Tryz.newArr64 rfl rfl ?_)
 intro W4 B4 E4;refine jag (old:=List.replicate 64 (wv 0)) (vs:=(ja2 B).map wv) rfl rfl rfl rfl B4 (by rw[HSL.o];rfl) (by rw[HSL.o];exact Tryz.iArr64) jr7 ?_;intro W5 B5 K5;have X5:Ext w1 W5:=(E4.trans' K5 (fun x hx e=>by omega))
 obtain⟨g4,hg4⟩:=vE w1.heap.size
 have hlt4:g4 < W5.heap.size:=by rw[hg4];exact B5.lt
 have hH5:=HB1.o.keeps X5 (fun h=>h);have hC5:=HC.o.ext (HE.o.trans X5);have hb4:bh≠g4:=by have:=HB1.o.lt;omega
 have h04:0≠g4:=by have:=(HC.o.ext HE.o).lt;omega
 have hw5:w.heap.size<=g4:=by rw[hg4];exact HE.o.size
 rw[<-hg4]at B5 ⊢;have HB5:=Hd B5;have HH5:=Hd hH5;have HC5:=Hd hC5;have HX5:=Hd (HE.o.trans X5);clear B4 E4 B5 K5 X5 hH5 hC5 hg4 HB1;have hrg:W5.rangeAt bh 0 V.cells:=fun j v hv=>by
  rw[W8.cells_words]at hv;rw[Nat.zero_add];exact HH5.o.cellL (by unfold jaI;rw[List.append_assoc,List.getElem?_append_left (List.getElem?_eq_some_iff.1 hv).1];exact hv)
 have HRG:=Hd hrg;clear hrg;go_wp2_with (first |(refine wpList_load_mid rfl 235 (.tmp 16) rfl bh 0 rfl V.cells (.array 8 206) HRG.o Tryz.uArr8 rfl Tryz.iArr8 ?_) |(refine jah (cs:=List.replicate 8 (wv 0)) Tryz.newArr8 rfl rfl ?_))
 intro W6 B6 E6;refine jag (old:=List.replicate 8 (wv 0)) (vs:=V.cells) rfl rfl rfl rfl B6 rfl Tryz.iArr8 (by intro v hv;simp only[W8.cells,List.mem_cons,List.not_mem_nil,or_false]at hv;rcases hv with rfl | rfl | rfl | rfl | rfl | rfl | rfl | rfl <;> rfl) ?_;intro W7 B7 K7;have X7:Ext W5 W7:=(E6.trans' K7 (fun x hx e=>by omega))
 obtain⟨g5,hg5⟩:=vE W5.heap.size
 have hb5:bh≠g5:=by have:=HH5.o.lt;omega
 have h05:0≠g5:=by have:=HC5.o.lt;omega
 have h45:g4≠g5:=by omega
 have hw7:w.heap.size<=g5:=by rw[hg5];exact HX5.o.size
 rw[<-hg5]at B7 ⊢;have HB7:=Hd B7;have HW7:=Hd (HB5.o.keeps X7 (fun h=>h));have HH7:=Hd (HH5.o.keeps X7 (fun h=>h));have HC7:=Hd (HC5.o.ext X7);have HX7:=Hd (HX5.o.trans X7);clear B6 E6 B7 K7 X7 hg5 HB5 HH5 HC5 HX5 HRG hlt4 HSL HE HBY HL HC;go_wp2_with fail
 go_loopw [18] (fun i wr=>jwC W7 g5 (ja2 B) V i wr) (fun i _=>64 - (intOf i).toNat)
 case atStart=>exact⟨0,by omega,rfl,HB7.o,jae.refl _ _⟩
 case round =>
  obtain⟨k,hk,rfl,hG,hK⟩:=hrel
  have HK:=Hd hK
  by_cases hlt:k < 64
  ·obtain⟨v,hv⟩:=vE (jdC (ja2 B) V k)
   have hnext:jdC (ja2 B) V (k+1)=jlA v (jeC.getD k 0) ((ja2 B).getD k 0):=by rw[hv];rfl
   rw[<-hv]at hG
   obtain⟨ck,hck⟩:=vE (jeC.getD k 0)
   obtain⟨wk,hwk⟩:=vE ((ja2 B).getD k 0)
   rw[<-hck, <-hwk]at hnext;have qc:wr.cell? ⟨0,k,none⟩=some (wv ck):=by rw[hck];exact (HC7.o.keeps hK h05) k hlt
   have qw:wr.cell? ⟨g4,k,none⟩=some (wv wk):=by
    rw[hwk];refine (HW7.o.keeps hK h45).cellL ?_;rw[List.getElem?_map,List.getElem?_eq_getElem (by simp[ja2,jcm];omega)];simp[show k < (ja2 B).length by simp[ja2,jcm];omega]
   have QC:=Hd qc;have QW:=Hd qw;have HNX:=Hd hnext;clear hv hnext hck hwk qc qw hK
   obtain⟨x0,x1,x2,x3,x4,x5,x6,x7⟩:=v
   have HG:=Hd hG;have Q0:=Hd (hG.cell (i:=0) (v:=wv x0) vF);have Q1:=Hd (hG.cell (i:=1) (v:=wv x1) vF);have Q2:=Hd (hG.cell (i:=2) (v:=wv x2) vF);have Q3:=Hd (hG.cell (i:=3) (v:=wv x3) vF);have Q4:=Hd (hG.cell (i:=4) (v:=wv x4) vF);have Q5:=Hd (hG.cell (i:=5) (v:=wv x5) vF);have Q6:=Hd (hG.cell (i:=6) (v:=wv x6) vF);have Q7:=Hd (hG.cell (i:=7) (v:=wv x7) vF);clear hG;go_wp2_with fail
   refine jau [0,1,2,3,4,5] [] Ext ExtR ExtT vY vY vY ?_
   refine vP ?_
   refine qL ⟨g5,0,none⟩ _ rfl (fun w1 h1=>jab Tryz.uU32 rfl (jaa (by exact Q0.o) h1)) ?_;refine vS ?_
   refine vP ?_
   refine qL ⟨g5,4,none⟩ _ rfl (fun w1 h1=>jab Tryz.uU32 rfl (jaa (by exact Q4.o) h1)) ?_;refine vS ?_;iterate 2 refine vP ?_
   refine qE (fun w3 he=>?_);have X3:=Hd ((jaj wr).trans he);clear he;go_wp2_with fail
   refine jau [0,1,2,3,4,5,6,7,8,9,10,11,12,13,14,15,16,17,18,19,20,21,22,23,24,25,26,27,28,29,30] [] Ext ExtR ExtT vY vY vY ?_
   refine vP ?_
   refine qL ⟨g5,7,none⟩ _ rfl (fun w1 h1=>jab Tryz.uU32 rfl (jaa (by exact jaa Q7.o (X3.o.trans (jaj w3))) h1)) ?_;refine vS ?_
   refine vP ?_
   refine jcY _ 217 #[wv x4,.int .i64 6] (wv (rotW x4 6)) rfl vY rfl (fun w1=>jay Tryz.enterRight vY) (fun w1 h1=>(jxU w1 x4).mono (fun e w2 ⟨h1,h2⟩=>⟨h1,h2 ▸ ExtR w1⟩)) ?_;refine vS ?_
   refine vP ?_
   refine jcY _ 217 #[wv x4,.int .i64 11] (wv (rotW x4 11)) rfl vY rfl (fun w1=>jay Tryz.enterRight vY) (fun w1 h1=>(jvR w1 x4).mono (fun e w2 ⟨h1,h2⟩=>⟨h1,h2 ▸ ExtR w1⟩)) ?_;refine vS ?_;iterate 2 refine vP ?_
   refine jcY _ 217 #[wv x4,.int .i64 25] (wv (rotW x4 25)) rfl vY rfl (fun w1=>jay Tryz.enterRight vY) (fun w1 h1=>(jvX w1 x4).mono (fun e w2 ⟨h1,h2⟩=>⟨h1,h2 ▸ ExtR w1⟩)) ?_;refine vS ?_;iterate 4 refine vP ?_
   refine qL ⟨g5,5,none⟩ _ rfl (fun w1 h1=>jab Tryz.uU32 rfl (jaa (by exact jaa Q5.o (X3.o.trans (jaj w3))) h1)) ?_;refine vS ?_;iterate 4 refine vP ?_
   refine qL ⟨g5,6,none⟩ _ rfl (fun w1 h1=>jab Tryz.uU32 rfl (jaa (by exact jaa Q6.o (X3.o.trans (jaj w3))) h1)) ?_;refine vS ?_;iterate 5 refine vP ?_
   refine qL ⟨0,k,none⟩ _ rfl (fun w1 h1=>jab Tryz.uU32 rfl (jaa (by exact jaa QC.o (X3.o.trans (jaj w3))) h1)) ?_;refine vS ?_;iterate 3 refine vP ?_
   refine qL ⟨g4,k,none⟩ _ rfl (fun w1 h1=>jab Tryz.uU32 rfl (jaa (by exact jaa QW.o (X3.o.trans (jaj w3))) h1)) ?_;refine vS ?_;iterate 2 refine vP ?_
   refine qE (fun w4 he=>?_);have X4:=Hd (X3.o.trans ((jaj w3).trans he));clear he X3
   obtain⟨tv,htv⟩:∃ t,t=tOne ⟨x0,x1,x2,x3,x4,x5,x6,x7⟩ ck wk:=⟨_,rfl⟩
   have htv':=htv;unfold tOne at htv';simp only at htv';rw[<-htv'];have HTV:=Hd htv;clear htv htv';go_wp2_with fail
   refine jau [0,1,2,3,4,5,6,7,8,9,10,11,12,13,14,15,16,17,18,19,20,21,22,23,24] [] Ext ExtR ExtT vY vY vY ?_
   refine vP ?_
   refine jcY _ 217 #[wv x0,.int .i64 2] (wv (rotW x0 2)) rfl vY rfl (fun w1=>jay Tryz.enterRight vY) (fun w1 h1=>(jxT w1 x0).mono (fun e w2 ⟨h1,h2⟩=>⟨h1,h2 ▸ ExtR w1⟩)) ?_;refine vS ?_
   refine vP ?_
   refine jcY _ 217 #[wv x0,.int .i64 13] (wv (rotW x0 13)) rfl vY rfl (fun w1=>jay Tryz.enterRight vY) (fun w1 h1=>(jvS w1 x0).mono (fun e w2 ⟨h1,h2⟩=>⟨h1,h2 ▸ ExtR w1⟩)) ?_;refine vS ?_;iterate 2 refine vP ?_
   refine jcY _ 217 #[wv x0,.int .i64 22] (wv (rotW x0 22)) rfl vY rfl (fun w1=>jay Tryz.enterRight vY) (fun w1 h1=>(jvW w1 x0).mono (fun e w2 ⟨h1,h2⟩=>⟨h1,h2 ▸ ExtR w1⟩)) ?_;refine vS ?_;iterate 3 refine vP ?_
   refine qL ⟨g5,1,none⟩ _ rfl (fun w1 h1=>jab Tryz.uU32 rfl (jaa (by exact jaa Q1.o (X4.o.trans (jaj w4))) h1)) ?_;refine vS ?_;iterate 3 refine vP ?_
   refine qL ⟨g5,2,none⟩ _ rfl (fun w1 h1=>jab Tryz.uU32 rfl (jaa (by exact jaa Q2.o (X4.o.trans (jaj w4))) h1)) ?_;refine vS ?_;iterate 3 refine vP ?_
   refine qL ⟨g5,1,none⟩ _ rfl (fun w1 h1=>jab Tryz.uU32 rfl (jaa (by exact jaa Q1.o (X4.o.trans (jaj w4))) h1)) ?_;refine vS ?_
   refine vP ?_
   refine qL ⟨g5,2,none⟩ _ rfl (fun w1 h1=>jab Tryz.uU32 rfl (jaa (by exact jaa Q2.o (X4.o.trans (jaj w4))) h1)) ?_;refine vS ?_;iterate 4 refine vP ?_
   refine qE (fun w5 he=>?_);have X5:=Hd (X4.o.trans ((jaj w4).trans he));clear he X4
   obtain⟨sv,hsv⟩:∃ t,t=tTwo ⟨x0,x1,x2,x3,x4,x5,x6,x7⟩:=⟨_,rfl⟩
   have hsv':=hsv;unfold tTwo at hsv';simp only at hsv';rw[<-hsv'];have HSV:=Hd hsv;clear hsv hsv';have HG5:=Hd (HG.o.keeps X5.o (fun h=>h));have HK5:=Hd (HK.o.trans' X5.o (fun _ _ h=>h.elim));clear HG HK X5 Q0 Q1 Q2 Q3 Q4 Q5 Q6 Q7 QC QW;go_wp2_with fail
   refine jau [0,1,2] [2] Ext ExtR ExtT vY vY vY ?_;iterate 2 refine vP ?_
   refine qH _ rfl (fun w6 he K hK=>?_);have G1:=HG5.o.keeps ((jaj w5).trans he) (fun h=>h);have K1:=HK5.o.trans' ((jaj w5).trans he) (fun _ _ h=>h.elim);have hcp:=run_copy_cells (P:=Tryz.prog) w6 202 202 3 206 g5 1 7 7 ⟨g5,0,none⟩ 7 8 [wv x0,wv x1,wv x2,wv x3,wv x4,wv x5,wv x6] Tryz.uSlU32 Tryz.iU32 rfl
    (by intro j v hv;rw[jjg];exact G1.cellL (by have:=(List.getElem?_eq_some_iff.1 hv).1;simp at this;rcases (show j=0\/j=1\/j=2\/j=3\/j=4\/j=5\/j=6 by omega)with rfl | rfl | rfl | rfl | rfl | rfl | rfl <;> simpa [W8.cells]using hv))
    (by intro j hj;rw[G1.cellL (i:=1+j) (List.getElem?_eq_getElem (by simp[W8.cells]at hj ⊢;omega))];rfl)
    (by intro j hj;exact G1.frozen) (by intro v hv;simp only[List.mem_cons,List.not_mem_nil,or_false]at hv;rcases hv with rfl | rfl | rfl | rfl | rfl | rfl | rfl <;> rfl)
   have G2:=Blk.setCells [wv x0,wv x1,wv x2,wv x3,wv x4,wv x5,wv x6] 1 w6 _ G1 (by simp[W8.cells]);have K2:=K1.trans (jae.oneSetCells g5 [wv x0,wv x1,wv x2,wv x3,wv x4,wv x5,wv x6] 1 w6)
   obtain⟨w7,hw7⟩:=vE (w6.setCells g5 1 [wv x0,wv x1,wv x2,wv x3,wv x4,wv x5,wv x6])
   rw[<-hw7]at hcp G2 K2;simp[W8.cells]at G2;have HG6:=Hd G2;have HK6:=Hd K2;clear G1 K1 G2 K2 hw7 he HG5 HK5;refine jcy (w':=w7) (jkN hcp vY) (hK _ _ ?_);clear hcp hK K w6;refine qE (fun w8 he=>?_);have HG8:=Hd (HG6.o.keeps he (fun h=>h));have HK8:=Hd (HK6.o.trans' he (fun _ _ h=>h.elim));clear he HG6 HK6;have Q4:=HG8.o.cell (i:=4) (v:=wv x3) vF;have F4:w8.frozen? ⟨g5,4,none⟩=false:=HG8.o.frozen;have G9:=HG8.o.set_same (i:=4) (wv (addW x3 tv));have K9:=HK8.o.setCell (p:=⟨g5,4,none⟩) (.inl rfl) (wv (addW x3 tv));have HG9:=Hd G9;have HK9:=Hd K9;clear G9 K9 HG8 HK8;go_wp2_with fail
   rw[ji8 rfl Q4 F4];go_wp2_with fail
   obtain⟨w9,hw9⟩:=vE (w8.setCell ⟨g5,4,none⟩ (wv (addW x3 tv)))
   rw[<-hw9]at HG9 HK9 ⊢;clear hw9 Q4 F4;have Q0:w9.cell? ⟨g5,0,none⟩=some (wv x0):=HG9.o.cell (i:=0) vF;have F0:w9.frozen? ⟨g5,0,none⟩=false:=HG9.o.frozen;have G9:=HG9.o.set_same (i:=0) (wv (addW tv sv));have K9:=HK9.o.setCell (p:=⟨g5,0,none⟩) (.inl rfl) (wv (addW tv sv));have HGA:=Hd G9;have HKA:=Hd K9;clear G9 K9 HG9 HK9;rw[ji8 rfl Q0 F0];go_wp2_with fail
   obtain⟨wA,hwA⟩:=vE (w9.setCell ⟨g5,0,none⟩ (wv (addW tv sv)))
   rw[<-hwA]at HGA HKA ⊢;clear hwA Q0 F0 w9 w8;go_roundw
   case rel=>exact⟨k+1,by omega,by go_num,by rw[HNX.o];unfold jlA;rw[<-HTV.o, <-HSV.o];exact HGA.o,HKA.o⟩
   case measure=>simp[intOf];omega
  ·have hk64:k=64:=by omega
   subst hk64
   obtain⟨U,hU8⟩:=vE (jdC (ja2 B) V 64)
   rw[<-hU8]at hG;have HU8:=Hd hU8;have HGU:=Hd hG;have HHR:=Hd (HH7.o.keeps HK.o hb5);have HXR:=Hd (HX7.o.trans' HK.o (fun x hx e=>by omega));clear hU8 hG HK HH7 HX7 HB7 HW7 HC7 hX hN hU;go_wp2_with fail
   obtain⟨wm,rfl⟩:=vE wr
   rw[show ((64:Nat):Int)=(64:Int)from rfl];have HBH:Hid (bh < wm.heap.size):=HHR.o.lt;go_loopw [92] (fun i w2=>jwi wm bh V.words U.words B n sz i w2) (fun i _=>8 - (intOf i).toNat)
   case atStart=>exact⟨0,by omega,rfl,HHR.o,jae.refl _ _⟩
   case round =>
    obtain⟨k,hk,rfl,hG,hK⟩:=hrel
    have HK:=Hd hK;have HG:=Hd hG;clear hK hG
    by_cases hlt:k < 8
    ·obtain⟨x,hx⟩:∃ x,V.words[k]?=some x:=⟨_,List.getElem?_eq_getElem (by simp[W8.words];omega)⟩
     obtain⟨y,hy⟩:∃ y,U.words[k]?=some y:=⟨_,List.getElem?_eq_getElem (by simp[W8.words];omega)⟩
     have hset:(jeG V.words U.words k).set k (addW x y)=jeG V.words U.words (k+1):=by
      have:=jkt (V:=V.words) (U:=U.words) (k:=k) rfl (by simp[W8.words];omega)
      rw[(List.getElem?_eq_some_iff.1 hx).2,(List.getElem?_eq_some_iff.1 hy).2]at this;exact this
     have q1:=HG.o.cellL (jiv ((jkr (V:=V.words) (U:=U.words) (k:=k) rfl (by simp[W8.words];omega)).trans hx));have q2:wr.cell? ⟨g5,k,none⟩=some (wv y):=(HGU.o.keeps HK.o (Ne.symm hb5)).cellL (by rw[W8.cells_words,List.getElem?_map,hy];rfl);have hlen:k < (jeG V.words U.words k).length:=by rw[jks (V:=V.words) (U:=U.words) rfl];simp[W8.words];omega
     have Q1:=Hd q1;have Q2:=Hd q2;have HSET:=Hd hset;have HLEN:=Hd hlen;clear hx hy hset q1 q2 hlen;go_wp2_with fail
     refine jau [0,1,2,3,4,5,6,7,8,9,10,11,12,13] [13] Ext ExtR ExtT vY vY vY ?_;iterate 2 refine vP ?_
     refine qA _ (.pointer (some ⟨bh,0,none⟩)) rfl (fun w1=>by kernel_rfl) ?_;refine vS ?_;iterate 2 refine vP ?_
     refine qL ⟨bh,k,none⟩ _ rfl (fun w1 h1=>jab Tryz.uU32 rfl (jaa (by exact Q1.o) h1)) ?_;refine vS ?_;iterate 2 refine vP ?_
     refine qL ⟨g5,k,none⟩ _ rfl (fun w1 h1=>jab Tryz.uU32 rfl (jaa (by exact Q2.o) h1)) ?_;refine vS ?_
     refine vP ?_
     refine qA _ (.pointer (some ⟨bh,0,none⟩)) rfl (fun w1=>by kernel_rfl) ?_;refine vS ?_;iterate 2 refine vP ?_
     refine qH _ rfl (fun w6 he K hK=>?_);have G1:=HG.o.keeps ((jaj wr).trans he) (fun h=>h);have K1:=HK.o.trans' ((jaj wr).trans he) (fun _ _ h=>h.elim);have qq1:=jaa Q1.o ((jaj wr).trans he);have qq2:w6.frozen? ⟨bh,k,none⟩=false:=G1.frozen;have G2:=G1.set_same (i:=k) (wv (addW x y));rw[jjD HLEN.o,HSET.o]at G2;have K2:=K1.setCell (p:=⟨bh,k,none⟩) (.inl rfl) (wv (addW x y));have HG6:=Hd G2;have HK6:=Hd K2;clear G1 K1 G2 K2 he HG HK Q1 Q2;refine jkm bh k (wv (addW x y)) rfl vY vY rfl Tryz.iU32 qq1 qq2 (hK _ _ ?_);clear hK K qq1 qq2;refine qE (fun w8 he=>?_);have HG8:=Hd (HG6.o.keeps he (fun h=>h));have HK8:=Hd (HK6.o.trans' he (fun _ _ h=>h.elim));clear he HG6 HK6;go_wp2_with fail
     go_roundw
     case rel=>exact⟨k+1,by omega,by go_num,HG8.o,HK8.o⟩
     case measure=>simp[intOf];omega
    ·have hk8:k=8:=by omega
     subst hk8;have hfin:=HG.o;rw[jkq,HU8.o]at hfin;have HF:=Hd hfin;have HX:=Hd ((HXR.o.mono (G:=fun x=>x=bh) (fun _ _ h=>h.elim)).trans HK.o);clear hfin;go_wp2_with fail
     go_end0
     exact⟨rfl,HF.o,HX.o⟩
end Go.Proofs.YtcpnjmcipainpaaGreatDoor
