/- Lemmas. -/
import Derived.Test.YtgmmpefjadjajaaGreatDoorPa0
import Derived.Test.YtgmmpefjadjajaaGreatDoorPa6
import Derived.Deep.MidRow
namespace Go.Proofs.YtgmmpefjadjajaaGreatDoor
open Go.Proofs.Tryz
set_option linter.unusedSimpArgs false
set_option linter.unusedVariables false
set_option maxRecDepth 100000
set_option maxHeartbeats 16000000
open Go Go.RowKit
variable {a:Act}{af:Array Edge}{ops:Array Oper}{vs:Array vV}{F:Bd}{Q:Exit->Act->vW->Prop}{hd ord done:List Nat}{l rest:List Oper}{W V U ws:List UInt32}{C cs:List vV}{b n i k:Nat}{o:Oper}{x y:Operand}{g:Option (Nat × Bool)}{d:Option Tmp}{P:Program}{pos:String}{B:vN}{old v:vV}{w w':vW}{E:vW->vW->Prop}
def RW(a b c d:vU):UInt32:=a.toUInt32 <<< 24 ||| b.toUInt32 <<< 16 ||| c.toUInt32 <<< 8 ||| d.toUInt32
def FB(B:vN)(i:Nat):UInt32:=RW (B.getD (4*i) 0) (B.getD (4*i+1) 0) (B.getD (4*i+2) 0) (B.getD (4*i+3) 0)
def Za(B:vN)(k:Nat):List UInt32:=(List.range k).map (FB B)
def FJ(x:UInt32):UInt32:=Lh (Lh (Dz x 7) (Dz x 18)) (Mu x 3)
def FK(x:UInt32):UInt32:=Lh (Lh (Dz x 17) (Dz x 19)) (Mu x 10)
def DO(W:List UInt32):UInt32:=Dw (Dw (Dw (W.getD (W.length-16) 0) (FJ (W.getD (W.length-15) 0))) (W.getD (W.length-7) 0)) (FK (W.getD (W.length-2) 0))
def Zg(B:vN):Nat->List UInt32
 |0=>Za B 16
 |j+1=>Zg B j++[DO (Zg B j)]
theorem CV(B:vN):∀ j,(Zg B j).length=16+j
 |0=>by simp[Zg,Za]
 |j+1=>by simp[Zg,CV B j];omega
def Ml(B:vN):List UInt32:=Zg B 48
def Uz(W:List UInt32)(n:Nat):List vV:=W.map wv++List.replicate (n-W.length) (wv 0)
theorem aO(h:W.length<=n):(Uz W n).length=n:=by simp[Uz];omega
theorem aP(h:W.length<n)(x:UInt32):(Uz W n).set W.length (wv x)=Uz (W++[x]) n:=by
 unfold Uz;rw[dV _ _ (by simp),show n-W.length=(n-(W++[x]).length)+1 by simp;omega,fC]
 simp
theorem NH(h:i<W.length):(Uz W n)[i]?=some (wv (W.getD i 0)):=by
 unfold Uz;rw[cJ (by simpa using h)];simp[h]
theorem Q_(h:W.length=n):Uz W n=W.map wv:=by simp[Uz,h]
theorem yT(a b c d:vU):bits .or .u32 (bits .or .u32 (bits .or .u32 ((a.toNat:Int) % (4294967296:Int)*(16777216:Int) % (4294967296:Int)) ((b.toNat:Int) % (4294967296:Int)*(65536:Int) % (4294967296:Int))) ((c.toNat:Int) % (4294967296:Int)*(256:Int) % (4294967296:Int))) ((d.toNat:Int) % (4294967296:Int))=((RW a b c d).toNat:Int):=by
 have e:∀ (x:vU) (s:UInt32) (m:Nat),s.toNat<32->m=2 ^ s.toNat->(x.toNat:Int) % (4294967296:Int)*(m:Int) % (4294967296:Int)=((x.toUInt32 <<< s).toNat:Int):=by intro x s m q A;rw[UInt32.toNat_shiftLeft,gH q,Nat.shiftLeft_eq,A];have h:=x.toNat_lt;rw[show (x.toNat:Int) % (4294967296:Int)=(x.toNat:Int) by omega];simp
 have H:(a.toNat:Int) % (4294967296:Int)*(16777216:Int) % (4294967296:Int)=((a.toUInt32 <<< 24).toNat:Int):=e a 24 16777216 vI vI;have K:(b.toNat:Int) % (4294967296:Int)*(65536:Int) % (4294967296:Int)=((b.toUInt32 <<< 16).toNat:Int):=e b 16 65536 vI vI;have O:(c.toNat:Int) % (4294967296:Int)*(256:Int) % (4294967296:Int)=((c.toUInt32 <<< 8).toNat:Int):=e c 8 256 vI vI;have X:(d.toNat:Int) % (4294967296:Int)=(d.toUInt32.toNat:Int):=by have:=d.toNat_lt;simp;omega
 rw[H,K,O,X,OK,OK,OK];rfl
def GV(w:vW)(b o:Nat)(B:vN):Prop:=∀ (j:Nat) x,B[j]?=some x->w.cell? ⟨b,o+j,none⟩=some (.int .u8 (x.toNat:Int))
theorem GV.Z{o:Nat}(h:GV w b o B)(k:Ad F w w')(hF:¬ F b):GV w' b o B:=λj x A=>by
 have:=h j x A
 have q:=dX w _ this;have e:=k.block b q hF;unfold World.cell? at *;rw[e];exact this
theorem Mz:prog.underlying 317=some (.array 64 260):=vY
theorem Hc:(prog.info? 317).map (·.size)=some 64:=vY
theorem rJ{T:TypeId}{fz:Nat × Nat}(h:Ae w b (.cells C.toArray T fz)):w.rangeAt b 0 C:=λj v e=>by rw[bX];exact h.z1 e
theorem LN{T:TypeId}(h:Ae w b (.cells C.toArray T)):w.there b 0 C.length:=λj e=>by
 rw[bX];exact⟨by rw[h.z1 (bB e)];rfl,h.frozen⟩
theorem XU:∀ v∈W.map wv,v.oneCell'=true:=λv e=>by obtain⟨x,_,rfl⟩:=bC.1 e;rfl
def yK(w:vW)(b g:Nat)(B:vN)(i:vV)(wr:vW):Prop:=∃ k:Nat,k<=16/\i=.int .i64 k/\Ae wr g (.cells (Uz (Za B k) 64).toArray 317)/\Ad (λx=>x=g) w wr
def Z3(w:vW)(g:Nat)(B:vN)(i:vV)(wr:vW):Prop:=∃ m:Nat,16<=m/\m<=64/\i=.int .i64 m/\Ae wr g (.cells (Uz (Zg B (m-16)) 64).toArray 317)/\Ad (λx=>x=g) w wr
theorem L7(w:vW)(b o:Nat)(B:vN)(hL:B.length=64)(hB:GV w b o B):vR 172 #[.slice (some ⟨b,o,none⟩) 64 64] w (.agg ((Ml B).map wv).toArray):=by
 have HB:=J hB;have HL:=J hL;have g9:b<(w:Nat):=dX w _ (hB 0 (B[0]'(by omega)) (bB vO));have hX:∀ (p q:UInt32) (w:vW),(binOp .xor 260 (wv p) (wv q)).run prog w=.ok (wv (Lh p q)) w:=λ_ _ _=>oW;have hA:∀ (p q:UInt32) (w:vW),(binOp .add 260 (wv p) (wv q)).run prog w=.ok (wv (Dw p q)) w:=λ_ _ _=>oV;have h2:∀ (p:UInt32) (w:vW),(binOp .shr 260 (wv p) (.int .u64 3)).run prog w=.ok (wv (Mu p 3)) w:=λ_ _=>KZ 3 vI .u64;have h0:∀ (p:UInt32) (w:vW),(binOp .shr 260 (wv p) (.int .u64 10)).run prog w=.ok (wv (Mu p 10)) w:=λ_ _=>KZ 10 vI .u64;clear hB hL;unfold vR vQ;go_in;go_wp2_with fail
 obtain⟨W1,a9⟩:∃ W1,w.alloc (.cells (List.replicate 64 (wv 0)).toArray 317)=W1:=⟨_,rfl⟩
 obtain⟨W0,b0⟩:∃ W0,W1.alloc (.cells (List.replicate 64 (wv 0)).toArray 317)=W0:=⟨_,rfl⟩
 have e3:(W1:Nat)=↑w+1:=by rw[<-a9];simp
 have G2:Ae W0 w (.cells (List.replicate 64 (wv 0)).toArray 317):=by rw[<-b0];refine Ae.alloc ?_ _;rw[<-a9];exact Ae.new w _
 have G3:Ae W0 ((w:Nat)+1) (.cells (List.replicate 64 (wv 0)).toArray 317):=by rw[<-b0, <-e3];exact Ae.new W1 _
 have E0:Af w W0:=by rw[<-b0, <-a9];exact ((Aa w).alloc _).alloc _
 change Code.wp _ _ _ _ ((w.alloc (.cells (List.replicate 64 (wv 0)).toArray 317)).alloc (.cells (List.replicate 64 (wv 0)).toArray 317));rw[a9,b0];have g4:=J G2;have g5:=J G3;have e4:=J E0;clear b0 a9 e3 G2 G3 E0;go_loopw [11] (λi wr=>yK W0 b ((w:Nat)+1) B i wr) (λi _=>16-(intOf i).toNat)
 case atStart=>exact⟨0,by omega,rfl,g5.o,Ad.refl _ _⟩
 case round =>obtain⟨k,hk,rfl,hG,hK⟩:=hrel;have HG:=J hG;have HK:=J hK;clear hG hK;by_cases hlt:k<16;{have c1:(0:Int)<=4*(k:Int):=vO;have c2:4*(k:Int)<=4*(k:Int)+4:=vO;have c3:4*(k:Int)+4<=64:=vO;have c4:(4*(k:Int)).toNat=4*k:=vO;have c5:(4*(k:Int)+4).toNat=4*k+4:=vO;have b1:GV wr b o B:=((HB.o.Z e4.o kI).Z HK.o vO);have q0:wr.cell? ⟨b,o+4*k,none⟩=some (.int .u8 ((B.getD (4*k) 0).toNat:Int)):=b1 (4*k) _ (by rw[bB (kL HL.o)];congr 1;simp[show 4*k<B.length by have:=HL.o;omega]);have q1:wr.cell? ⟨b,o+4*k+1,none⟩=some (.int .u8 ((B.getD (4*k+1) 0).toNat:Int)):=b1 (4*k+1) _ (by rw[bB (kL HL.o)];congr 1;simp[show 4*k+1<B.length by have:=HL.o;omega]);have q2:wr.cell? ⟨b,o+4*k+2,none⟩=some (.int .u8 ((B.getD (4*k+2) 0).toNat:Int)):=b1 (4*k+2) _ (by rw[bB (kL HL.o)];congr 1;simp[show 4*k+2<B.length by have:=HL.o;omega]);have q3:wr.cell? ⟨b,o+4*k+3,none⟩=some (.int .u8 ((B.getD (4*k+3) 0).toNat:Int)):=b1 (4*k+3) _ (by rw[bB (kL HL.o)];congr 1;simp[show 4*k+3<B.length by have:=HL.o;omega]);have c8:=J q0;have c9:=J q1;have d0:=J q2;have d1:=J q3;clear q0 q1 q2 q3 b1;obtain⟨x0,d2⟩:=vE (B.getD (4*k) 0);obtain⟨x1,d3⟩:=vE (B.getD (4*k+1) 0);obtain⟨x2,a1⟩:=vE (B.getD (4*k+2) 0);obtain⟨x3,d4⟩:=vE (B.getD (4*k+3) 0);(rw[<-d2]at c8;rw[<-d3]at c9;rw[<-a1]at d0;rw[<-d4]at d1;have HW:=J (show FB B k=RW x0 x1 x2 x3 by rw[d2,d3,a1,d4];rfl);clear d2 d3 a1 d4;go_wp2_with fail);(refine Lc [0,1,2,3,4,5,6,7,8,9,10,11,12,13,14,15,16,17,18,19,20,21,22,23,24] [24] Af Aa Ap vY vY vY ?_;iterate 3 refine vP ?_);(refine qL ⟨b,o+4*k,none⟩ _ rfl (λw1 h1=>Bv Ck rfl (Am (by exact c8.o) h1)) (vS ?_);iterate 4 refine vP ?_);(refine qL ⟨b,o+4*k+1,none⟩ _ rfl (λw1 h1=>Bv Ck rfl (Am (by exact c9.o) h1)) (vS ?_);iterate 5 refine vP ?_);(refine qL ⟨b,o+4*k+2,none⟩ _ rfl (λw1 h1=>Bv Ck rfl (Am (by exact d0.o) h1)) (vS ?_);iterate 5 refine vP ?_);(refine qL ⟨b,o+4*k+3,none⟩ _ rfl (λw1 h1=>Bv Ck rfl (Am (by exact d1.o) h1)) (vS ?_);iterate 3 refine vP ?_);(have e5:=yT x0 x1 x2 x3;rw[<-HW.o]at e5;refine qH _ rfl (λw1 O K hK=>?_);have G1:=HG.o.Z ((Ao wr).trans O) kI;have K1:=HK.o.O ((Ao wr).trans O) kZ;have hl:(Za B k).length=k:=by simp[Za]);obtain⟨old,q1⟩:∃ v,w1.cell? ⟨(w:Nat)+1,k,none⟩=some v:=⟨_,G1.z1 (bB (by rw[aO vO];omega))⟩;(have q2:w1.frozen? ⟨(w:Nat)+1,k,none⟩=false:=G1.frozen;have G2:=G1.z2 (i:=k) (wv (FB B k));have A:=aP (W:=Za B k) (n:=64) vO (FB B k);rw[hl]at A;have b2:Za B k++[FB B k]=Za B (k+1):=by simp[Za,gM]);(rw[b2]at A;rw[show ((Uz (Za B k) 64).toArray.setIfInBounds k (wv (FB B k)))=(Uz (Za B (k+1)) 64).toArray by rw[<-A];simp]at G2;have H:=J G2;have a8:=J (K1.setCell (p:=⟨(w:Nat)+1,k,none⟩) (.inl rfl) (wv (FB B k)));clear G1 K1 O hl G2 A b2 HG HK HW c8 c9 d0 d1;go_simp;refine hK _ _ ?_;clear hK K q1 q2;refine qE (λw2 O=>?_);have d5:=J (H.o.Z O kI);have d6:=J (a8.o.O O kZ);clear O H a8 e5;go_wp2);go_roundw;(case rel=>exact⟨k+1,by omega,by go_num,d5.o,d6.o⟩);case measure=>exact vJ};have e0:k=16:=vO;(subst e0;have e6:=J (g4.o.Z HK.o vO);go_wp2_with fail);obtain⟨W2,rfl⟩:=vE wr;(rw[show ((16:Nat):Int)=(16:Int)from rfl];go_loopw [6] (λi wr=>Z3 W2 ((w:Nat)+1) B i wr) (λi _=>64-(intOf i).toNat));(case atStart=>exact⟨16,by omega,by omega,rfl,HG.o,Ad.refl _ _⟩);case round =>obtain⟨m,h3,h4,rfl,hG,hK⟩:=hrel;have Z:=J hG;have b3:=J hK;clear hG hK HG;by_cases hlt:m<64;{have e7:=CV B (m-16);obtain⟨b4,b7⟩:∃ a,a=m-15:=⟨_,rfl⟩;obtain⟨a2,e8⟩:∃ a,a=m-2:=⟨_,rfl⟩;obtain⟨b5,b8⟩:∃ a,a=m-16:=⟨_,rfl⟩;obtain⟨a7,e9⟩:∃ a,a=m-7:=⟨_,rfl⟩;have h5:(m:Int)-15=(b4:Int):=vO;have f2:(m:Int)-2=(a2:Int):=vO;have h6:(m:Int)-16=(b5:Int):=vO;have f7:(m:Int)-7=(a7:Int):=vO;have c0:=Z.o.z1 (i:=b4) (NH (n:=64) vO);have g2:=Z.o.z1 (i:=a2) (NH (n:=64) vO);have c7:=Z.o.z1 (i:=b5) (NH (n:=64) vO);have g7:=Z.o.z1 (i:=a7) (NH (n:=64) vO);obtain⟨X,d7⟩:=vE (Zg B (m-16));have f0:=J d7;rw[<-d7]at c0 g2 c7 g7 e7;have a3:X.length=m:=vO;(have d8:DO X=Dw (Dw (Dw (X.getD b5 0) (FJ (X.getD b4 0))) (X.getD a7 0)) (FK (X.getD a2 0)):=by unfold DO;rw[a3, <-b8, <-b7, <-e9, <-e8]);obtain⟨f1,a4⟩:∃ x,x=X.getD b4 0:=⟨_,rfl⟩;obtain⟨x2,a1⟩:∃ x,x=X.getD a2 0:=⟨_,rfl⟩;obtain⟨h7,a5⟩:∃ x,x=X.getD b5 0:=⟨_,rfl⟩;obtain⟨x7,d9⟩:∃ x,x=X.getD a7 0:=⟨_,rfl⟩;(rw[<-a4]at c0;rw[<-a1]at g2;rw[<-a5]at c7;rw[<-d9]at g7;rw[<-a4, <-a1, <-a5, <-d9]at d8;have f3:=J d8;have e1:=J a3;have f4:=J c0;have H2:=J g2;have f5:=J c7;have H7:=J g7;clear a4 a1 a5 d9 d8 a3 c0 g2 c7 g7 b7 e8 b8 e9 e7 d7;go_wp2_with fail);(refine Lc [0,1,2,3,4,5,6,7,8,9] [] Af Aa Ap vY vY vY ?_;iterate 3 refine vP ?_);(refine qL ⟨(w:Nat)+1,b4,none⟩ _ rfl (λw1 h1=>Bv Bl rfl (Am (by exact f4.o) h1)) (vS ?_);iterate 3 refine vP ?_);(refine qL ⟨(w:Nat)+1,a2,none⟩ _ rfl (λw1 h1=>Bv Bl rfl (Am (by exact H2.o) h1)) (vS ?_);iterate 2 refine vP ?_);(refine qE (λw3 O=>?_);have X1:=J ((Ao wr).trans O);clear O;go_wp2_with fail);(refine (zF w3 f1).mono ?_;rintro e w4 ⟨rfl,rfl⟩;go_wp2_with fail);(refine (jza w3 f1).mono ?_;rintro e w4 ⟨rfl,rfl⟩;go_wp2_with fail);(refine (T5 w3 x2).mono ?_;rintro e w4 ⟨rfl,rfl⟩;go_wp2_with fail);(refine (jzb w3 x2).mono ?_;rintro e w4 ⟨rfl,rfl⟩;go_wp2_with fail);(have b9:=J (Am f5.o X1.o);have f6:=J (Am H7.o X1.o);have f8:=J (Z.o.Z X1.o kI);have f9:=J (b3.o.O X1.o kZ);clear f5 H7 Z b3 X1 f4 H2;refine Lc [0,1,2,3,4,5,6,7,8,9,10,11,12,13,14,15] [15] Af Aa Ap vY vY vY ?_;iterate 4 refine vP ?_);(refine qL ⟨(w:Nat)+1,b5,none⟩ _ rfl (λw1 h1=>Bv Bl rfl (Am (by exact b9.o) h1)) (vS ?_);iterate 5 refine vP ?_);(refine qL ⟨(w:Nat)+1,a7,none⟩ _ rfl (λw1 h1=>Bv Bl rfl (Am (by exact f6.o) h1)) (vS ?_);iterate 4 refine vP ?_);refine qH _ rfl (λw1 O K hK=>?_);have G1:=f8.o.Z ((Ao w3).trans O) kI;have K1:=f9.o.O ((Ao w3).trans O) kZ;have hl:=e1.o;rw[<-f0.o]at G1;obtain⟨old,q1⟩:∃ v,w1.cell? ⟨(w:Nat)+1,m,none⟩=some v:=⟨_,G1.z1 (bB (by rw[aO vO];omega))⟩;(have q2:w1.frozen? ⟨(w:Nat)+1,m,none⟩=false:=G1.frozen;have G2:=G1.z2 (i:=m) (wv (DO X));have A:=aP (W:=X) (n:=64) vO (DO X);rw[hl]at A;have b2:X++[DO X]=Zg B (m+1-16):=by rw[show m+1-16=(m-16)+1 by omega];simp only[Zg];rw[<-f0.o]);(rw[b2]at A;rw[show ((Uz X 64).toArray.setIfInBounds m (wv (DO X)))=(Uz (Zg B (m+1-16)) 64).toArray by rw[<-A];simp]at G2;have K2:=K1.setCell (p:=⟨(w:Nat)+1,m,none⟩) (.inl rfl) (wv (DO X));rw[f3.o]at G2 K2;have H:=J G2;have a8:=J K2;clear G1 K1 O hl G2 A b2 K2 f8 f9 b9 f6 f3;unfold FJ FK at H a8;refine VV _ _ _ rfl rfl rfl rfl Mj q1 q2 (hK _ _ ?_);clear hK K q1 q2;refine qE (λw2 O=>?_);have d5:=J (H.o.Z O kI);have d6:=J (a8.o.O O kZ);clear O H a8;go_wp2);go_roundw;(case rel=>exact⟨m+1,by omega,by omega,by go_num,d5.o,d6.o⟩);case measure=>exact vJ};have e2:m=64:=vO;(subst e2;have a0:=Q_ (W:=Ml B) (n:=64) (by unfold Ml;rw[CV]);have g6:Hid (Ae wr ((w:Nat)+1) (.cells ((Ml B).map wv).toArray 317)):=J (by rw[<-a0];exact Z.o);have g0:=J (e6.o.Z b3.o vO);have HX:=J ((e4.o.O HK.o (G:=λx=>x=(w:Nat)+1) λx hx e=>by omega).O b3.o λx hx e=>by omega);clear a0 Z b3 HK e6;have g3:((Ml B).map wv).length=64:=by simp[Ml,CV]);(have b6:=J g3;clear g3;go_wp2_with (first|(refine wpList_load_mid rfl 317 (.tmp 3) rfl ((w:Nat)+1) 0 rfl ((Ml B).map wv) (.array 64 260) (rJ g6.o) Mz rfl (by rw[b6.o];exact Hc) ?_)|(refine wpList_store_mid rfl 317 (.tmp 2) (.tmp 92) rfl ↑w 0 ((Ml B).map wv).toArray rfl rfl (by have:=LN g0.o;simpa [Ml,CV]using this) (by simp only[cQ];rw[b6.o];exact Hc) (all_oneCell_toArray XU) ?_)));(have hb:Ae (wr.setCells w 0 ((Ml B).map wv)) w (.cells ((Ml B).map wv).toArray 317):=by have:=Ae.setCells ((Ml B).map wv) 0 wr (List.replicate 64 (wv 0)) g0.o (by rw[b6.o];simp);simpa [b6.o]using this);have hx:=HX.o.O (Ad.z9 w ((Ml B).map wv) 0 wr) (λx hx e=>by omega);have g8:=run_loadVar_mid (P:=prog) _ w 0 317 _ _ (rJ hb) Mz rfl (by rw[b6.o];exact Hc);exact bodyPost_ret (v:=.agg ((Ml B).map wv).toArray) (Zq (t:=2) (ty:=317) rfl rfl g8) rfl ⟨rfl,hx⟩
theorem Cs(args:Array vV)(w:vW):(callFunc 173 args).run prog w=.ok (.enter 173 args) w:=vY
theorem Fb{w:vW}{f:FuncId}{args:Array Operand}{ats:Array TypeId}{ty:TypeId}(eg:∀ args w,(callFunc f args).run P w=.ok (.enter f args) w)(hv:args.map a.eval=vs):(execOp a.eval ⟨d,.call { callee:=.value (.func f),args:=args,argTypes:=ats },ty,pos,af,g⟩).run P w=.ok (.enter f vs) w:=by
 subst hv;simp[execOp,resolve,Deferred.ofValue,invoke,Act.eval,bS,Result.andThen,cT,eg]
theorem kG{args:Array Operand}{ats:Array TypeId}{ty:TypeId}(h:(Builtin.copy_ ats ty vs).run P w=.ok v w')(hv:args.map a.eval=vs):(execOp a.eval ⟨d,.call { callee:=.builtin .copy,args:=args,argTypes:=ats },ty,pos,af,g⟩).run P w=.ok (.value v) w':=by
 subst hv;simp[execOp,resolve,invoke,Go.builtin,Act.eval,bS,Result.andThen,cT,h]
theorem OI(b j:Nat):(b:Addr).add j=⟨b,j,none⟩:=by unfold Addr.add;split<;>simp_all
theorem U3{Q:Act->vW->Prop}(o:Oper)(v:vV)(ho:l[k]?=some o)(hk:DB l hd done k=true)(hw:Region.wanted o (yielded l.toArray a.tmps)=true)
  (hv:∀ w1,(execOp a.eval o).run P w1=.ok (.value v) w1) (h:Nc P l hd E Q ord (k::done) (a.put o.dst v) w):Nc P l hd E Q (k::ord) done a w:=by
 simp only[DB,cI,cM,gP,PL]at hk;have e:∀ w' q,execOp q.eval o=execOp a.eval o->Region.wanted o (yielded l.toArray q.tmps)=Region.wanted o (yielded l.toArray a.tmps)->Qc P l.toArray E w' o v q:=λw' q A H=>.inl ⟨H.trans hw,λw1 _=>by rw[A,hv w1];exact⟨rfl,rfl⟩⟩
 exact .inl ⟨hk.1.1,hk.1.2,hk.2,o,v,ho,e w a rfl rfl,.inr e,h⟩
theorem qA{Q:Act->vW->Prop}(o:Oper)(v:vV)(ho:l[k]?=some o)(hv:∀ w1,(execOp a.eval o).run P w1=.ok (.value v) w1)(h:Nc P l hd E Q ord (k::done) (a.put o.dst v) w)(hk:DB l hd done k=true:=by kernel_rfl)(hw:Region.wanted o (yielded l.toArray a.tmps)=true:=by rfl):Nc P l hd E Q (k::ord) done a w:=U3 o v ho hk hw hv h
theorem aI(hv:v.oneCell'=true)(hc:w.cell? ⟨b,i,none⟩=some old)(hf:w.frozen? ⟨b,i,none⟩=false):(storeCells ⟨b,i,none⟩ [v]).run P w=.ok () (w.setCell ⟨b,i,none⟩ v):=by
 rw[lC,run_store P w _ v _ hv,hc,hf];rfl
theorem Di{w:vW}{T:TypeId}(hrun:∀ w,(Instr.alloc T true (.tuple #[])).run P w=.ok w (w.alloc (.cells cs.toArray T)))(hgd:o.guard=none)(ho:o.op=.alloc T)
  (h:∀ W,Ae W w (.cells cs.toArray T)->Af w W->wpList P ops Q rest (a.put o.dst w) W):wpList P ops Q (o::rest) a w:=
 wpList_plain hgd λK e=>Ro (v:=.pointer (some w)) (w':=w.alloc (.cells cs.toArray T)) (by simp only[execOp,ho,bS,hrun,Result.andThen,cT]) (e _ _ (h _ (Ae.new w _) ((Aa w).alloc _)))
theorem MP{t:TypeId}(hgd:o.guard=none)(b i:Nat)(v:vV)(ho:o.op=.store t x y)(hx:a.eval x=.pointer (some ⟨b,i,none⟩))(hy:a.eval y=v)(hv:v.oneCell'=true)
  (hi:(P.info? t).map (·.size)=some 1)  (hc:w.cell? ⟨b,i,none⟩=some old) (hf:w.frozen? ⟨b,i,none⟩=false) (h:∀ W,W=w.setCell ⟨b,i,none⟩ v->wpList P ops Q rest (a.put o.dst undef) W):wpList P ops Q (o::rest) a w:=
 a0 hgd b i v ho hx hy hv hi hc hf (h _ rfl)
theorem Bt{T T2:TypeId}{old vs:List vV}(hgd:o.guard=none)(ho:o.op=.store T x y)(hx:a.eval x=.pointer (some b))(hy:a.eval y=.agg vs.toArray)
  (hB:Ae w b (.cells old.toArray T2)) (hl:old.length=vs.length) (hi:(P.info? T).map (·.size)=some vs.length) (h1:∀ v∈vs,v.oneCell'=true)
  (h:∀ W,Ae W b (.cells vs.toArray T2)->Ad (λz=>z=b) w W->wpList P ops Q rest (a.put o.dst undef) W):wpList P ops Q (o::rest) a w:=by
 refine wpList_store_mid hgd T x y ho b 0 vs.toArray hx hy (by have:=LN hB;rw[hl]at this;simpa using this) (by simpa using hi) (all_oneCell_toArray h1) (h _ ?_ (Ad.z9 b vs 0 w))
 have:=Ae.setCells vs 0 w old hB vO
 rw[fZ vO]at this;simpa using this
structure W8 where
 a:UInt32
 b:UInt32
 c:UInt32
 d:UInt32
 e:UInt32
 f:UInt32
 g:UInt32
 h:UInt32
def W8.cells(v:W8):List vV:=[wv v.a,wv v.b,wv v.c,wv v.d,wv v.e,wv v.f,wv v.g,wv v.h]
def W8.words(v:W8):List UInt32:=[v.a,v.b,v.c,v.d,v.e,v.f,v.g,v.h]
def Xx(V U:List UInt32)(k:Nat):List UInt32:=(List.zipWith Dw V U).take k++V.drop k
theorem kS(h:V.length=U.length)(k:Nat):(Xx V U k).length=V.length:=by simp[Xx];omega
theorem m6(h:V.length=U.length)(hk:k<V.length):(Xx V U k)[k]?=V[k]?:=by
 unfold Xx;rw[cN zd];simp only[cR,List.length_zipWith,List.getElem?_drop]
 congr 1;omega
theorem m7(h:V.length=U.length)(hk:k<V.length):(Xx V U k).set k (Dw (V[k]'hk) (U[k]'(h ▸ hk)))=Xx V U (k+1):=by
 apply iZ;intro i;rw[iW];have e:=kS h k;unfold Xx at *
 by_cases hi:k=i
 ·subst hi;rw[if_pos rfl,if_pos vO,cJ zd,List.getElem?_take_of_lt vO,bB zd];simp
 ·rw[if_neg hi];by_cases hlt:i<k;{rw[cJ zd,cJ zd,List.getElem?_take_of_lt hlt,List.getElem?_take_of_lt vO]};rw[cN zd,cN zd];simp only[cR,List.length_zipWith,List.getElem?_drop];congr 1;omega
def W8.add(v u:W8):W8:=⟨Dw v.a u.a,Dw v.b u.b,Dw v.c u.c,Dw v.d u.d,Dw v.e u.e,Dw v.f u.f,Dw v.g u.g,Dw v.h u.h⟩
theorem g5(v u:W8):Xx v.words u.words 8=(v.add u).words:=rfl
theorem W8.cells_words(v:W8):v.cells=v.words.map wv:=rfl
def CK(v:W8)(k x:UInt32):UInt32:=Dw (Dw (Dw (Dw v.h (Lh (Lh (Dz v.e 6) (Dz v.e 11)) (Dz v.e 25))) (Lh (Tf v.e v.f) (Tf (Xe v.e) v.g))) k) x
def FM(v:W8):UInt32:=Dw (Lh (Lh (Dz v.a 2) (Dz v.a 13)) (Dz v.a 22)) (Lh (Lh (Tf v.a v.b) (Tf v.a v.c)) (Tf v.b v.c))
def XO(v:W8)(k x:UInt32):W8:=⟨Dw (CK v k x) (FM v),v.a,v.b,v.c,Dw v.d (CK v k x),v.e,v.f,v.g⟩
def EZ:List UInt32:=[0x428a2f98,0x71374491,0xb5c0fbcf,0xe9b5dba5,0x3956c25b,0x59f111f1,0x923f82a4,0xab1c5ed5,0xd807aa98,0x12835b01,0x243185be,0x550c7dc3,0x72be5d74,0x80deb1fe,0x9bdc06a7,0xc19bf174,
 0xe49b69c1,0xefbe4786,0x0fc19dc6,0x240ca1cc,0x2de92c6f,0x4a7484aa,0x5cb0a9dc,0x76f988da,0x983e5152,0xa831c66d,0xb00327c8,0xbf597fc7,0xc6e00bf3,0xd5a79147,0x06ca6351,0x14292967,
 0x27b70a85,0x2e1b2138,0x4d2c6dfc,0x53380d13,0x650a7354,0x766a0abb,0x81c2c92e,0x92722c85,0xa2bfe8a1,0xa81a664b,0xc24b8b70,0xc76c51a3,0xd192e819,0xd6990624,0xf40e3585,0x106aa070,
 0x19a4c116,0x1e376c08,0x2748774c,0x34b0bcb5,0x391c0cb3,0x4ed8aa4a,0x5b9cca4f,0x682e6ff3,0x748f82ee,0x78a5636f,0x84c87814,0x8cc70208,0x90befffa,0xa4506ceb,0xbef9a3f7,0xc67178f2]
def Ha(w:vW):Prop:=∀ i,i<64->w.cell? ⟨1,i,none⟩=some (wv (EZ.getD i 0))
theorem Ha.lt(h:Ha w):1<(w:Nat):=dX w _ (h 0 vI)
theorem Ha.Z(h:Ha w)(k:Ad F w w')(hF:¬ F 1):Ha w':=λi q=>by
 have:=h i q
 have e:=k.block _ h.lt hF;unfold World.cell? at *;rw[e];exact this
theorem Ha.ext(h:Ha w)(k:Af w w'):Ha w':=h.Z k kI
def IF(Wd:List UInt32)(v:W8):Nat->W8
 |0=>v
 |k+1=>XO (IF Wd v k) (EZ.getD k 0) (Wd.getD k 0)
theorem Oj:prog.underlying 261=some (.array 8 260):=vY
theorem Kr:(prog.info? 261).map (·.size)=some 8:=vY
theorem Td:prog.underlying 320=some (.slice 260):=vY
theorem Pv(w:vW):(Instr.alloc 317 true (.tuple #[])).run prog w=.ok w (w.alloc (.cells (List.replicate 64 (wv 0)).toArray 317)):=vY
theorem Rf(w:vW):(Instr.alloc 261 true (.tuple #[])).run prog w=.ok w (w.alloc (.cells (List.replicate 8 (wv 0)).toArray 261)):=vY
def Zl(V:W8)(B:vN):W8:=V.add (IF (Ml B) V 64)
def Jz(ws:List UInt32)(B:vN)(n sz:Int):List vV:=ws.map wv++El B++[Value.int .i64 n,Value.int .u64 sz]
theorem r_{n sz:Int}{x:UInt32}(h:ws[k]?=some x):(Jz ws B n sz)[k]?=some (wv x):=by
 have:=(bI.1 h).1
 unfold Jz;rw[bZ,cJ (by simpa using this)];simp[h]
theorem A_{n sz:Int}(h:k<ws.length)(x:UInt32):(Jz ws B n sz).toArray.setIfInBounds k (wv x)=(Jz (ws.set k x) B n sz).toArray:=by
 unfold Jz;simp only[gA,bZ];rw[List.set_append_left _ _ (by simpa using h),gV]
def jzx(w:vW)(bh:Nat)(V U:List UInt32)(B:vN)(n sz:Int)(i:vV)(wr:vW):Prop:=∃ k:Nat,k<=8/\i=.int .i64 k/\Ae wr bh (.cells (Jz (Xx V U k) B n sz).toArray 264)/\Ad (λx=>x=bh) w wr
def Q8(w:vW)(g5:Nat)(v:W8)(w':vW):Prop:=Ae w' g5 (.cells v.cells.toArray 261)/\Ad (λx=>x=g5) w w'
def jzV(w:vW)(g5:Nat)(Wd:List UInt32)(v:W8)(i:vV)(wr:vW):Prop:=∃ k:Nat,k<=64/\i=.int .i64 k/\Q8 w g5 (IF Wd v k) wr
theorem zT(w:vW)(bh:Nat)(V:W8)(B:vN)(n sz:Int)(hL:B.length=64)(hB:Ae w bh (.cells (Jz V.words B n sz).toArray 264))(hc:Ha w)(hbh:bh≠1):vQ 145 #[bh,.slice (some ⟨bh,8,none⟩) 64 64] w λe w'=>e=.returned (.tuple #[])/\Ae w' bh (.cells (Jz (Zl V B).words B n sz).toArray 264)/\Ad (λx=>x=bh) w w':=by
 have HB:=J hB;have HC:=J hc;have d2:GV w bh 8 B:=λj x hx=>hB.z1 (by have hj:=(bI.1 hx).1;unfold Jz;rw[bZ,cN (by simp[W8.words]),cJ (by simp[W8.words];omega)];simp[W8.words,El,hx])
 have hX:∀ (p q:UInt32) (w:vW),(binOp .xor 260 (wv p) (wv q)).run prog w=.ok (wv (Lh p q)) w:=λ_ _ _=>oW;have hA:∀ (p q:UInt32) (w:vW),(binOp .add 260 (wv p) (wv q)).run prog w=.ok (wv (Dw p q)) w:=λ_ _ _=>oV;have hN:∀ (p q:UInt32) (w:vW),(binOp .and 260 (wv p) (wv q)).run prog w=.ok (wv (Tf p q)) w:=λ_ _ _=>K8;have hU:∀ (p:UInt32) (w:vW),(Op.unary .xor (wv p)).run prog w=.ok (wv (Xe p)) w:=λ_ _=>L0;have d3:=J d2;have HL:=J hL;clear hB hc d2 hL;unfold vQ;go_in;go_wp2_with fail
 refine vC (L7 w bh 8 B HL.o d3.o) λw1 hE=>?_;have HE:=J hE;have b4:=J (HB.o.Z hE kI);clear hE;have d4:((Ml B).map wv).length=64:=by simp[Ml,CV]
 have b5:=J d4;clear d4;go_wp2_with (refine Di (cs:=List.replicate 64 (wv 0)) Pv rfl rfl ?_)
 intro W4 B4 E4;refine Bt (old:=List.replicate 64 (wv 0)) (vs:=(Ml B).map wv) rfl rfl rfl rfl B4 (by rw[b5.o];rfl) (by rw[b5.o];exact Hc) XU ?_;intro W5 B5 K5;have X5:Af w1 W5:=(E4.O K5 λx hx e=>by omega)
 obtain⟨g4,b1⟩:=vE w1.heap.size
 have c8:g4<(W5:Nat):=by rw[b1];exact B5.lt
 have d5:=b4.o.Z X5 kI;have d6:=HC.o.ext (HE.o.trans X5);have g7:bh≠g4:=kL b4.o.lt
 have g8:1≠g4:=kL ((HC.o.ext HE.o).lt)
 have g9:(w:Nat)<=g4:=by rw[b1];exact HE.o.size
 rw[<-b1]at B5 ⊢;have d7:=J B5;have b2:=J d5;have b6:=J d6;have b7:=J (HE.o.trans X5);clear B4 E4 B5 K5 X5 d5 d6 b1 b4;have d8:W5.rangeAt bh 0 V.cells:=λj v hv=>by rw[W8.cells_words]at hv;rw[bX];exact b2.o.z1 (by unfold Jz;rw[bZ,cJ (bI.1 hv).1];exact hv)
 have d9:=J d8;clear d8;go_wp2_with (first|(refine wpList_load_mid rfl 261 (.tmp 16) rfl bh 0 rfl V.cells (.array 8 260) d9.o Oj rfl Kr ?_)|(refine Di (cs:=List.replicate 8 (wv 0)) Rf rfl rfl ?_))
 intro W6 B6 E6;refine Bt (old:=List.replicate 8 (wv 0)) (vs:=V.cells) rfl rfl rfl rfl B6 rfl Kr (by intro v hv;simp only[W8.cells,bU,gU,or_false]at hv;rcases hv with rfl|rfl|rfl|rfl|rfl|rfl|rfl|rfl<;>rfl) ?_;intro W7 B7 K7;have X7:Af W5 W7:=(E6.O K7 λx hx e=>by omega)
 obtain⟨H,b8⟩:=vE W5.heap.size
 have e0:bh≠H:=kL b2.o.lt
 have f4:1≠H:=kL b6.o.lt
 have f5:g4≠H:=vO
 have b9:(w:Nat)<=H:=by rw[b8];exact b7.o.size
 rw[<-b8]at B7 ⊢;have e1:=J B7;have e2:=J (d7.o.Z X7 kI);have e3:=J (b2.o.Z X7 kI);have e4:=J (b6.o.ext X7);have e5:=J (b7.o.trans X7);clear B6 E6 B7 K7 X7 b8 d7 b2 b6 b7 d9 c8 b5 HE d3 HL HC;go_wp2
 go_loopw [18] (λi wr=>jzV W7 H (Ml B) V i wr) (λi _=>64-(intOf i).toNat)
 case atStart=>exact⟨0,by omega,rfl,e1.o,Ad.refl _ _⟩
 case round =>obtain⟨k,hk,rfl,X,hK⟩:=hrel;have HK:=J hK;by_cases hlt:k<64;{obtain⟨v,hv⟩:=vE (IF (Ml B) V k);(have a0:IF (Ml B) V (k+1)=XO v (EZ.getD k 0) ((Ml B).getD k 0):=by rw[hv];rfl);rw[<-hv]at X;obtain⟨ck,c0⟩:=vE (EZ.getD k 0);obtain⟨wk,c1⟩:=vE ((Ml B).getD k 0);(rw[<-c0, <-c1]at a0;have qc:wr.cell? ⟨1,k,none⟩=some (wv ck):=by rw[c0];exact (e4.o.Z hK f4) k hlt);(have qw:wr.cell? ⟨g4,k,none⟩=some (wv wk):=by rw[c1];refine (e2.o.Z hK f5).z1 ?_;rw[bY,bB (by simp[Ml,CV];omega)];simp[show k<(Ml B).length by simp[Ml,CV];omega]);have QC:=J qc;have QW:=J qw;have f6:=J a0;clear hv a0 c0 c1 qc qw hK;obtain⟨Z,x1,x2,x3,x4,x5,x6,x7⟩:=v;(have HG:=J X;have Q0:=J (X.cell (i:=0) (v:=wv Z) vF);have Q1:=J (X.cell (i:=1) (v:=wv x1) vF);have Q2:=J (X.cell (i:=2) (v:=wv x2) vF);have Q3:=J (X.cell (i:=3) (v:=wv x3) vF);have Q4:=J (X.cell (i:=4) (v:=wv x4) vF);have Q5:=J (X.cell (i:=5) (v:=wv x5) vF);have Q6:=J (X.cell (i:=6) (v:=wv x6) vF);have Q7:=J (X.cell (i:=7) (v:=wv x7) vF);clear X;go_wp2_with fail);refine Lc [0,1,2,3,4,5] [] Af Aa Ap vY vY vY ?_;refine vP ?_;refine qL H _ rfl (λw1 A=>Bv Bl rfl (Am (by exact Q0.o) A)) (vS ?_);refine vP ?_;(refine qL ⟨H,4,none⟩ _ rfl (λw1 A=>Bv Bl rfl (Am (by exact Q4.o) A)) (vS ?_);iterate 2 refine vP ?_);(refine qE (λw3 O=>?_);have X3:=J ((Ao wr).trans O);clear O;go_wp2_with fail);refine Lc [0,1,2,3,4,5,6,7,8,9,10,11,12,13,14,15,16,17,18,19,20,21,22,23,24,25,26,27,28,29,30] [] Af Aa Ap vY vY vY ?_;refine vP ?_;refine qL ⟨H,7,none⟩ _ rfl (λw1 A=>Bv Bl rfl (Am (by exact Am Q7.o (X3.o.trans (Ao w3))) A)) (vS ?_);refine vP ?_;refine AC _ 173 #[wv x4,.int .i64 6] (wv (Dz x4 6)) rfl vY rfl (λw1=>Fb Cs vY) (λw1 A=>(zE w1 x4).mono λe w2 ⟨A,h2⟩=>⟨A,h2 ▸ Aa w1⟩) (vS ?_);refine vP ?_;(refine AC _ 173 #[wv x4,.int .i64 11] (wv (Dz x4 11)) rfl vY rfl (λw1=>Fb Cs vY) (λw1 A=>(T3 w1 x4).mono λe w2 ⟨A,h2⟩=>⟨A,h2 ▸ Aa w1⟩) (vS ?_);iterate 2 refine vP ?_);(refine AC _ 173 #[wv x4,.int .i64 25] (wv (Dz x4 25)) rfl vY rfl (λw1=>Fb Cs vY) (λw1 A=>(jzd w1 x4).mono λe w2 ⟨A,h2⟩=>⟨A,h2 ▸ Aa w1⟩) (vS ?_);iterate 4 refine vP ?_);(refine qL ⟨H,5,none⟩ _ rfl (λw1 A=>Bv Bl rfl (Am (by exact Am Q5.o (X3.o.trans (Ao w3))) A)) (vS ?_);iterate 4 refine vP ?_);(refine qL ⟨H,6,none⟩ _ rfl (λw1 A=>Bv Bl rfl (Am (by exact Am Q6.o (X3.o.trans (Ao w3))) A)) (vS ?_);iterate 5 refine vP ?_);(refine qL ⟨1,k,none⟩ _ rfl (λw1 A=>Bv Bl rfl (Am (by exact Am QC.o (X3.o.trans (Ao w3))) A)) (vS ?_);iterate 3 refine vP ?_);(refine qL ⟨g4,k,none⟩ _ rfl (λw1 A=>Bv Bl rfl (Am (by exact Am QW.o (X3.o.trans (Ao w3))) A)) (vS ?_);iterate 2 refine vP ?_);refine qE (λw4 O=>?_);have X4:=J (X3.o.trans ((Ao w3).trans O));clear O X3;obtain⟨tv,c2⟩:∃ t,t=CK ⟨Z,x1,x2,x3,x4,x5,x6,x7⟩ ck wk:=⟨_,rfl⟩;(have a1:=c2;unfold CK at a1;simp only at a1;rw[<-a1];have f7:=J c2;clear c2 a1;go_wp2_with fail);refine Lc [0,1,2,3,4,5,6,7,8,9,10,11,12,13,14,15,16,17,18,19,20,21,22,23,24] [] Af Aa Ap vY vY vY ?_;refine vP ?_;refine AC _ 173 #[wv Z,.int .i64 2] (wv (Dz Z 2)) rfl vY rfl (λw1=>Fb Cs vY) (λw1 A=>(zD w1 Z).mono λe w2 ⟨A,h2⟩=>⟨A,h2 ▸ Aa w1⟩) (vS ?_);refine vP ?_;(refine AC _ 173 #[wv Z,.int .i64 13] (wv (Dz Z 13)) rfl vY rfl (λw1=>Fb Cs vY) (λw1 A=>(T4 w1 Z).mono λe w2 ⟨A,h2⟩=>⟨A,h2 ▸ Aa w1⟩) (vS ?_);iterate 2 refine vP ?_);(refine AC _ 173 #[wv Z,.int .i64 22] (wv (Dz Z 22)) rfl vY rfl (λw1=>Fb Cs vY) (λw1 A=>(jzc w1 Z).mono λe w2 ⟨A,h2⟩=>⟨A,h2 ▸ Aa w1⟩) (vS ?_);iterate 3 refine vP ?_);(refine qL ⟨H,1,none⟩ _ rfl (λw1 A=>Bv Bl rfl (Am (by exact Am Q1.o (X4.o.trans (Ao w4))) A)) (vS ?_);iterate 3 refine vP ?_);(refine qL ⟨H,2,none⟩ _ rfl (λw1 A=>Bv Bl rfl (Am (by exact Am Q2.o (X4.o.trans (Ao w4))) A)) (vS ?_);iterate 3 refine vP ?_);refine qL ⟨H,1,none⟩ _ rfl (λw1 A=>Bv Bl rfl (Am (by exact Am Q1.o (X4.o.trans (Ao w4))) A)) (vS ?_);refine vP ?_;(refine qL ⟨H,2,none⟩ _ rfl (λw1 A=>Bv Bl rfl (Am (by exact Am Q2.o (X4.o.trans (Ao w4))) A)) (vS ?_);iterate 4 refine vP ?_);refine qE (λw5 O=>?_);have X5:=J (X4.o.trans ((Ao w4).trans O));clear O X4;obtain⟨sv,c3⟩:∃ t,t=FM ⟨Z,x1,x2,x3,x4,x5,x6,x7⟩:=⟨_,rfl⟩;(have a2:=c3;unfold FM at a2;simp only at a2;rw[<-a2];have f8:=J c3;clear c3 a2;have e6:=J (HG.o.Z X5.o kI);have e7:=J (HK.o.O X5.o kZ);clear HG HK X5 Q0 Q1 Q2 Q3 Q4 Q5 Q6 Q7 QC QW;go_wp2_with fail);(refine Lc [0,1,2] [2] Af Aa Ap vY vY vY ?_;iterate 2 refine vP ?_);refine qH _ rfl (λw6 O K hK=>?_);have G1:=e6.o.Z ((Ao w5).trans O) kI;have K1:=e7.o.O ((Ao w5).trans O) kZ;have c4:=run_copy_cells (P:=prog) w6 320 320 3 260 H 1 7 7 H 7 8 [wv Z,wv x1,wv x2,wv x3,wv x4,wv x5,wv x6] Td Mj rfl (by intro j v hv;rw[OI];exact G1.z1 (by have:=(bI.1 hv).1;simp at this;rcases (show j=0\/j=1\/j=2\/j=3\/j=4\/j=5\/j=6 by omega)with rfl|rfl|rfl|rfl|rfl|rfl|rfl<;>simpa [W8.cells]using hv)) (by intro j hj;rw[G1.z1 (i:=1+j) (bB (by simp[W8.cells]at hj ⊢;omega))];rfl) (by intro j hj;exact G1.frozen) (by intro v hv;simp only[bU,gU,or_false]at hv;rcases hv with rfl|rfl|rfl|rfl|rfl|rfl|rfl<;>rfl);have G2:=Ae.setCells [wv Z,wv x1,wv x2,wv x3,wv x4,wv x5,wv x6] 1 w6 _ G1 (by simp[W8.cells]);have K2:=K1.trans (Ad.z9 H [wv Z,wv x1,wv x2,wv x3,wv x4,wv x5,wv x6] 1 w6);obtain⟨w7,b9⟩:=vE (w6.setCells H 1 [wv Z,wv x1,wv x2,wv x3,wv x4,wv x5,wv x6]);(rw[<-b9]at c4 G2 K2;simp[W8.cells]at G2;have a5:=J G2;have a7:=J K2;clear G1 K1 G2 K2 b9 O e6 e7;refine Ro (w':=w7) (kG c4 vY) (hK _ _ ?_);clear c4 hK K w6;refine qE (λw8 O=>?_);have a4:=J (a5.o.Z O kI);have b3:=J (a7.o.O O kZ);clear O a5 a7;have Q4:=a4.o.cell (i:=4) (v:=wv x3) vF;have F4:w8.frozen? ⟨H,4,none⟩=false:=a4.o.frozen;have G9:=a4.o.z2 (i:=4) (wv (Dw x3 tv));have K9:=b3.o.setCell (p:=⟨H,4,none⟩) (.inl rfl) (wv (Dw x3 tv));have a8:=J G9;have c5:=J K9;clear G9 K9 a4 b3;go_wp2_with fail);(rw[aI rfl Q4 F4];go_wp2_with fail);obtain⟨w9,e8⟩:=vE (w8.setCell ⟨H,4,none⟩ (wv (Dw x3 tv)));(rw[<-e8]at a8 c5 ⊢;clear e8 Q4 F4;have Q0:w9.cell? H=some (wv Z):=a8.o.cell (i:=0) vF;have F0:w9.frozen? H=false:=a8.o.frozen;have G9:=a8.o.z2 (i:=0) (wv (Dw tv sv));have K9:=c5.o.setCell (p:=H) (.inl rfl) (wv (Dw tv sv));have e9:=J G9;have f0:=J K9;clear G9 K9 a8 c5;rw[aI rfl Q0 F0];go_wp2_with fail);obtain⟨wA,f1⟩:=vE (w9.setCell H (wv (Dw tv sv)));rw[<-f1]at e9 f0 ⊢;clear f1 Q0 F0 w9 w8;go_roundw;(case rel=>exact⟨k+1,by omega,by go_num,by rw[f6.o];unfold XO;rw[<-f7.o, <-f8.o];exact e9.o,f0.o⟩);case measure=>exact vJ};have c9:k=64:=vO;subst c9;obtain⟨U,c7⟩:=vE (IF (Ml B) V 64);(rw[<-c7]at X;have f9:=J c7;have g0:=J X;have g2:=J (e3.o.Z HK.o e0);have g3:=J (e5.o.O HK.o λx hx e=>by omega);clear c7 X HK e3 e5 e1 e2 e4 hX hN hU;go_wp2_with fail);obtain⟨wm,rfl⟩:=vE wr;(rw[show ((64:Nat):Int)=(64:Int)from rfl];go_loopw [92] (λi w2=>jzx wm bh V.words U.words B n sz i w2) (λi _=>8-(intOf i).toNat));(case atStart=>exact⟨0,by omega,rfl,g2.o,Ad.refl _ _⟩);case round =>obtain⟨k,hk,rfl,X,hK⟩:=hrel;have HK:=J hK;have HG:=J X;clear hK X;by_cases hlt:k<8;{obtain⟨x,hx⟩:∃ x,V.words[k]?=some x:=⟨_,bB (by simp[W8.words];omega)⟩;obtain⟨y,hy⟩:∃ y,U.words[k]?=some y:=⟨_,bB (by simp[W8.words];omega)⟩;(have a9:(Xx V.words U.words k).set k (Dw x y)=Xx V.words U.words (k+1):=by have:=m7 (V:=V.words) (U:=U.words) (k:=k) rfl (by simp[W8.words];omega);rw[(bI.1 hx).2,(bI.1 hy).2]at this;exact this);(have q1:=HG.o.z1 (r_ ((m6 (V:=V.words) (U:=U.words) (k:=k) rfl (by simp[W8.words];omega)).trans hx));have q2:wr.cell? ⟨H,k,none⟩=some (wv y):=(g0.o.Z HK.o (Ne.symm e0)).z1 (by rw[W8.cells_words,bY,hy];rfl);have b0:k<(Xx V.words U.words k).length:=by rw[kS (V:=V.words) (U:=U.words) rfl];simp[W8.words];omega);(have Q1:=J q1;have Q2:=J q2;have d0:=J a9;have d1:=J b0;clear hx hy a9 q1 q2 b0;go_wp2_with fail);(refine Lc [0,1,2,3,4,5,6,7,8,9,10,11,12,13] [13] Af Aa Ap vY vY vY ?_;iterate 2 refine vP ?_);(refine qA _ bh rfl zf (vS ?_);iterate 2 refine vP ?_);(refine qL ⟨bh,k,none⟩ _ rfl (λw1 A=>Bv Bl rfl (Am (by exact Q1.o) A)) (vS ?_);iterate 2 refine vP ?_);refine qL ⟨H,k,none⟩ _ rfl (λw1 A=>Bv Bl rfl (Am (by exact Q2.o) A)) (vS ?_);refine vP ?_;(refine qA _ bh rfl zf (vS ?_);iterate 2 refine vP ?_);(refine qH _ rfl (λw6 O K hK=>?_);have G1:=HG.o.Z ((Ao wr).trans O) kI;have K1:=HK.o.O ((Ao wr).trans O) kZ;have f2:=Am Q1.o ((Ao wr).trans O);have f3:w6.frozen? ⟨bh,k,none⟩=false:=G1.frozen;have G2:=G1.z2 (i:=k) (wv (Dw x y));rw[A_ d1.o,d0.o]at G2;have K2:=K1.setCell (p:=⟨bh,k,none⟩) (.inl rfl) (wv (Dw x y));have a5:=J G2;have a7:=J K2;clear G1 K1 G2 K2 O HG HK Q1 Q2;refine VV bh k (wv (Dw x y)) rfl vY vY rfl Mj f2 f3 (hK _ _ ?_);clear hK K f2 f3;refine qE (λw8 O=>?_);have a4:=J (a5.o.Z O kI);have b3:=J (a7.o.O O kZ);clear O a5 a7;go_wp2);go_roundw;(case rel=>exact⟨k+1,by omega,by go_num,a4.o,b3.o⟩);case measure=>exact vJ};have g6:k=8:=vO;(subst g6;have a3:=HG.o;rw[g5,f9.o]at a3;have HF:=J a3;have HX:=J ((g3.o.mono (G:=λx=>x=bh) kZ).trans HK.o);clear a3;go_wp2_with fail);go_end0;exact⟨rfl,HF.o,HX.o⟩
