/- Lemmas; each is under no condition but those that it states. -/
import Derived.Test.YtegloohdmjadoaaGreatDoorPu11
import Derived.Sort.QuietIn
import Derived.LoopIn
import Derived.LoopNIn
import Derived.OwnWalkIn
namespace Go.Proofs.YtegloohdmjadoaaGreatDoor
set_option linter.unusedSimpArgs false
set_option linter.unusedVariables false
set_option maxRecDepth 100000
set_option maxHeartbeats 16000000
open Go Go.RowKit
section
attribute [local go_sem] Oper.semAt_some
def Of3R(w:vW)(P:vN)(hv iv:vV)(wr:vW):Prop:=∃ (j b c:Nat),64 * j<=P.length/\iv=.int .i64 ((64 * j:Nat):Int)/\hv=.slice (some ⟨b,0,none⟩) 8 c/\(∀ i u,((hBlk jjG P j).words.map wv)[i]?=some u->wr.cell? ⟨b,i,none⟩=some u)/\Ext w wr
def Of3S(w:vW)(V:W8)(ov iv:vV)(wr:vW):Prop:=∃ k:Nat,k<=8/\iv=.int .i64 k/\ov=.string ⟨(outL (V.words.take k)).toArray⟩/\Ext w wr
theorem jzL(w:vW)(s:vB)(hs:s.size<=1000000):vR 49 #[.string s] w (.string (shaB s)):=by
 have HS:=Hd hs
 obtain⟨P,hP⟩:=vE (padL s.data.toList)
 have hl:s.data.toList.length=s.size:=rfl;have a8:P.length % 64=0:=by rw[hP];exact jsL _
 have a9:P.length<=1000100:=by rw[hP,jkH];have:=jnQ s.data.toList.length;omega
 have b3:0 < P.length:=by rw[hP,jkH];omega
 have HP:=Hd (show shaB s=⟨(outL (hBlk jjG P (P.length / 64)).words).toArray⟩ by rw[hP];exact jxU _);have a2:=Hd (bB a8 (bB a9 b3));have a7:=jwf w s.data.toList hs;clear hs hl a8 a9 b3;go_enter Tryz.func49,Tryz.ntmps49;go_wp2_with fail
 refine (jvG w).mono ?_;rintro e w1 ⟨b1,b2,rfl,X,h2,d5,Z,b4,b6⟩;have c3:=Hd Z;have c4:=Hd b4;have c5:=Hd b6;clear Z b4 b6 a7;go_wp2_with fail
 refine vH (jwf w1 s.data.toList HS.o) fun w2 E=>?_;have c6:=Hd (c3.o.trans E);rw[show padZ s.data.toList (zPad s.data.toList.length)++lenL (UInt64.ofNat s.data.toList.length)=P from hP.symm]
 obtain⟨J,O⟩:∃ J:vB,J=⟨P.toArray⟩:=⟨_,rfl⟩
 have a3:=Hd (bB (show J.size=P.length by rw[O];rfl) O);rw[<-O];clear hP O;go_wp2_with fail
 go_loopw [3,6] (fun hv iv wr=>Of3R w2 P hv iv wr) (fun _ iv _=>P.length+64 - (intOf iv).toNat)
 case atStart=>exact⟨0,b1,8,by omega,rfl,rfl,fun i u hi=>jaa (c4.o.cellL hi) E.o,ExtR w2⟩
 case round =>
  obtain⟨j,b,c,hj,rfl,rfl,H,Z⟩:=hrel
  have A:=Hd H;have HE:=Hd Z;clear H Z
  obtain⟨m,hm⟩:=vE (64 * j)
  have HM:=Hd hm;rw[<-hm]at hj ⊢;have b7:=a3.o.1;have a0:=a2.o.1;have b8:=a2.o.2.1
  by_cases hlt:m < P.length
  ·have b0:(m:Int) < (J.size:Int):=vO
   have a1:wrap64 ((m:Int)+64)=((m+64:Nat):Int):=by unfold wrap64;omega
   have b5:m+64<=J.size:=vO
   have hx:(J.extract m (m+64)).data.toList=(P.drop (64 * j)).take 64:=by
    rw[a3.o.2, <-hm,cX,fF,dQ]
    congr 1;omega
   have b9:(J.extract m (m+64)).size=64:=by rw[cH];omega
   have HX:=Hd (bB hx b9);clear hm b7 a0 b8 hx b9;go_wp2_with fail
   obtain⟨sb,c0⟩:=vE (J.extract m (m+64))
   rw[<-c0]at HX ⊢;clear c0;refine (jvg wr b b2 c (hBlk jjG P j) sb HX.o.2 A.o (c5.o.keeps (E.o.trans HE.o) (fun h=>h))).mono ?_;rintro e w5 ⟨g,c',rfl,_,a4,c1⟩;rw[HX.o.1]at a4;have c7:=Hd a4;have c8:=Hd (HE.o.trans c1);clear a4 c1;go_wp2_with fail
   go_roundw
   case rel=>exact⟨j+1,g,c',by have:=HM.o;have:=a2.o;omega,by have:=HM.o;rw[show 64 * (j+1)=m+64 by omega,a1],rfl,c7.o,c8.o⟩
   case measure =>
    rw[a1];show P.length+64 - ((m+64:Nat):Int).toNat < P.length+64 - (m:Int).toNat;omega
  ·have c2:P.length / 64=j:=by have:=HM.o;omega
   have HR:=Hd HP.o;rw[c2]at HR
   obtain⟨V,hV⟩:=vE (hBlk jjG P j)
   rw[<-hV]at HR A;have c9:=Hd (c6.o.trans HE.o);clear hV c2 hm b7 a0 b8;have b0:¬(m:Int) < (J.size:Int):=by have:=a3.o.1;omega
   go_wp2_with fail
   obtain⟨W2,rfl⟩:=vE wr
   go_loopw [7,8] (fun ov iv wr=>Of3S W2 V ov iv wr) (fun _ iv _=>8 - (intOf iv).toNat)
   case atStart=>exact⟨0,by omega,rfl,rfl,ExtR W2⟩
   case round =>
    obtain⟨k,hk,rfl,rfl,Z⟩:=hrel
    have a5:=Hd Z;clear Z
    by_cases hlt:k < 8
    ·have b1:(k:Int) < 8:=vO
     obtain⟨x,hx⟩:∃ x,V.words[k]?=some x:=⟨_,bA hlt⟩
     have Q1:=Hd (show wr.cell? ⟨b,k,none⟩=some (wv x)from jaa (A.o k (wv x) (by rw[bV,hx];rfl)) a5.o);have a6:=Hd (show outL (V.words.take (k+1))=outL (V.words.take k)++jgI x by
      rw[bS,hx];unfold outL;simp)
     have d3:∀ (p:UInt32) (w:vW),(binOp .shr 145 (wv p) (.int .u64 24)).run Tryz.prog w=.ok (wv (shrW p 24)) w:=fun _ _=>jdd 24 vI .u64;have d4:∀ (p:UInt32) (w:vW),(binOp .shr 145 (wv p) (.int .u64 16)).run Tryz.prog w=.ok (wv (shrW p 16)) w:=fun _ _=>jdd 16 vI .u64;have d6:∀ (p:UInt32) (w:vW),(binOp .shr 145 (wv p) (.int .u64 8)).run Tryz.prog w=.ok (wv (shrW p 8)) w:=fun _ _=>jdd 8 vI .u64;have d7:∀ (p:UInt32) (w:vW),(convert 145 5 (wv p)).run Tryz.prog w=.ok (.int .u8 ((jm1 p).toNat:Int)) w:=fun p w=>Tryz.run_byteW p w
     obtain⟨T,hT⟩:=vE (outL (V.words.take k))
     have d8:T.length<=28:=by
      have:∀ W:List UInt32,(outL W).length=4 * W.length:=fun W=>by
       induction W with
       | nil=>rfl
       | cons y r ih=>show (jgI y++outL r).length=_;rw[bF,ih];show 4+_=4 * (r.length+1);omega
      rw[hT,this,cL];omega
     rw[<-hT]at a6 ⊢;clear hx hT;go_wp2_with fail
     refine jaJ [0,1,2,3,4,5,6,7,8,9,10,11,12,13,14,15,16,17,18,19,20,21,22,23,24,25,26,27] [24] Ext Ext ExtR ExtT ExtT (fun _ _ h=>h) vY vY vY ?_
     refine vD ?_
     iterate 3 refine vD ?_
     refine qDL ⟨b,k,none⟩ _ rfl (fun w1 X=>jab Tryz.uU32 rfl (jaa Q1.o ((jai wr).trans X))) ?_;refine vS ?_;iterate 2 refine vD ?_
     iterate 3 refine vD ?_
     refine qDL ⟨b,k,none⟩ _ rfl (fun w1 X=>jab Tryz.uU32 rfl (jaa Q1.o ((jai wr).trans X))) ?_;refine vS ?_;iterate 2 refine vD ?_
     iterate 3 refine vD ?_
     refine qDL ⟨b,k,none⟩ _ rfl (fun w1 X=>jab Tryz.uU32 rfl (jaa Q1.o ((jai wr).trans X))) ?_;refine vS ?_;iterate 2 refine vD ?_
     iterate 3 refine vD ?_
     refine qDL ⟨b,k,none⟩ _ rfl (fun w1 X=>jab Tryz.uU32 rfl (jaa Q1.o ((jai wr).trans X))) ?_;refine vS ?_
     refine vD ?_
     refine qDH _ rfl (fun w2 he K hK=>?_);have E:=Hd (show Ext wr w2 from(jai _).trans he);clear he;go_simp;refine hK _ _ ((ExtR w2).alloc _) ?_;clear hK K;refine qDV _ (.string ⟨(jgI x).toArray⟩) rfl (fun w3 h3=>jfz (n:=4) (xs:=jgI x) rfl vY h3 (fun f=>f) vI) ?_;refine vS ?_
     obtain⟨t2,Q⟩:=vE (jgI x)
     have d9:t2.length=4:=by rw[Q];rfl
     have e0:=Hd Q;rw[<-Q]at a6 ⊢;have b5:¬(9223372036854775807 < (⟨T.toArray⟩:vB).size+(⟨t2.toArray⟩:vB).size):=by show ¬(_ < T.length+t2.length);omega
     clear Q;iterate 2 refine vD ?_
     refine qDE (fun w6 he=>?_);have d0:=Hd (a5.o.trans ((E.o.alloc _).trans he));clear he;go_wp2_with fail
     go_roundw
     case rel=>exact⟨k+1,by omega,by go_num,by rw[jhw,a6.o],d0.o⟩
     case measure=>exact vJ
    ·have d1:k=8:=vO
     subst d1;have d2:Hid ((⟨(outL (V.words.take 8)).toArray⟩:vB)=shaB s):=HR.o.symm;rw[d2.o]
     obtain⟨z,hz⟩:=vE (shaB s)
     rw[<-hz];go_wp2_with fail
     go_ret
     exact⟨congrArg (fun q=>Ending.returned (Value.string q)) hz,c9.o.trans a5.o⟩
theorem jzn(n:Nat):(n:Int) % (256:Int)=((UInt8.ofNat n).toNat:Int):=by
 rw[fJ];omega
def leB(k n:Nat):vB:=⟨(leF k n).reverse.toArray⟩
theorem jvh:∀ (k:Nat) (w:vW) (n:Nat),k<=8->n < 256 ^ k->vR 186 #[.int .u64 n] w (.string (leB k n)):=by
 intro k;induction k with
 | zero =>
  intro w n _ E;have A:n=0:=by simpa using E
  subst A;go_enter Tryz.func186,Tryz.ntmps186;go_wp2_with fail
  go_ret
  exact⟨rfl,ExtR w⟩
 | succ k ih =>
  intro w n hk E
  by_cases A:n=0
  ·subst A
   go_enter Tryz.func186,Tryz.ntmps186;go_wp2_with fail
   go_ret
   exact⟨by unfold leB leF;simp,ExtR w⟩
  have hz:((n:Int) == 0)=false:=by simpa using A
  have hb:n < 18446744073709551616:=bJ E (bG (Nat.pow_le_pow_right vI (by omega:k+1<=8)) vI);have m:=Hd (fun w1=>ih w1 (n / 256) vO (by rw[Nat.pow_succ]at E;omega));rw[show ((n / 256:Nat):Int)=(n:Int) / (256:Int)from rfl]at m
  obtain⟨r,O⟩:=vE (leB k (n / 256))
  have HR:=Hd (show leB (k+1) n=⟨(r.data.toList++[UInt8.ofNat n]).toArray⟩ by
   rw[O];unfold leB;rw[leF,if_neg A];simp)
  rw[<-O]at m;rw[HR.o];have a1:r.size<=8:=by rw[O];unfold leB;show (leF k (n / 256)).reverse.length<=8;rw[List.length_reverse];have:=jhd k (n / 256);omega
  clear ih O A E;go_enter Tryz.func186,Tryz.ntmps186;go_wp2_with fail
  refine jaJ [0,1,2,3,4,5,6,7,8,9] [6] Ext Ext ExtR ExtT (fun x y z h k=>h.trans k) (fun x y h=>h) vY vY vY ?_;iterate 2 refine vD ?_
  refine jiL _ 186 #[.int .u64 ((n:Int) / (256:Int))] (.string r) rfl vY rfl (fun w1=>jat (vX 186) vY) (fun w1 _=>m.o w1) ?_;refine vS ?_;iterate 3 refine vD ?_
  refine qDH _ rfl (fun w2 H K hK=>?_);have Q:=Hd (show Ext w w2 from(jai _).trans H);clear H;go_simp;refine hK _ _ ((ExtR w2).alloc _) ?_;clear hK K;rw[jzn]
  obtain⟨J,e⟩:=vE ([UInt8.ofNat n])
  refine qDV _ (.string ⟨[UInt8.ofNat n].toArray⟩) rfl (fun w3 h3=>jfz (n:=1) (xs:=[UInt8.ofNat n]) rfl vY h3 (fun f=>f) vI) ?_;refine vS ?_;rw[<-e];have a2:J.length=1:=by rw[e];rfl
  have b5:¬(9223372036854775807 < r.size+(⟨J.toArray⟩:vB).size):=by show ¬(_ < r.size+J.length);omega
  have X:=Hd e;clear e;iterate 2 refine vD ?_
  refine qDE (fun w6 H=>?_);have Z:=Hd ((Q.o.alloc _).trans H);clear H;go_wp2_with fail
  go_ret;have a0:r++(⟨J.toArray⟩:vB)=⟨(r.data.toList++[UInt8.ofNat n]).toArray⟩:=(jhw r.data.toList J).trans (by rw[X.o])
  exact⟨congrArg (fun s=>Ending.returned (Value.string s)) a0,Z.o⟩
theorem jnI(w:vW)(b:vB)(B:Nat)(hB:B=128\/B=192)(hs:b.size<=1000000):vR 168 #[.string b,.int .i64 B] w (.string (jb7 (UInt8.ofNat B) b.size++b)):=by
 have Z : -9223372036854775808<=(B:Int)+(b.size:Int):=vO
 have a0:(B:Int)+(b.size:Int)<=9223372036854775807:=vO
 by_cases h55:b.size<=55
 ·have c1:(b.size:Int)<=55:=vO
  obtain⟨A,m⟩:∃ A:vU,A=UInt8.ofNat B+UInt8.ofNat b.size:=⟨_,rfl⟩
  have J:jb7 (UInt8.ofNat B) b.size=⟨#[A]⟩:=by unfold jb7;rw[if_pos h55,m]
  rw[J];have E:((B:Int)+(b.size:Int))=(A.toNat:Int):=by
   rw[m,iX,fJ,fJ];omega
  have H:=jb4 w A;rw[<-E]at H;have b5:¬(9223372036854775807 < (⟨#[A]⟩:vB).size+b.size):=by show ¬(_ < 1+b.size);omega
  clear h55 m J E;go_enter Tryz.func168,Tryz.ntmps168;go_wp2_with fail
  go_ret
  exact⟨rfl,(ExtR w).alloc _⟩
 ·have c1:¬(b.size:Int)<=55:=vO
  obtain⟨d,K⟩:=vE (jcY b.size)
  have a1:d.size<=8:=by rw[K];show (leF 8 b.size).reverse.length<=8;rw[List.length_reverse];exact jhd 8 b.size
  obtain⟨A,m⟩:∃ A:vU,A=UInt8.ofNat B+55+UInt8.ofNat d.size:=⟨_,rfl⟩
  have J:jb7 (UInt8.ofNat B) b.size=⟨#[A]⟩++d:=by unfold jb7;rw[if_neg h55,m,K]
  rw[J];have E:((B:Int)+55+(d.size:Int))=(A.toNat:Int):=by
   rw[m,iX,iX,fJ,fJ,show (55:vU).toNat=55 from rfl];omega
  have O:Hid (∀ w1,vQ 186 #[.int .u64 (b.size:Int)] w1 fun e w'=>e=.returned (.string d)/\Ext w1 w'):=(fun w1=>by rw[K];exact jvh 8 w1 b.size (bM _) (Nat.lt_of_le_of_lt hs vI));have a2 : -9223372036854775808<=(B:Int)+55:=vO
  have a3:(B:Int)+55<=9223372036854775807:=vO
  have a4 : -9223372036854775808<=(B:Int)+55+(d.size:Int):=vO
  have a5:(B:Int)+55+(d.size:Int)<=9223372036854775807:=vO
  have b5:¬(9223372036854775807 < (⟨#[A]⟩:vB).size+d.size):=by show ¬(_ < 1+d.size);omega
  have b6:¬(9223372036854775807 < ((⟨#[A]⟩:vB)++d).size+b.size):=by rw[bY];show ¬(_ < 1+d.size+b.size);omega
  have Q:=Hd E;clear h55 m J K E;go_enter Tryz.func168,Tryz.ntmps168;go_wp2_with fail
  refine vC (O.o w) fun w1 X=>?_;have H:=jb4 w1 A;rw[<-Q.o]at H;have HE:=Hd (X.alloc (.cells #[.int .u8 ((B:Int)+55+(d.size:Int))] 5));clear X;go_wp2_with fail
  go_ret
  exact⟨rfl,HE.o⟩
theorem jd8(w:vW)(b:vB)(hs:b.size<=1000000):vR 146 #[.string b] w (.string (jap b)):=by
 by_cases h1:b.size=1
 ·have K:0 < b.size:=vO
  have X:(0:Int) < (b.size:Int):=vO
  have O:((b.size:Int) == 1)=true:=by rw[h1];rfl
  have A:b.data.toList.headD 255=b[0]:=by
   obtain⟨⟨l⟩⟩:=b
   cases l with
   | nil=>cases K
   | cons x r=>rfl
  by_cases h2:b[0] < 128
  ·have Q:(b[0].toNat:Int) < 128:=by have:=dA.1 h2;have:(128:vU).toNat=128:=rfl;omega
   rw[show jap b=b by unfold jap;rw[if_pos ⟨h1,by rw[A];exact h2⟩]];clear h1 h2 A;go_enter Tryz.func146,Tryz.ntmps146;go_wp2_with fail
   go_ret
   exact⟨rfl,ExtR w⟩
  ·have Q:¬(b[0].toNat:Int) < 128:=by have:¬ b[0].toNat < (128:vU).toNat:=fun h=>h2 (dA.2 h);have:(128:vU).toNat=128:=rfl;omega
   have E:=Hd (jnI w b 128 (.inl rfl) hs);have H:=Hd (show jap b=jb7 (UInt8.ofNat 128) b.size++b by unfold jap;rw[if_neg (fun h=>h2 (by rw[<-A];exact h.2))];rfl);rw[H.o];clear h1 h2 A;go_enter Tryz.func146,Tryz.ntmps146;go_wp2_with fail
   refine E.o.mono ?_;rintro e w1 ⟨rfl,m⟩;have J:=Hd m;clear m;go_wp2_with fail
   go_ret
   exact⟨rfl,J.o⟩
 ·have O:((b.size:Int) == 1)=false:=beq_eq_false_iff_ne.2 vO
  have E:=Hd (jnI w b 128 (.inl rfl) hs);have H:=Hd (show jap b=jb7 (UInt8.ofNat 128) b.size++b by unfold jap;rw[if_neg (fun h=>h1 h.1)];rfl);rw[H.o];clear h1;go_enter Tryz.func146,Tryz.ntmps146;go_wp2_with fail
  refine E.o.mono ?_;rintro e w1 ⟨rfl,m⟩;have J:=Hd m;clear m;go_wp2_with fail
  go_ret
  exact⟨rfl,J.o⟩
theorem jgd(A B:vM):catB (A++B)=catB A++catB B:=by
 unfold catB;rw[bZ,List.flatten_append,jhw]
theorem jgc(x:vB):catB [x]=x:=by
 unfold catB;apply ByteArray.ext
 simp
theorem jpI{xs:vM}{k:Nat}{x:vB}(hx:xs[k]?=some x):catB (xs.take (k+1))=catB (xs.take k)++x:=by
 rw[bS,hx];show catB (xs.take k++[x])=_;rw[jgd,jgc]
theorem juc(xs:vM)(k:Nat):(catB (xs.take k)).size<=(catB xs).size:=by
 have:=jgd (xs.take k) (xs.drop k)
 rw[cQ]at this;rw[this,bY];omega
def jAk(w:vW)(xs:vM)(v i:vV)(wr:vW):Prop:=∃ k:Nat,k<=xs.length/\i=.int .i64 k/\v=.string (catB (xs.take k))/\Ext w wr
theorem jxM(w:vW)(v:vV)(xs:vM)(hv:RdS w v xs)(hn:xs.length<=1000000)(hl:(catB xs).size<=1000000):vR 169 #[v] w (.string (catB xs)):=by
 have HV:=Hd hv
 obtain⟨a,c,K,_⟩:=hv.slice
 subst K;clear hv
 obtain⟨R,O⟩:=vE (catB xs)
 rw[<-O]at hl ⊢;have HR:=Hd O;clear O;go_enter Tryz.func169,Tryz.ntmps169;go_wp2_with fail
 go_loopw [3,4] (fun v i wr=>jAk w xs v i wr) (fun _ i _=>xs.length - (intOf i).toNat)
 case atStart=>exact⟨0,cD _,rfl,rfl,ExtR w⟩
 case round =>
  obtain⟨k,hk,rfl,rfl,hE⟩:=hrel
  have Q:=Hd hE;clear hE
  by_cases hlt:k < xs.length
  ·have b1:(k:Int) < (xs.length:Int):=vO
   obtain⟨x,X⟩:∃ x,xs[k]?=some x:=⟨_,bA hlt⟩
   obtain⟨a7,c7,E,H⟩:=HV.o.slice
   obtain⟨bx,ox,J,m⟩:=H k x X
   obtain⟨e1,_,e3⟩:=cT E
   rw[J]at e1;subst e1;have q1:=jaa m Q.o;have e:=jpI X;have A:=juc xs (k+1);rw[e, <-HR.o,bY]at A
   obtain⟨t,ht⟩:=vE (catB (xs.take k))
   rw[<-ht]at e A ⊢;have Z:=Hd e;have b5:¬(9223372036854775807 < t.size+x.size):=vO
   clear E H m J e3 e ht X A;go_wp2_with fail
   go_roundw
   case rel=>exact⟨k+1,by omega,by go_num,by rw[Z.o],Q.o⟩
   case measure=>exact vJ
  ·have HF:=Hd (show catB (xs.take k)=R by rw[HR.o,bQ vO])
   rw[HF.o];go_wp2_with fail
   go_ret
   exact⟨rfl,Q.o⟩
theorem jkV(w:vW)(v:vV)(xs:vM)(hv:RdS w v xs)(hn:xs.length<=1000000)(hl:(catB xs).size<=1000000):vR 147 #[v] w (.string (jba xs)):=by
 have J:=Hd (jxM w v xs hv hn hl);have K:=Hd (fun w1=>jnI w1 (catB xs) 192 (.inr rfl) hl);have O:Hid (jba xs=jb7 (UInt8.ofNat 192) (catB xs).size++catB xs):=rfl;rw[O.o]
 obtain⟨a,c,A,_⟩:=hv.slice
 subst A;clear hv;go_enter Tryz.func147,Tryz.ntmps147;go_wp2_with fail
 refine J.o.mono ?_;rintro e w1 ⟨rfl,m⟩;have E:=Hd m;clear m;go_wp2_with fail
 refine vH (K.o w1) fun Q m=>?_;have H:=Hd (E.o.trans m);go_wp2_with fail
 go_ret
 exact⟨rfl,H.o⟩
def beL(l:vN):Nat:=l.foldl (fun a b=>a * 256+b.toNat) 0
theorem jt0(l:vN)(b:vU):beL (l++[b])=beL l * 256+b.toNat:=by unfold beL;rw[dF];rfl
theorem jyQ:∀ (l:vN),beL l < 256 ^ l.length:=fun l=>by
 suffices h:∀ (l:vN) (a k:Nat),a < 256 ^ k->l.foldl (fun a b=>a * 256+b.toNat) a < 256 ^ (k+l.length)from by
  have:=h l 0 0 vI
  rwa [cF]at this
 intro l;induction l with
 | nil=>intro a k h;simpa using h
 | cons x r ih =>
  intro a k h;have e:=x.toNat_lt
  have:=ih (a * 256+x.toNat) (k+1) (by rw[Nat.pow_succ];omega)
  rw[cN,bP,show k+(r.length+1)=k+1+r.length by omega];exact this
def RNum(w:vW)(s:vB)(v i:vV)(wr:vW):Prop:=∃ k:Nat,k<=s.size/\i=.int .i64 k/\v=.int .u64 (beL (s.data.toList.take k))/\Ext w wr
theorem jmt(w:vW)(s:vB)(hs:s.size<=8):vR 200 #[.string s] w (.int .u64 (beL s.data.toList)):=by
 obtain⟨R,H⟩:=vE (beL s.data.toList)
 rw[<-H];have X:=Hd H;clear H;go_enter Tryz.func200,Tryz.ntmps200;go_wp2_with fail
 go_loopw [3,4] (fun v i wr=>RNum w s v i wr) (fun _ i _=>s.size - (intOf i).toNat)
 case atStart=>exact⟨0,cD _,rfl,rfl,ExtR w⟩
 case round =>
  obtain⟨k,hk,rfl,rfl,K⟩:=hrel
  have O:=Hd K;clear K
  by_cases hlt:k < s.size
  ·have b1:(k:Int) < (s.size:Int):=vO
   have A:beL (s.data.toList.take (k+1))=beL (s.data.toList.take k) * 256+s[k].toNat:=by
    have e:s.data.toList[k]?=some s[k]:=by rw[bA (by exact hlt)];rfl
    rw[bS,e, <-jt0];rfl
   have m:=jyQ (s.data.toList.take k);rw[cL]at m;have E:beL (s.data.toList.take k) < 72057594037927936:=bJ m (bG (Nat.pow_le_pow_right vI (by omega:min k s.data.toList.length<=7)) vI);have Z:=s[k].toNat_lt
   obtain⟨n,Q⟩:=vE (beL (s.data.toList.take k))
   rw[<-Q]at A E ⊢;have J:=Hd A;have w1:(n:Int) * 256 < 18446744073709551616:=vO
   have w2:(0:Int)<=(n:Int) * 256:=vO
   have w3:(n:Int) * 256+(s[k].toNat:Int) < 18446744073709551616:=vO
   have w4:((n:Int) * 256) % 18446744073709551616=(n:Int) * 256:=vO
   have w5:((n:Int) * 256+(s[k].toNat:Int)) % 18446744073709551616=(n:Int) * 256+(s[k].toNat:Int):=vO
   clear m A Q;go_wp2_with fail
   go_roundw
   case rel=>exact⟨k+1,by omega,by go_num,by rw[J.o];push_cast;rfl,O.o⟩
   case measure=>exact vJ
  ·have HF:=Hd (show beL (s.data.toList.take k)=R by rw[X.o,bQ (by have:s.data.toList.length=s.size:=rfl;omega)])
   rw[HF.o];go_wp2_with fail
   go_ret
   exact⟨rfl,O.o⟩
end
def cutN(s:vB):Option (Bool × Nat × Nat):=
 if h:0 < s.size then
  let b:=s[0].toNat
  if b < 128 then some (false,0,1)
  else
   let (l,m):=if b < 192 then (false,b - 128)else (true,b - 192)
   if m<=55 then
    if 1+m<=s.size/\(l=true\/m≠1\/128<=(s.data.toList.getD 1 0).toNat)then some (l,1,m)else none
   else match lenB s (1+(m - 55))with
    | some n=>if 1+(m - 55)+n<=s.size then some (l,1+(m - 55),n)else none
    | none=>none
 else none
theorem jyZ(w:vW)(s:vB)(r:Bool × Nat × Nat)(hs:s.size<=1000000000)(h:cutN s=some r):vR 157 #[.string s] w (jdF s r):=by
 unfold cutN at h
 by_cases h0:0 < s.size
 ·rw[dif_pos h0]at h
  simp only at h;have hb:=s[0].toNat_lt
  by_cases h1:s[0].toNat < 128
  ·rw[if_pos h1]at h
   cases h;exact jrB w s hs h0 vO
  ·rw[if_neg h1]at h
   by_cases h2:s[0].toNat < 192
   ·rw[if_pos h2]at h
    simp only at h
    by_cases h3:s[0].toNat - 128<=55
    ·rw[if_pos h3]at h
     split at h
     ·rename_i hc
      cases h;refine juj w s (s[0].toNat - 128) hs h0 vO h3 hc.1 ?_;rcases hc.2 with hc | hc | hc
      ·cases hc
      ·exact .inl hc
      ·have e:1 < s.size:=by
        rcases fH 1 s.size with h | h
        ·exact h
        ·rw[bC,jB (by simpa using h)]at hc
         exact absurd hc vI
       refine .inr ⟨e,?_⟩;rw[bC,bA (by simpa using e)]at hc;have m:128<=(s[1]'e).toNat:=hc;omega
     ·cases h
    ·rw[if_neg h3]at h
     split at h
     ·rename_i n hl
      split at h
      ·rename_i hc
       cases h;exact jrC w s (s[0].toNat - 128 - 55) n hs h0 vO vO vO hl hc
      ·cases h
     ·cases h
   ·rw[if_neg h2]at h
    simp only at h
    by_cases h3:s[0].toNat - 192<=55
    ·rw[if_pos h3]at h
     split at h
     ·rename_i hc
      cases h;exact juh w s (s[0].toNat - 192) hs h0 vO h3 hc.1
     ·cases h
    ·rw[if_neg h3]at h
     split at h
     ·rename_i n hl
      split at h
      ·rename_i hc
       cases h;exact jrA w s (s[0].toNat - 192 - 55) n hs h0 vO vO vO hl hc
      ·cases h
     ·cases h
 ·rw[dif_neg h0]at h;cases h
theorem jzf(w:vW):vQ 158 #[.nilIface,.iface 31 (.int .i64 2)] w fun e w'=>e=.returned (.bool false)/\w=w':=by
 have m:∀ w,(binOp .eql 211 .nilIface (.iface 31 (.int .i64 2))).run Tryz.prog w=.ok (.bool false) w:=fun w=>by kernel_rfl
 go_enter Tryz.func158,Tryz.ntmps158;go_wp2_with fail
 go_ret
 exact⟨rfl,rfl⟩
theorem jnM(w:vW)(s:vB)(r:Bool × Nat × Nat)(hs:s.size<=1000000000)(h:cutN s=some r):vR 129 #[.string s] w (.tuple #[.bool r.1,.string (s.extract r.2.1 (r.2.1+r.2.2)),.string (s.extract (r.2.1+r.2.2) s.size),.int .i64 0]):=by
 go_enter Tryz.func129,Tryz.ntmps129;go_wp2_with fail
 refine vH (jyZ w s r hs h) fun w1 E=>?_;unfold jdF
 obtain⟨x,m⟩:=vE (s.extract r.2.1 (r.2.1+r.2.2))
 obtain⟨y,A⟩:∃ x,x=s.extract (r.2.1+r.2.2) s.size:=⟨_,rfl⟩
 rw[<-m, <-A]
 obtain⟨l,p⟩:=r
 have H:=Hd m;have J:=Hd A;clear h m A hs;simp only;go_wp2_with fail
 refine (jzf w1).mono ?_;rintro e K ⟨rfl,rfl⟩;go_wp2_with fail
 exact bodyPost_ret (v:=.tuple #[.bool l,.string x,.string y,.int .i64 0]) vY rfl ⟨by rw[H.o,J.o],E.o⟩
section
attribute [local go_sem] Oper.semAt_some
theorem jjY(s:vB)(k:Nat):(s.extract 1 (1+k)).data.toList=(s.data.toList.take (1+k)).drop 1:=by
 rw[cX]
 obtain⟨⟨l⟩⟩:=s
 cases l with
 | nil=>simp
 | cons x r=>rw[iK 1 k];simp
theorem jyP(l:vN):beL l=beN l:=rfl
def HdV(r:Bool × Nat × Nat):vV:=.tuple #[.bool r.1,.int .i64 (r.2.1:Int),.int .u64 (r.2.2:Int),.bool true]
theorem jta(w:vW)(s:vB)(r:Bool × Nat × Nat)(hs:s.size<=1000000)(h:cutN s=some r):vR 195 #[.string s] w (HdV r):=by
 unfold cutN at h;split at h
 case isFalse=>cases h
 rename_i h0
 have a6:s.toList.isEmpty=false:=jbe h0;have b1:(0:Int) < (s.size:Int):=vO
 have X:=s[0].toNat_lt
 obtain⟨c,E⟩:=vE (s[0].toNat)
 have a7:(s[0].toNat:Int)=(c:Int):=by rw[E]
 rw[<-E]at h X;simp only at h
 by_cases h1:c < 128
 ·rw[if_pos h1]at h
  obtain rfl:=bN h;have d1:(c:Int) < 128:=vO
  have d2:¬(192:Int)<=(c:Int):=vO
  clear h E h1;go_enter Tryz.func195,Tryz.ntmps195;go_wp2_with fail
  exact bodyPost_ret (v:=HdV (false,0,1)) vY rfl ⟨rfl,ExtR w⟩
 rw[if_neg h1]at h;have d1:¬(c:Int) < 128:=vO
 by_cases h2:c < 192
 ·rw[if_pos h2]at h
  simp only at h;have d2:¬(192:Int)<=(c:Int):=vO
  by_cases h3:c - 128<=55
  ·rw[if_pos h3]at h
   split at h
   case isFalse=>cases h
   obtain rfl:=bN h;have Z:(c:Int)<=128+55:=vO
   have H:(c:Int)<=183:=vO
   have e:(((c - 128:Nat)):Int)=(c:Int) - 128:=vO
   have a0:(0:Int)<=(c:Int) - 128:=vO
   have a1:(c:Int) - 128 < 18446744073709551616:=vO
   have a2:((c:Int) - 128) % 18446744073709551616=(c:Int) - 128:=vO
   have J:=Hd (show HdV (false,1,c - 128)=.tuple #[.bool false,.int .i64 1,.int .u64 ((c:Int) - 128),.bool true] by unfold HdV;rw[e];rfl);rw[J.o];clear h E h1 h2 h3 e;go_enter Tryz.func195,Tryz.ntmps195;go_wp2_with fail
   exact bodyPost_ret (v:=.tuple #[.bool false,.int .i64 1,.int .u64 ((c:Int) - 128),.bool true]) vY rfl ⟨rfl,ExtR w⟩
  ·rw[if_neg h3]at h
   obtain⟨k,Q⟩:=vE (c - 128 - 55)
   rw[<-Q]at h;cases hL:lenB s (1+k)with
   | none=>rw[hL]at h;cases h
   | some n =>
   rw[hL]at h;simp only at h;split at h
   case isFalse=>cases h
   obtain rfl:=bN h
   obtain⟨K,_,m,_,a3⟩:=jdi hL
   have a4:k<=8:=vO
   have A:=Hd (fun w1=>jmt w1 (s.extract 1 (1+k)) (by rw[cH];omega));rw[jjY,jyP,m]at A;have Z:¬(c:Int)<=128+55:=vO
   have H:¬(c:Int)<=183:=vO
   have O:(c:Int)=(k:Int)+183:=vO
   have d4:¬(s.size:Int) < 1+(k:Int):=vO
   have a5:(c:Int) - 128 - 55=(k:Int):=vO
   have d5:(1:Int)<=1+(k:Int):=vO
   have d6:1+(k:Int)<=(s.size:Int):=vO
   have d7:(1+(k:Int)).toNat=1+k:=vO
   have d8:(0:Int)<=1+(k:Int):=vO
   have J:=Hd (show HdV (false,1+k,n)=.tuple #[.bool false,.int .i64 (1+(k:Int)),.int .u64 (n:Int),.bool true] by unfold HdV;simp);rw[J.o];clear h E h1 h2 h3 Q hL K m O;go_enter Tryz.func195,Tryz.ntmps195;go_wp2_with fail
   refine vH (A.o _) fun w1 HE=>?_;go_wp2_with fail
   exact bodyPost_ret (v:=.tuple #[.bool false,.int .i64 (1+(k:Int)),.int .u64 (n:Int),.bool true]) vY rfl ⟨rfl,HE.o⟩
 ·rw[if_neg h2]at h
  simp only at h;have d2:(192:Int)<=(c:Int):=vO
  by_cases h3:c - 192<=55
  ·rw[if_pos h3]at h
   split at h
   case isFalse=>cases h
   obtain rfl:=bN h;have Z:(c:Int)<=192+55:=vO
   have H:(c:Int)<=247:=vO
   have e:(((c - 192:Nat)):Int)=(c:Int) - 192:=vO
   have a0:(0:Int)<=(c:Int) - 192:=vO
   have a1:(c:Int) - 192 < 18446744073709551616:=vO
   have a2:((c:Int) - 192) % 18446744073709551616=(c:Int) - 192:=vO
   have J:=Hd (show HdV (true,1,c - 192)=.tuple #[.bool true,.int .i64 1,.int .u64 ((c:Int) - 192),.bool true] by unfold HdV;rw[e];rfl);rw[J.o];clear h E h1 h2 h3 e;go_enter Tryz.func195,Tryz.ntmps195;go_wp2_with fail
   exact bodyPost_ret (v:=.tuple #[.bool true,.int .i64 1,.int .u64 ((c:Int) - 192),.bool true]) vY rfl ⟨rfl,ExtR w⟩
  ·rw[if_neg h3]at h
   obtain⟨k,Q⟩:=vE (c - 192 - 55)
   rw[<-Q]at h;cases hL:lenB s (1+k)with
   | none=>rw[hL]at h;cases h
   | some n =>
   rw[hL]at h;simp only at h;split at h
   case isFalse=>cases h
   obtain rfl:=bN h
   obtain⟨K,_,m,_,a3⟩:=jdi hL
   have a4:k<=8:=vO
   have A:=Hd (fun w1=>jmt w1 (s.extract 1 (1+k)) (by rw[cH];omega));rw[jjY,jyP,m]at A;have Z:¬(c:Int)<=192+55:=vO
   have H:¬(c:Int)<=247:=vO
   have O:(c:Int)=(k:Int)+247:=vO
   have d4:¬(s.size:Int) < 1+(k:Int):=vO
   have a5:(c:Int) - 192 - 55=(k:Int):=vO
   have d5:(1:Int)<=1+(k:Int):=vO
   have d6:1+(k:Int)<=(s.size:Int):=vO
   have d7:(1+(k:Int)).toNat=1+k:=vO
   have d8:(0:Int)<=1+(k:Int):=vO
   have J:=Hd (show HdV (true,1+k,n)=.tuple #[.bool true,.int .i64 (1+(k:Int)),.int .u64 (n:Int),.bool true] by unfold HdV;simp);rw[J.o];clear h E h1 h2 h3 Q hL K m O;go_enter Tryz.func195,Tryz.ntmps195;go_wp2_with fail
   refine vH (A.o _) fun w1 HE=>?_;go_wp2_with fail
   exact bodyPost_ret (v:=.tuple #[.bool true,.int .i64 (1+(k:Int)),.int .u64 (n:Int),.bool true]) vY rfl ⟨rfl,HE.o⟩
end
theorem jdE{a b:vB}(h:a.toList=b.toList):a=b:=by
 rw[bL,bL]at h
 obtain⟨⟨l⟩⟩:=a;obtain⟨⟨m⟩⟩:=b
 simp at h;rw[h]
theorem jdX(a:vB):catB [a]=a:=by
 obtain⟨⟨l⟩⟩:=a;simp[catB]
theorem jxz{W w':vW}{x:vB}{T:TypeId}(h:Ext (W.alloc (.cells #[.string x] T)) w'):RdS w' (.slice (some ⟨W.heap.size,0,none⟩) 1 1) [x]:=by
 have e:Blk w' W.heap.size (.cells #[.string x] T):=(Blk.new W _).keeps h (fun h=>h);exact .inr ⟨W.heap.size,0,1,rfl,e.lt,bM _,fun j y m=>by
  rcases j with _ | j
  ·cases m;exact e.cell vF
  ·simp at m⟩
theorem ju7(ws:List UInt32):(outL ws).length=4 * ws.length:=by
 unfold outL;induction ws with
 | nil=>rfl
 | cons x r ih=>rw[dI,bF,ih];simp[jgI];omega
theorem jtq(s:HSt)(sz:UInt64):(sumB s sz).size=32:=by
 rw[Lib.size_eq];unfold sumB;rw[List.toList_toArray,ju7];rfl
theorem jbA(s:vB):(shaB s).size=32:=jtq _ _
def refB(s:vB):vB:=if s.size < 32 then s else jap (shaB s)
theorem jxB(w:vW)(s:vB)(hc:jbW w):vR 91 #[.string s] w (.string (refB s)):=by
 have K:=Hd hc;clear hc
 by_cases hlt:s.size < 32
 ·have O:(s.size:Int) < 32:=vO
  go_enter Tryz.func91,Tryz.ntmps91;go_wp2_with fail
  go_ret
  exact⟨by unfold refB;rw[if_pos hlt];rfl,ExtR w⟩
 ·have O:¬(s.size:Int) < 32:=vO
  go_enter Tryz.func91,Tryz.ntmps91;go_wp2_with fail
  refine vH (of_t _ _ [s] (by simp) (jxz (ExtR _)) (K.o.ext ((ExtR w).alloc _))) fun w1 A=>?_;rw[jdX];have E:Hid (Ext w w1):=Hd (((ExtR w).alloc _).trans A)
  obtain⟨h,m⟩:=vE (shaB s)
  have e:h.size<=1000000000:=by rw[m,jbA];omega
  rw[<-m];have Q:=Hd m;clear m;go_wp2_with fail
  refine vH (jew w1 h e) fun X H=>?_;have J:=Hd (E.o.trans H);clear e;go_wp2_with fail
  go_ret
  exact⟨by unfold refB;rw[if_neg hlt, <-Q.o];rfl,J.o⟩
def jff(s:vB)(r:Bool × Nat × Nat):Option vB:=if r.1=false/\r.2.1+r.2.2=s.size then some (s.extract r.2.1 (r.2.1+r.2.2))else none
def optV:Option vB->vV
 | some x=>.tuple #[.string x,.bool true]
 | none=>.tuple #[.string ⟨#[]⟩,.bool false]
theorem jwS{s:vB}{r:Bool × Nat × Nat}(h:cutN s=some r):r.2.1+r.2.2<=s.size:=by
 unfold cutN at h
 by_cases h0:0 < s.size
 ·rw[dif_pos h0]at h
  simp only at h
  by_cases h1:s[0].toNat < 128
  ·rw[if_pos h1]at h
   obtain rfl:=bN h;simp only;omega
  ·rw[if_neg h1]at h
   obtain⟨o,e⟩:∃ o:Bool × Nat,o=if s[0].toNat < 192 then (false,s[0].toNat - 128)else (true,s[0].toNat - 192):=⟨_,rfl⟩
   rw[<-e]at h;clear e
   obtain⟨l,m⟩:=o
   simp only at h
   by_cases h3:m<=55
   ·rw[if_pos h3]at h
    split at h
    ·rename_i hc;obtain rfl:=bN h;exact hc.1
    ·cases h
   ·rw[if_neg h3]at h
    split at h
    ·split at h
     ·rename_i hc;obtain rfl:=bN h;exact hc
     ·cases h
    ·cases h
 ·rw[dif_neg h0]at h;cases h
theorem jiT(w:vW)(s:vB)(r:Bool × Nat × Nat)(hs:s.size<=1000000000)(h:cutN s=some r):vR 119 #[.string s] w (optV (jff s r)):=by
 have m:=jwS h;go_enter Tryz.func119,Tryz.ntmps119;go_wp2_with fail
 refine vH (jnM w s r hs h) fun w1 A=>?_
 obtain⟨x,E⟩:=vE (s.extract r.2.1 (r.2.1+r.2.2))
 obtain⟨y,H⟩:∃ x,x=s.extract (r.2.1+r.2.2) s.size:=⟨_,rfl⟩
 have e:y.size=s.size - (r.2.1+r.2.2):=by rw[H];simp[cH]
 rw[<-E, <-H]
 obtain⟨l,p⟩:=r
 simp only at e m;have K:=Hd E;clear h E H hs;simp only;cases l with
 | true =>
  go_wp2_with fail
  exact bodyPost_ret (v:=optV none) vY rfl ⟨by unfold jff;rw[if_neg (by simp)],A.o⟩
 | false =>
  by_cases he:p.1+p.2=s.size
  ·have J:y=⟨#[]⟩:=by
    have:y.size=0:=vO
    obtain⟨⟨l⟩⟩:=y
    cases l with
    | nil=>rfl
    | cons x y=>exact absurd this (iA _)
   subst J;clear e;go_wp2_with fail
   exact bodyPost_ret (v:=optV (some x)) vY rfl ⟨by unfold jff;rw[if_pos ⟨rfl,he⟩,K.o],A.o⟩
  ·have O:=jbe (s:=y) vO
   clear e;go_wp2_with fail
   exact bodyPost_ret (v:=optV none) vY rfl ⟨by unfold jff;rw[if_neg (by simp[he])],A.o⟩
def jgl(s:vB)(r:Bool × Nat × Nat):Option vB:=(jff s r).filter (fun x=>x.size=32)
theorem jei(w:vW)(s:vB)(r:Bool × Nat × Nat)(hs:s.size<=1000000000)(h:cutN s=some r):vR 89 #[.string s] w (optV (jgl s r)):=by
 go_enter Tryz.func89,Tryz.ntmps89;go_wp2_with fail
 refine vH (jiT w s r hs h) fun w1 e=>?_;have hb:jgl s r=(jff s r).filter (fun x=>x.size=32):=rfl
 obtain⟨o,E⟩:=vE (jff s r)
 rw[<-E]at hb ⊢;have m:=Hd hb;clear h hs E hb;cases o with
 | none =>
  unfold optV;simp only;go_wp2_with fail
  exact bodyPost_ret (v:=optV none) vY rfl ⟨by rw[m.o];rfl,e.o⟩
 | some x =>
  unfold optV;simp only
  by_cases hx:x.size=32
  ·have H:((x.size:Int) == 32)=true:=by simp;omega
   have A:(x.size:Int)=32:=vO
   go_wp2_with fail
   exact bodyPost_ret (v:=optV (some x)) vY rfl ⟨by rw[m.o];simp[Option.filter,hx],e.o⟩
  ·have H:((x.size:Int) == 32)=false:=by simp;omega
   have A:¬(x.size:Int)=32:=vO
   go_wp2_with fail
   exact bodyPost_ret (v:=optV none) vY rfl ⟨by rw[m.o];simp[Option.filter,hx],e.o⟩
structure jad where
 kind:Nat
 path:vB
 value:vB
 refs:vM
def jad.cells(n:jad):List vV:=.int .i64 (n.kind:Int) :: .string n.path :: .string n.value :: n.refs.map Value.string
def jad.V(n:jad):vV:=.agg n.cells.toArray
def jad.pathOk(n:jad)(least:Nat):Bool:=decide (least<=n.path.size) && decide (n.path.size<=12) && jaz n.path
theorem jad.cells_len(n:jad)(h:n.refs.length=16):n.cells.length=19:=by simp[jad.cells,h]
theorem jsD(w:vW)(n:jad)(hr:n.refs.length=16)(least:Nat)(hs:n.path.size<=1000000):vR 152 #[n.V,.int .i64 least] w (.bool (n.pathOk least)):=by
 obtain⟨k,p,v,A⟩:=n
 have E:(jad.cells ⟨k,p,v,A⟩).length=19:=jad.cells_len _ hr;simp only at hr hs;have O:=Hd E;clear E;unfold jad.V;have Q:(jad.cells ⟨k,p,v,A⟩)[1]?=some (.string p):=rfl;have e:∀ b:Bool,b=(jad.pathOk ⟨k,p,v,A⟩ least)->Ending.returned (.bool b)=Ending.returned (.bool (jad.pathOk ⟨k,p,v,A⟩ least)):=fun b h=>by rw[h]
 by_cases h1:least<=p.size
 ·have H:(least:Int)<=(p.size:Int):=vO
  by_cases h2:p.size<=12
  ·have J:(p.size:Int)<=12:=vO
   go_enter Tryz.func152,Tryz.ntmps152;go_wp2_with fail
   refine vC (jk6 _ p vO) fun w1 m=>?_;have K:Hid (Ext w w1):=Hd (by rw[m];exact (ExtR w).alloc _);clear m;go_wp2_with fail
   go_ret
   exact⟨e _ (by simp[jad.pathOk,h1,h2]),K.o⟩
  ·have J:¬(p.size:Int)<=12:=vO
   go_enter Tryz.func152,Tryz.ntmps152;go_wp2_with fail
   go_ret
   exact⟨e false (by simp[jad.pathOk,h2]),(ExtR w).alloc _⟩
 ·have H:¬(least:Int)<=(p.size:Int):=vO
  go_enter Tryz.func152,Tryz.ntmps152;go_wp2_with fail
  go_ret
  exact⟨e false (by simp[jad.pathOk,h1]),(ExtR w).alloc _⟩
def jkD(ops:Array Oper):Bool:=ops.toList.all fun o=>match o.op with | .defer _=>false | _=>true
theorem jrL(p q:Tmp)(x y:vV)(t:List vV):(#[p,q].zip #[x,y]).foldl (fun t (p,v)=>t.setIfInBounds p v) t.toArray=((t.set p x).set q y).toArray:=by simp
theorem jzb(p:Tmp)(x:vV)(t:List vV):(#[p].zip #[x]).foldl (fun t (p,v)=>t.setIfInBounds p v) t.toArray=(t.set p x).toArray:=by simp
def St(C:vW->Prop):Prop:=∀ W W',C W->Ext W W'->C W'
def jqK(P:Program)(l:Nat)(args:Array vV)(W:vW)(Ct Cf:vW->Prop):Prop:=
 YieldAt Fence.wide 0 P l args W fun e W'=>(e=.returned (.bool true)/\Ct W')\/(e=.returned (.bool false)/\Cf W')
def jqG(N:Nat)(C Cx:Nat->vW->Prop)(e:Ending)(W':vW):Prop:=(∃ v,e=.returned v)/\(C N W'\/∃ k,k<=N/\0 < k/\Cx k W')
def jtM(P:Program)(gf:FuncId)(lb:Array vV)(N:Nat)(vals:Nat->Array vV)(S:vW->Prop):Prop:=
 ∀ (l:Nat) (C:Nat->vW->Prop) (Cx:Nat->vW->Prop),(∀ k,St (C k))->(∀ k,St (Cx k))->(∀ k W,C k W->S W) ->
  ∀ W,(∀ k W',k < N->C k W'->jqK P l (vals k) W' (C (k+1)) (Cx (k+1)))->C 0 W ->
   CallsIn Fence.wide 0 P gf (#[.func (.yield l) #[] #[]]++lb) W (jqG N C Cx)
def jyB(g:Nat)(W:vW)(Ct:vW->Prop)(Cj:Code->vW->Prop):Exit->Act->vW->Prop
 | .normal,_,W'=>jae (fun b=>b≠g/\b≠g+1) W W'/\Ct W'
 | .ret,_,W'=>jae (fun b=>b≠g/\b≠g+1) W W'/\Cj .ret W'
 | .exit i,_,W'=>jae (fun b=>b≠g/\b≠g+1) W W'/\Cj (.exit i) W'
 | _,_,_=>False
theorem jez{P:Program}{g:Operand}{ps:Array Tmp}{assign body:Code}{Q:Exit->Act->vW->Prop}{a:Act}{w:vW}
  {gf:Nat} {lb:Array vV} (hg:a.eval g=.func (.func gf) #[] lb) (eg:∀ args w,(callFunc gf args).run P w=.ok (.enter gf args) w)
  {N:Nat} {vals:Nat->Array vV} {S:vW->Prop} (IS:jtM P gf lb N vals S)
  (hps:∀ k,(vals k).size=ps.size)
  (C:Nat->vW->Prop) (Cj:Code->Nat->vW->Prop) (hC:∀ k,St (C k)) (hCj:∀ c k,St (Cj c k)) (hS:∀ k W,C k W->S W)
  (hup:∀ k W o,C k W->C k (W.putObj w.heap.size o)) (hup1:∀ k W o,C k W->C k (W.putObj (w.heap.size+1) o)) (hupj:∀ c k W o,Cj c k W->Cj c k (W.putObj (w.heap.size+1) o))
  (h0:C 0 w) (a₁:Nat->Act)
  (hassign:∀ (l k:Nat) (W:vW) (K:Act->vW->Prop),K (a₁ k) W ->
   assign.wpIn (Fence.wide.inRound l) 0 P (Exit.then K (fun _ _ _=>False)) { tmps:=(ps.zip (vals k)).foldl (fun t (p,v)=>t.setIfInBounds p v) a.tmps,defers:=[] } W)
  (hbody:∀ (l k:Nat) (W:vW),k < N->C k W->w.heap.size+1 < W.heap.size->body.wpIn (Fence.wide.inRound l) 0 P (jyB w.heap.size W (C (k+1)) (fun c=>Cj c (k+1))) (a₁ k) W)
  (hdone:∀ (W:vW),C N W->Blk W w.heap.size (.deferred (some []))->Q .normal { a with defers:={ target:=.collected w.heap.size,args:=#[] } :: a.defers } W)
  (hstop:∀ (c:Code) (k:Nat) (W:vW),k<=N->0 < k->Cj c k W->Blk W w.heap.size (.deferred (some [])) ->
   c.wpIn Fence.wide 0 P Q { a with defers:={ target:=.collected w.heap.size,args:=#[] } :: a.defers } W) :
  (Code.rangeFunc g ps assign body).wpIn Fence.wide 0 P Q a w:=by
 refine wpIn_rangeFunc ?_;intro fn _;show ∃ l mark w₁ d w₁' f args w₂,(Instr.enterLoop fn a.tmps ps assign body none).run P w=_/\_
 obtain⟨m,A⟩:∃ m:LoopState->Option Code->Loop,m=fun st pe=>{ state:=st,pending:=pe,fn,tmps:=a.tmps,params:=ps,assign,body,defers:=w.heap.size }:=⟨_,rfl⟩
 obtain⟨J,O⟩:∃ J,(w.alloc (.deferred (some []))).alloc (.loop (m .ready none))=J:=⟨_,rfl⟩
 have a2:Blk J (w.heap.size+1) (.loop (m .ready none)):=by
  rw[<-O];have:=Blk.new (w.alloc (.deferred (some []))) (.loop (m .ready none));rwa [bR]at this
 have a3:Blk J w.heap.size (.deferred (some [])):=by
  rw[<-O];exact (Blk.new w _).alloc _
 have a4:Ext w J:=by rw[<-O];exact ((jae.refl _ w).alloc _).alloc _
 refine⟨w.heap.size+1,[{ target:=.collected w.heap.size,args:=#[] }],J,{ target:=.fn (.func gf) lb,args:=#[.func (.yield (w.heap.size+1)) #[] #[]] },J,gf,
  #[.func (.yield (w.heap.size+1)) #[] #[]]++lb,J,?_,?_,?_,?_,fun h=>by simp[Fence.wide]at h,?_⟩
 ·rw[<-O,A];exact run_enterLoop_outer _ _ _ _ _
 ·simp only[resolve,hg]
  simp[go_sem]
 ·intro f' _;trivial
 ·simp[invoke,go_sem,eg]
 ·let CC:Nat->vW->Prop:=fun k W=>C k W/\Blk W (w.heap.size+1) (.loop (m .ready none))/\Blk W w.heap.size (.deferred (some []))
  let CX:Nat->vW->Prop:=fun k W=>∃ c,Cj c k W/\Blk W (w.heap.size+1) (.loop (m .done (some c)))/\Blk W w.heap.size (.deferred (some []))
  have a5:=IS (w.heap.size+1) CC CX (fun k W E ⟨X,h2,H⟩ e=>⟨hC k _ _ X e,h2.keeps e (fun h=>h),H.keeps e (fun h=>h)⟩)
   (fun k W E ⟨c,X,h2,H⟩ e=>⟨c,hCj c k _ _ X e,h2.keeps e (fun h=>h),H.keeps e (fun h=>h)⟩) (fun k W h=>hS k W h.1) J ?_ ⟨hC 0 _ _ h0 a4,a2,a3⟩
  ·refine CallsIn.mono a5 ?_
   rintro e E ⟨⟨v,rfl⟩,a0⟩;rcases a0 with⟨X,H,h4⟩ |⟨k,hk1,hk2,c,X,H,h4⟩
   ·obtain⟨ox,he⟩:∃ ox,(Instr.endLoop (w.heap.size+1)).run P E=.ok none (E.putObj (w.heap.size+1) ox):=⟨_,(run_endLoop (r:=m .ready none) H (by rw[A];simp)).trans (by rw[A])⟩
    exact⟨none,_,he,hdone _ (hup1 N _ _ X) (h4.put_other vO _)⟩
   ·obtain⟨ox,he⟩:∃ ox,(Instr.endLoop (w.heap.size+1)).run P E=.ok (some c) (E.putObj (w.heap.size+1) ox):=⟨_,(run_endLoop (r:=m .done (some c)) H (by rw[A];simp)).trans (by rw[A])⟩
    exact⟨some c,_,he,hstop c k _ hk1 hk2 (hupj c k _ _ X) (h4.put_other vO _)⟩
  ·rintro k W hk ⟨X,H,h4⟩
   refine⟨_,_,_,_,run_yield H (by rw[A];exact hps k),?_⟩
   refine roundIn_of_wpIn trivial ?_;rw[show (m .ready none).tmps=a.tmps from by rw[A],show (m .ready none).params=ps from by rw[A],show (m .ready none).assign=assign from by rw[A],show (m .ready none).body=body from by rw[A]];refine hassign _ k W _ ?_
   refine⟨_,run_beginRound H (by rw[A]),?_⟩
   have a6:C k (W.putObj (w.heap.size+1) (.loop { m .ready none with state:=.busy })):=hup1 k _ _ X;refine Code.wpIn_mono ?_ (hbody (w.heap.size+1) k _ hk a6 (by rw[World.putObj_size];exact H.lt));have a1:∀ (j:Option Code) (E:vW),jae (fun b=>b≠w.heap.size/\b≠w.heap.size+1) (W.putObj (w.heap.size+1) (.loop { m .ready none with state:=.busy })) E ->
     (Instr.endRound (w.heap.size+1) j).run P E=.ok (.bool j.isNone) (E.putObj (w.heap.size+1) (.loop (m (if j.isNone then .ready else .done) j))) /\
     Blk (E.putObj (w.heap.size+1) (.loop (m (if j.isNone then .ready else .done) j))) (w.heap.size+1) (.loop (m (if j.isNone then .ready else .done) j)) /\
     Blk (E.putObj (w.heap.size+1) (.loop (m (if j.isNone then .ready else .done) j))) w.heap.size (.deferred (some [])):=by
    intro j E Z;have hl:Blk E (w.heap.size+1) (.loop { m .ready none with state:=.busy }):=(H.put_same _).keeps Z (fun h=>h.2 rfl);have hd:Blk E w.heap.size (.deferred (some [])):=(h4.put_other vO _).keeps Z (fun h=>h.1 rfl)
    refine⟨?_,hl.put_same _,hd.put_other vO _⟩
    rw[run_endRound j hl,A]
   intro e a' E hq;cases e with
   | normal =>
    obtain⟨Z,hc⟩:=hq
    obtain⟨f1,f2,f3⟩:=a1 none E Z
    exact⟨_,_,f1,.inl ⟨rfl,hup1 _ _ _ hc,f2,f3⟩⟩
   | ret =>
    obtain⟨Z,hc⟩:=hq
    obtain⟨f1,f2,f3⟩:=a1 (some .ret) E Z
    exact⟨_,_,f1,.inr ⟨rfl,.ret,hupj _ _ _ _ hc,f2,f3⟩⟩
   | exit i =>
    obtain⟨Z,hc⟩:=hq
    obtain⟨f1,f2,f3⟩:=a1 (some (.exit i)) E Z
    exact⟨_,_,f1,.inr ⟨rfl,.exit i,hupj _ _ _ _ hc,f2,f3⟩⟩
   | goto t=>exact hq.elim
   | panic ch=>exact hq.elim
   | outgrown=>exact hq.elim
theorem jeN{P:Program}{T e:TypeId}{n:Nat}(hu:P.underlying T=some (.array n e))(hs:(P.info? e).map (·.size)=some 1)(hag:∀ w,(isAgg e).run P w=.ok false w)(cs:List vV)(k:Nat)(hk:k < n)(x:vV)(hx:cs[k]?=some x)(w:vW) :
  (Instr.index T (.agg cs.toArray) (.int .i64 (k:Int))).run P w=.ok x w:=by
 obtain⟨i,o,A⟩:=dR.1 hs
 have m:(sizeOf e).run P w=.ok 1 w:=by simp[sizeOf,typeInfo,o,A]
 have E:(0:Int)<=(k:Int)/\(k:Int) < (n:Int):=vO
 simp only[Instr.index,asIntOf,cA,cR,Result.andThen,run_underlying hu];rw[if_pos E];simp only[cA,m,Result.andThen];simp[part,cA,hag,Result.andThen,hx,cR]
def jaw:Nat->vM->List (Nat × vB)
 | _,[]=>[]
 | i,r :: rs=>if r.size=0 then jaw (i+1) rs else (i,r) :: jaw (i+1) rs
def jad.refsL(n:jad):List (Nat × vB):=jaw 0 n.refs
theorem jdS:∀ (a b:vM) (i:Nat),jaw i (a++b)=jaw i a++jaw (i+a.length) b
 | [],b,i=>by simp[jaw]
 | x :: a,b,i=>by
  have h:=jdS a b (i+1);simp only[cZ,jaw,bP];rw[h,show i+1+a.length=i+(a.length+1) by omega];split <;> simp
section
attribute [local go_sem] Oper.semAt_some
theorem jbp{F:Fence}{n:Nat}{P:Program}{w:vW}{ops:Array Oper}{rest:List Oper}{o:Oper}{a:Act}{Q:Exit->Act->vW->Prop}(hg:o.guard=none)(t:TypeId)(x:Operand)(ho:o.op=.load t x)(v:vV)(p:Addr)(hx:a.eval x=.pointer (some p))
  (hr:(Instr.loadAt t (.pointer (some p))).run P w=.ok v w) (h:wpListIn F n P ops Q rest (a.put o.dst v) w):wpListIn F n P ops Q (o :: rest) a w:=by
 refine wpListIn_plain hg fun K e=>?_;unfold Oper.wpIn
 refine⟨?_,?_⟩
 ·simp[Oper.about,ho]
 ·rw[Oper.semAt_plain F _ _ (by rw[ho];intro c m;cases m)]
  simp only[execOp,ho,hx,cA,hr,Result.andThen,cR];exact e _ _ h
theorem Tryz.uRefs:Tryz.prog.underlying 108=some (.array 16 9):=vY
theorem Tryz.iRefs:(Tryz.prog.info? 108).map (·.size)=some 16:=vY
def jad.rv(n:jad)(k:Nat):Array vV:=#[.int .i64 (((n.refsL.getD k (0,⟨#[]⟩)).1:Nat):Int),.string (n.refsL.getD k (0,⟨#[]⟩)).2]
def jAp(W:vW)(b:Nat)(n:jad)(C:Nat->vW->Prop)(v:vV)(wr:vW):Prop:=∃ i:Nat,i<=16/\v=.int .i64 i/\C (jaw 0 (n.refs.take i)).length wr
theorem ji2(n:jad){i:Nat}{r:vB}(h:n.refs[i]?=some r):jaw 0 (n.refs.take (i+1))=jaw 0 (n.refs.take i)++(if r.size=0 then []else [(i,r)]):=by
 have e:=(bO.1 h).1;rw[bS,h,Option.toList_some,jdS]
 have:(n.refs.take i).length=i:=by simp;omega
 simp[jaw,this]
theorem jxD(n:jad){i:Nat}{r:vB}(h:n.refs[i]?=some r)(hr:r.size≠0):(jaw 0 (n.refs.take i)).length < n.refsL.length/\n.refsL.getD (jaw 0 (n.refs.take i)).length (0,⟨#[]⟩)=(i,r):=by
 have e:=ji2 n h;rw[if_neg hr]at e;have m:n.refsL=jaw 0 (n.refs.take i)++((i,r) :: jaw (0+(n.refs.take (i+1)).length) (n.refs.drop (i+1))):=by
  unfold jad.refsL
  conv=>lhs;rw[<-cQ (i+1) n.refs]
  rw[jdS,e,cB];rfl
 rw[m];constructor
 ·simp
 ·simp[bC]
theorem Tryz.strOne:(Tryz.prog.info? 9).map (·.size)=some 1:=vY
theorem Tryz.strAgg(w:vW):(isAgg 9).run Tryz.prog w=.ok false w:=vY
theorem jkT(b:Nat)(n:jad)(hr:n.refs.length=16):jtM Tryz.prog 133 #[.pointer (some ⟨b,0,none⟩)] n.refsL.length n.rv (fun W=>Blk W b (.cells n.cells.toArray 150)):=by
 intro l C Cx hC O hS W hY h0;have hB:=hS 0 W h0;have Q:W.rangeAt b 3 (n.refs.map Value.string):=fun j v hv=>hB.cellL (by
  unfold jad.cells;rw[show 3+j=j+3 by omega];simpa using hv)
 have X:=run_loadVar_mid (P:=Tryz.prog) W b 3 108 _ _ Q Tryz.uRefs rfl (by simp only[bU,hr];exact Tryz.iRefs);have Z:(Instr.loadAt 108 (.pointer (some ⟨b,3,none⟩))).run Tryz.prog W=.ok (.agg (n.refs.map Value.string).toArray) W:=by
  simp[Instr.loadAt,Instr.sureAddr,cA,Result.andThen,X]
 have HB:=Hd hB;have HY:=Hd hY;have H0:=Hd h0;have HR:=Hd hr;clear hB hY h0 Q X hr;refine callsIn_of_wp Tryz.func133 rfl trivial ?_ rfl;simp only[Tryz.ntmps133,dN,bP,dD,Nat.reduceAdd,Nat.reduceSub,dL,dK,dX,dP,cM,cZ];gi_wp2_with (refine jbp rfl 108 (.tmp 5) rfl _ _ rfl Z ?_)
 have b0:=Hd hC;have b1:=Hd O;have HS:=Hd hS;clear hC O hS Z;gi_loopw [7] (fun v wr=>jAp W b n C v wr) (fun v _=>16 - (intOf v).toNat)
 case atStart=>exact⟨0,by omega,rfl,by simpa [jaw]using H0.o⟩
 case round =>
  obtain⟨i,hi,rfl,a3⟩:=hrel
  have H:=Hd a3;clear a3
  by_cases hlt:i < 16
  ·obtain⟨r,A⟩:∃ r,n.refs[i]?=some r:=⟨_,bA (by have:=HR.o;omega)⟩
   have b2:(Instr.index 108 (.agg (n.refs.map Value.string).toArray) (.int .i64 (i:Int))).run Tryz.prog wr=.ok (.string r) wr:=jeN Tryz.uRefs Tryz.strOne Tryz.strAgg _ i hlt _ (by rw[bV,A];rfl) wr;have m:=ji2 n A
   by_cases hr0:r.size=0
   ·have a6:r=⟨#[]⟩:=by
     obtain⟨⟨l⟩⟩:=r
     cases l with
     | nil=>rfl
     | cons x y=>exact absurd hr0 (iA _)
    rw[if_pos hr0,cC]at m;subst a6;have a0:=Hd m;clear m A hr0;gi_wp2
    refine⟨(fun f h=>by cases h),?_⟩
    gi_wp2;go_roundw
    case rel=>exact⟨i+1,by omega,by go_num,by rw[a0.o];exact H.o⟩
    case measure=>exact vJ
   ·have E:=jxD n A hr0
    have b3:=jbe (s:=r) vO;rw[if_neg hr0]at m
    obtain⟨k,hk⟩:=vE (jaw 0 (n.refs.take i)).length
    rw[<-hk]at E H;have a4:n.rv k=#[.int .i64 (i:Int),.string r]:=by unfold jad.rv;rw[E.2]
    obtain⟨fn,tm,b4,bd,a7,a5⟩:=HY.o k wr E.1 H.o
    rw[a4]at a7;have J:(jaw 0 (n.refs.take (i+1))).length=k+1:=by rw[m,bF, <-hk];rfl
    have a1:=Hd J;have a8:=Hd E;have a9:=Hd a5;clear J E a5 m a4 hk A hr0;gi_wp2
    refine⟨rfl,a9.o.mono ?_⟩
    rintro e w5 (⟨rfl,C5⟩ |⟨rfl,C5⟩)
    ·have K:=Hd C5
     clear C5;gi_wp2;go_roundw
     case rel=>exact⟨i+1,by omega,by go_num,by rw[a1.o];exact K.o⟩
     case measure=>exact vJ
    ·have K:=Hd C5
     clear C5;gi_wp2;refine bodyPost_ret (results_none rfl _ _ _) rfl ?_
     exact⟨⟨_,rfl⟩,.inr ⟨k+1,a8.o.1,by omega,K.o⟩⟩
  ·have a2:i=16:=vO
   subst a2;gi_wp2;refine bodyPost_end (results_none rfl _ _ _) rfl ?_
   refine⟨⟨_,rfl⟩,.inl ?_⟩
   have h:=H.o;rw[bQ (by have:=HR.o;omega)]at h;exact h
def jf8(x:vB):Prop:=∀ y:vB,(x++y).size<=1000000000->∃ r,cutN (x++y)=some r/\r.2.1+r.2.2=x.size
theorem jwR(x:vB)(xs:vM):catB (x :: xs)=x++catB xs:=by
 apply ByteArray.ext;apply Array.ext';simp[catB,cW]
theorem jlI(x y:vB):(x++y).extract 0 x.size=x:=ByteArray.extract_append_eq_left rfl
theorem jit(x y:vB):(x++y).extract x.size (x++y).size=y:=ByteArray.extract_append_eq_right rfl (by rw[bY])
theorem jkj{s:vB}{r:Bool × Nat × Nat}(h:cutN s=some r):0 < s.size/\0 < r.2.1+r.2.2:=by
 unfold cutN at h
 by_cases h0:0 < s.size
 ·refine⟨h0,?_⟩
  rw[dif_pos h0]at h;simp only at h
  by_cases h1:s[0].toNat < 128
  ·rw[if_pos h1]at h
   obtain rfl:=bN h;simp
  ·rw[if_neg h1]at h
   obtain⟨o,e⟩:∃ o:Bool × Nat,o=if s[0].toNat < 192 then (false,s[0].toNat - 128)else (true,s[0].toNat - 192):=⟨_,rfl⟩
   rw[<-e]at h;clear e
   obtain⟨l,m⟩:=o
   simp only at h
   by_cases h3:m<=55
   ·rw[if_pos h3]at h
    split at h
    ·obtain rfl:=bN h;simp only;omega
    ·cases h
   ·rw[if_neg h3]at h
    split at h
    ·split at h
     ·obtain rfl:=bN h;simp only;omega
     ·cases h
    ·cases h
 ·rw[dif_neg h0]at h;cases h
theorem juo{xs:vM}{k:Nat}(h:k < xs.length):catB (xs.drop k)=xs[k]++catB (xs.drop (k+1)):=by
 rw[fP h,jwR]
def jjm:vV->Nat | .string b=>b.size | _=>0
def jwm(W:vW)(xs:vM)(C:Nat->vW->Prop)(v:vV)(wr:vW):Prop:=∃ k:Nat,k<=xs.length/\v=.string (catB (xs.drop k))/\C k wr
theorem jwY(b:Nat)(xs:vM)(hx:∀ x∈xs,jf8 x)(hs:(catB xs).size<=1000000000):jtM Tryz.prog 180 #[.pointer (some ⟨b,0,none⟩)] xs.length (fun k=>#[.string (xs.getD k ⟨#[]⟩),.nilIface]) (fun W=>Blk W b (.cells #[.string (catB xs)] 9)):=by
 intro l C Cx hC Z hS W hY h0;have hB:=(hS 0 W h0).cell (i:=0) (v:=.string (catB xs)) vF;have HY:=Hd hY;have H0:=Hd h0;have a6:=Hd hs;clear hY h0 hS hs;refine callsIn_of_wp Tryz.func180 rfl trivial ?_ rfl;simp only[Tryz.ntmps180,dN,bP,dD,Nat.reduceAdd,Nat.reduceSub,dL,dK,dX,dP,cM,cZ];gi_wp2;have a7:=Hd hC;have b6:=Hd Z;clear hC Z;gi_loopw [3] (fun v wr=>jwm W xs C v wr) (fun v _=>jjm v)
 case atStart=>exact⟨0,by omega,rfl,H0.o⟩
 case round =>
  obtain⟨k,hk,rfl,a0⟩:=hrel
  have a1:=Hd a0;clear a0
  by_cases hlt:k < xs.length
  ·obtain⟨x,A⟩:=vE (xs[k])
   have m:=juo hlt;rw[<-A]at m
   obtain⟨y,hy⟩:=vE (catB (xs.drop (k+1)))
   rw[<-hy]at m;have E:(x++y).size<=1000000000:=by
    have h1:(catB (xs.drop k)).size<=(catB xs).size:=by
     have h2:(catB xs).size=(catB (xs.take k)).size+(catB (xs.drop k)).size:=by
      conv=>lhs;rw[<-cQ k xs]
      simp only[catB,ByteArray.size,bZ,List.flatten_append,dN,bF]
     omega
    rw[m]at h1;have:=a6.o;omega
   obtain⟨r,J,K⟩:=hx x (A ▸ cY hlt) y E
   obtain⟨z,X⟩:=vE (x++y)
   have a2:z.size=x.size+y.size:=by rw[X,bY]
   rw[<-X]at m E J;rw[m];have H:=jkj J;have b7:=jbe H.1;have a3:z.extract (r.2.1+r.2.2) z.size=y:=by
    rw[K,X];exact jit x y
   have b8:z.extract 0 x.size=x:=by
    rw[X];exact jlI x y
   have a4:xs.getD k ⟨#[]⟩=x:=by rw[bC,bA hlt, <-A];rfl
   have a8:=Hd a4;have HX:=Hd A;have a9:=Hd E;have b0:=Hd hy;have HZ:=Hd X;have O:=Hd a2;have HP:=Hd H;have b2:=Hd K;clear A m hy X a4 H K a2;gi_wp2_with fail
   refine⟨trivial,rfl,CallsIn.mono (callsIn_wide.2 (jyZ wr z r E J)) ?_⟩
   rintro e w1 ⟨rfl,hE⟩;unfold jdF;rw[a3]
   obtain⟨u,hu⟩:=vE (z.extract r.2.1 (r.2.1+r.2.2))
   rw[<-hu]
   obtain⟨b1,o,ln⟩:=r
   simp only;clear J a3 hu E
   obtain⟨fn,tm,b9,bd,b3,a5⟩:=HY.o k w1 hlt (a7.o k _ _ a1.o hE)
   simp only[a8.o]at b3;have b4:=Hd a5;clear hE a5;have c1:(z.size:Int) - (y.size:Int)=(x.size:Int):=by have:=O.o;omega
   have c2:(x.size:Int)<=(z.size:Int):=by have:=O.o;omega
   have c3:z.size<=1000000000:=a9.o;gi_wp2
   refine⟨rfl,(b4.o.mono ?_)⟩
   rintro e w5 (⟨rfl,C5⟩ |⟨rfl,C5⟩)
   ·have Q:=Hd C5
    clear C5;gi_wp2;go_roundw
    case rel=>exact⟨k+1,by omega,by rw[<-b0.o],Q.o⟩
    case measure=>show y.size < z.size;have:=(show 0 < o+ln from HP.o.2);have:=O.o;have:=(show o+ln=x.size from b2.o);omega
   ·have Q:=Hd C5
    clear C5;gi_wp2;refine bodyPost_ret (results_none rfl _ _ _) rfl ?_
    exact⟨⟨_,rfl⟩,.inr ⟨k+1,by omega,by omega,Q.o⟩⟩
  ·have b5:k=xs.length:=vO
   subst b5;have hd:catB (xs.drop xs.length)=⟨#[]⟩:=by rw[gF];rfl
   rw[hd];gi_wp2;refine bodyPost_end (results_none rfl _ _ _) rfl ?_
   exact⟨⟨_,rfl⟩,.inl a1.o⟩
theorem jy3(w:vW)(s:vB):vQ 159 #[.string s] w fun e w'=>e=.returned (.func (.func 180) #[] #[.pointer (some ⟨w.heap.size,0,none⟩)])/\Blk w' w.heap.size (.cells #[.string s] 9)/\Ext w w':=by
 go_enter Tryz.func159,Tryz.ntmps159;go_wp2_with fail
 go_ret
 exact⟨rfl,Blk.new w _,(ExtR w).alloc _⟩
theorem Tryz.sStrs:jd3 Tryz.prog 30 9 1 16:=jd3.mk' vY (show (Tryz.prog.info? 9).map (fun i=>(i.zero,i.size,i.bytes))=some (some (.string ⟨#[]⟩),1,16) by kernel_rfl) rfl vI
end
theorem jo2(w:vW)(n:jad):vQ 95 #[n.V] w fun e w'=>e=.returned (.func (.func 133) #[] #[.pointer (some ⟨w.heap.size,0,none⟩)])/\Blk w' w.heap.size (.cells n.cells.toArray 150)/\Ext w w':=by
 unfold jad.V;go_enter Tryz.func95,Tryz.ntmps95;go_wp2_with fail
 go_ret
 exact⟨rfl,Blk.new w _,(ExtR w).alloc _⟩
theorem jqb(w:vW)(n:jad):vR 125 #[n.V] w (.string (jap ⟨#[]⟩)):=by
 unfold jad.V;go_enter Tryz.func125,Tryz.ntmps125;go_wp2_with fail
 refine vH (jew _ ⟨#[]⟩ vI) fun w1 e=>?_;have m:Hid (Ext w w1):=Hd (((ExtR w).alloc _).trans e);go_wp2_with fail
 go_ret
 exact⟨rfl,m.o⟩
section
attribute [local go_sem] Oper.semAt_some
theorem jfF(w:vW)(s:vB)(hs:s.size<=1000000000):vQ 164 #[.string s] w fun e w'=>e=.returned (.bool (jaz s))/\w'=w:=by
 go_enter Tryz.func164,Tryz.ntmps164;go_wp2;go_loop [3] (fun i=>∃ k:Nat,k<=s.size/\i=.int .i64 k/\(s.data.toList.take k).all (·<=15)=true) (fun i=>s.size - (intOf i).toNat)
 case atStart=>exact⟨0,cD _,rfl,rfl⟩
 case round =>
  obtain⟨k,hk,rfl,A⟩:=hrel
  by_cases hlt:k < s.size
  ·have m:=jnV s hlt (·<=15)
   rw[A]at m;have J:=Hd m;clear m;go_wp2
   ·have K:15 < (s[k].toNat:Int):=by assumption
    go_ret
    refine⟨?_,rfl⟩
    have O:decide (s[k]<=15)=false:=by
     simp only[decide_eq_false_iff_not,dS]
     have:(15:vU).toNat=15:=rfl
     omega
    have Q:jaz s=false:=by
     have E:=J.o;simp only[O,iM]at E;unfold jaz;rw[<-cQ (k+1) s.data.toList,iZ,E];rfl
    rw[Q];rfl
   ·have X:(s[k].toNat:Int)<=15:=by assumption
    have Z:decide (s[k]<=15)=true:=by
     simp only[decide_eq_true_eq,dS]
     have:(15:vU).toNat=15:=rfl
     omega
    have E:=J.o;simp only[Z,Bool.and_true]at E;go_round
    case rel=>exact⟨k+1,by omega,by go_num,E⟩
    case measure=>exact vJ
  ·have H:k=s.size:=vO
   have hv:jaz s=true:=by
    unfold jaz;rw[<-A,H,bQ]
    simp
   go_wp2;go_ret
   exact⟨rfl,rfl⟩
def jAl(w:vW)(p:vB)(v i:vV)(wr:vW):Prop:=∃ k:Nat,2 * k<=p.size/\i=.int .i64 (2 * (k:Int))/\v=.string ⟨((jcv p.data.toList).take k).toArray⟩/\Ext w wr
theorem jAN(x y:vU)(hx:x.toNat<=15)(hy:y.toNat<=15):((x.toNat:Int) * (16:Int)+(y.toNat:Int)) % (256:Int)=((x <<< 4 ||| y).toNat:Int):=by
 have:∀ f g:Fin 16,((f.1:Int) * (16:Int)+(g.1:Int)) % (256:Int)=(((UInt8.ofNat f.1) <<< 4 |||(UInt8.ofNat g.1)).toNat:Int):=by decide +kernel
 have h:=this ⟨x.toNat,by omega⟩ ⟨y.toNat,by omega⟩;simpa using h
theorem jpo{p:vB}(h:jaz p=true){k:Nat}(hk:k < p.size):p[k].toNat<=15:=by
 have:=fG.1 h p[k] (by
  have e:p[k]=p.data.toList[k]'hk:=rfl;rw[e];exact cY _)
 have:=of_decide_eq_true this
 exact dS.1 this
theorem jkU(w:vW)(p:vB)(hs:p.size<=1000000)(h2:p.size % 2=0)(hv:jaz p=true):vR 167 #[.string p] w (.tuple #[.string (jbD p),.bool true]):=by
 have e1:(p.size:Int) % 2=0:=vO
 have Q:=Hd hv;have X:=Hd h2
 obtain⟨R,Z⟩:=vE (jbD p)
 have HR:=Hd Z;rw[<-Z];clear Z hv h2;go_enter Tryz.func167,Tryz.ntmps167;go_wp2_with fail
 refine vC (jfF _ p vO) fun w1 a0=>?_;rw[Q.o];subst a0;go_wp2_with fail
 go_loopw [4,5] (fun v i wr=>jAl w1 p v i wr) (fun _ i _=>p.size - (intOf i).toNat)
 case atStart=>exact⟨0,by omega,rfl,rfl,ExtR w1⟩
 case round =>
  obtain⟨k,hk,rfl,rfl,hE⟩:=hrel
  have HE:=Hd hE;clear hE
  by_cases hlt:2 * k+1 < p.size
  ·have b1:2 * (k:Int)+1 < (p.size:Int):=vO
   obtain⟨m,J⟩:=vE (2 * k)
   have A:2 * (k:Int)=(m:Int):=vO
   rw[A]at b1 ⊢;have a1:m+1 < p.size:=vO
   have a2:m < p.size:=vO
   have b2:(m:Int) < (p.size:Int):=vO
   have b3:(0:Int)<=(m:Int)+1:=vO
   obtain⟨t,O⟩:=vE ((jcv p.data.toList).take k)
   rw[<-O];have HT:=Hd O;have HM:=Hd (bB J A);have a8:t.length<=1000000:=by rw[O,cL,jdR];have:p.data.toList.length=p.size:=rfl;omega
   clear O J A;go_wp2_with fail
   refine jaJ [0,1,2,3,4,5,6,7,8,9,10,11,12,13] [10] Ext Ext ExtR ExtT (fun x y z h k=>h.trans k) (fun x y h=>h) vY vY vY ?_;iterate 10 refine vD ?_
   refine qDH _ rfl (fun w2 H K hK=>?_);have a3:=Hd (show Ext wr w2 from(jai _).trans H);clear H;go_simp;refine hK _ _ ((ExtR w2).alloc _) ?_;clear hK K
   obtain⟨bb,E⟩:=vE (p[m] <<< 4 ||| p[m+1])
   have a4:=Hd E;rw[jAN p[m] p[m+1] (jpo Q.o a2) (jpo Q.o a1), <-E];clear E;refine qDV _ (.string ⟨[bb].toArray⟩) rfl (fun w3 h3=>jfz (n:=1) (xs:=[bb]) rfl vY h3 (fun f=>f) vI) ?_;refine vS ?_
   obtain⟨t2,e⟩:=vE ([bb])
   rw[<-e];have a9:t2.length=1:=by rw[e];rfl
   have a5:=Hd e;have b5:¬(9223372036854775807 < (⟨t.toArray⟩:vB).size+(⟨t2.toArray⟩:vB).size):=by show ¬(_ < t.length+t2.length);omega
   clear e;iterate 2 refine vD ?_
   refine qDE (fun w6 H=>?_);have a6:=Hd (HE.o.trans ((a3.o.alloc _).trans H));clear H;go_wp2_with fail
   go_roundw
   case rel =>
    refine⟨k+1,by omega,by have:=HM.o.2;simp only[Value.int.injEq,true_and];omega,?_,a6.o⟩
    rw[jhw,HT.o,a5.o,a4.o,bS];have hg:=jiP p.data.toList k (by have:p.data.toList.length=p.size:=rfl;omega);rw[hg];have J:=HM.o.1;subst J;rfl
   case measure=>exact vJ
  ·have a7:2 * k=p.size:=by have:=X.o;omega
   have HF:=Hd (show (⟨((jcv p.data.toList).take k).toArray⟩:vB)=R by
    rw[HR.o,bQ (by rw[jdR];have:p.data.toList.length=p.size:=rfl;omega)];rfl)
   rw[HF.o];have b1:¬ 2 * (k:Int)+1 < (p.size:Int):=vO
   clear a7 hlt;go_wp2_with fail
   go_ret2
   exact⟨rfl,HE.o⟩
theorem jfH{b:vU}{p:vB}(hb:b<=15)(h:jaz p=true):jaz ((⟨#[b]⟩:vB)++p)=true:=by
 unfold jaz at *;have e:((⟨#[b]⟩:vB)++p).data.toList=b :: p.data.toList:=by rw[cW];simp
 rw[e,List.all_cons,h,Bool.and_true];exact decide_eq_true hb
theorem jxy{p:vB}{leaf:Bool}{fb:vU}(h:p.size % 2=1)(hf:fb=jd6 leaf true):jbD ((⟨#[fb]⟩:vB)++p)=putB p leaf:=by
 have e:oddB p=true:=by unfold oddB;rw[h];rfl
 unfold putB jce;rw[e, <-hf,if_pos rfl]
 congr 1
theorem jvf{p:vB}{leaf:Bool}{fb:vU}(h:p.size % 2=0)(hf:fb=jd6 leaf false):jbD ((⟨#[fb]⟩:vB)++⟨#[0]⟩++p)=putB p leaf:=by
 have e:oddB p=false:=by unfold oddB;rw[h];rfl
 unfold putB jce;rw[e, <-hf,if_neg vI]
 congr 1
theorem jmw(w:vW)(p:vB)(leaf:Bool)(hs:p.size<=900000)(hv:jaz p=true):vR 145 #[.string p,.bool leaf] w (.tuple #[.string (putB p leaf),.bool true]):=by
 have HV:=Hd hv;clear hv
 by_cases h2:p.size % 2=0
 ·have e1:(p.size:Int) % 2=0:=vO
  obtain⟨E,e⟩:∃ E:vU,E=jd6 leaf false:=⟨_,rfl⟩
  have hp:=jvf (p:=p) h2 e;have O:=jfH (b:=E) (by rw[e];cases leaf <;> decide) (jfH (b:=0) vI HV.o);have Q:((⟨#[E]⟩:vB)++⟨#[0]⟩++p).size=p.size+2:=by rw[bY,bY];show 1+1+p.size=_;omega
  have HP:=Hd hp;have X:=Hd (show jaz ((⟨#[E]⟩:vB)++⟨#[0]⟩++p)=true by rw[ByteArray.append_assoc];exact O);have m:=Hd Q;have Z:=Tryz.run_lit1 w E;have a0:=Tryz.run_lit1 (w.alloc (.cells #[.int .u8 (E.toNat:Int)] 5)) 0;rw[bR,show (((0:vU).toNat:Nat):Int)=0 from rfl]at a0;have A:(E.toNat:Int)=if leaf then 2 else 0:=by rw[e];cases leaf <;> decide
  have b5:¬(9223372036854775807 < ((⟨#[E]⟩:vB)++⟨#[0]⟩).size+p.size):=by rw[bY];show ¬(_ < 1+1+p.size);omega
  have b6:¬(9223372036854775807 < (⟨#[E]⟩:vB).size+(⟨#[0]⟩:vB).size):=by show ¬(_ < 1+1);omega
  clear hp O Q h2 e;cases leaf with
  | true =>
   rw[if_pos rfl]at A;rw[A]at Z a0;go_enter Tryz.func145,Tryz.ntmps145;go_wp2_with fail
   refine vC (jfF _ p vO) fun w1 H=>?_;rw[HV.o];subst H;go_wp2_with fail
   refine vH (jkU _ _ (by rw[m.o];omega) (by rw[m.o];omega) X.o) fun w5 J=>?_;rw[HP.o];have K:=Hd ((((ExtR _).alloc _).alloc _).trans J);go_wp2_with fail
   go_ret2
   exact⟨rfl,K.o⟩
  | false =>
   rw[if_neg vI]at A;rw[A]at Z a0;go_enter Tryz.func145,Tryz.ntmps145;go_wp2_with fail
   refine vC (jfF _ p vO) fun w1 H=>?_;rw[HV.o];subst H;go_wp2_with fail
   refine vH (jkU _ _ (by rw[m.o];omega) (by rw[m.o];omega) X.o) fun w5 J=>?_;rw[HP.o];have K:=Hd ((((ExtR _).alloc _).alloc _).trans J);go_wp2_with fail
   go_ret2
   exact⟨rfl,K.o⟩
 ·have e1:(p.size:Int) % 2=1:=vO
  have h1:p.size % 2=1:=vO
  obtain⟨E,e⟩:∃ E:vU,E=jd6 leaf true:=⟨_,rfl⟩
  have hp:=jxy (p:=p) h1 e;have O:=jfH (b:=E) (by rw[e];cases leaf <;> decide) HV.o;have Q:((⟨#[E]⟩:vB)++p).size=p.size+1:=by rw[bY];show 1+p.size=_;omega
  have HP:=Hd hp;have X:=Hd O;have m:=Hd Q;have Z:=Tryz.run_lit1 w E;have A:(E.toNat:Int)=if leaf then 3 else 1:=by rw[e];cases leaf <;> decide
  have b5:¬(9223372036854775807 < (⟨#[E]⟩:vB).size+p.size):=by show ¬(_ < 1+p.size);omega
  clear hp O Q h2 e h1;cases leaf with
  | true =>
   rw[if_pos rfl]at A;rw[A]at Z;go_enter Tryz.func145,Tryz.ntmps145;go_wp2_with fail
   refine vC (jfF _ p vO) fun w1 H=>?_;rw[HV.o];subst H;go_wp2_with fail
   refine vH (jkU _ _ (by rw[m.o];omega) (by rw[m.o];omega) X.o) fun w5 J=>?_;rw[HP.o];have K:=Hd (((ExtR _).alloc _).trans J);go_wp2_with fail
   go_ret2
   exact⟨rfl,K.o⟩
  | false =>
   rw[if_neg vI]at A;rw[A]at Z;go_enter Tryz.func145,Tryz.ntmps145;go_wp2_with fail
   refine vC (jfF _ p vO) fun w1 H=>?_;rw[HV.o];subst H;go_wp2_with fail
   refine vH (jkU _ _ (by rw[m.o];omega) (by rw[m.o];omega) X.o) fun w5 J=>?_;rw[HP.o];have K:=Hd (((ExtR _).alloc _).trans J);go_wp2_with fail
   go_ret2
   exact⟨rfl,K.o⟩
end
end Go.Proofs.YtegloohdmjadoaaGreatDoor
