/- Lemmas; each is under no condition but those that it states. -/
import Derived.Test.YtfjmkebdhojanaaGreatDoorPt30
namespace Go.Proofs.YtfjmkebdhojanaaGreatDoor
set_option linter.unusedSimpArgs false
set_option linter.unusedVariables false
set_option maxRecDepth 100000
set_option maxHeartbeats 16000000
open Go Go.RowKit
section
attribute [local go_sem] Oper.semAt_some
def Of3R(w:vW)(P:vN)(hv iv:vV)(wr:vW):Prop:=∃ (j b c:Nat),64 * j<=P.length/\iv=.int .i64 ((64 * j:Nat):Int)/\hv=.slice (some ⟨b,0,none⟩) 8 c/\(∀ i u,((hBlk jjV P j).words.map wv)[i]?=some u->wr.cell? ⟨b,i,none⟩=some u)/\Ext w wr
def Of3S(w:vW)(V:W8)(ov iv:vV)(wr:vW):Prop:=∃ k:Nat,k<=8/\iv=.int .i64 k/\ov=.string ⟨(outL (V.words.take k)).toArray⟩/\Ext w wr
theorem jAu(w:vW)(s:vB)(hs:s.size<=1000000):vR 30 #[.string s] w (.string (shaB s)):=by
 have HS:=Hd hs
 obtain⟨P,hP⟩:=vE (padL s.data.toList)
 have hl:s.data.toList.length=s.size:=rfl;have a8:P.length % 64=0:=by rw[hP];exact jtm _
 have a9:P.length<=1000100:=by rw[hP,jkY];have:=joA s.data.toList.length;omega
 have b3:0 < P.length:=by rw[hP,jkY];omega
 have HP:=Hd (show shaB s=⟨(outL (hBlk jjV P (P.length / 64)).words).toArray⟩ by rw[hP];exact jyy _);have a2:=Hd (bB a8 (bB a9 b3));have a7:=jwT w s.data.toList hs;clear hs hl a8 a9 b3;unfold vR vQ;go_in;go_wp2_with fail
 refine (jwo w).mono ?_;rintro e w1 ⟨b1,b2,rfl,X,h2,d5,Z,b4,b6⟩;have c3:=Hd Z;have c4:=Hd b4;have c5:=Hd b6;clear Z b4 b6 a7;go_wp2_with fail
 refine vH (jwT w1 s.data.toList HS.o) fun w2 E=>?_;have c6:=Hd (c3.o.trans E);rw[show padZ s.data.toList (zPad s.data.toList.length)++lenL (UInt64.ofNat s.data.toList.length)=P from hP.symm]
 obtain⟨J,O⟩:∃ J:vB,J=⟨P.toArray⟩:=⟨_,rfl⟩
 have a3:=Hd (bB (show J.size=P.length by rw[O];rfl) O);rw[<-O];clear hP O;go_wp2_with fail
 go_loopw [3,6] (fun hv iv wr=>Of3R w2 P hv iv wr) (fun _ iv _=>P.length+64 - (intOf iv).toNat)
 case atStart=>exact⟨0,b1,8,by omega,rfl,rfl,fun i u hi=>jaa (c4.o.cellL hi) E.o,ExtR w2⟩
 case round =>
  obtain⟨j,b,c,hj,rfl,rfl,H,Z⟩:=hrel
  have A:=Hd H;have HE:=Hd Z;clear H Z
  obtain⟨m,hm⟩:=vE (64 * j)
  have HM:=Hd hm;rw[<-hm]at hj ⊢;have b7:=a3.o.1;have a0:=a2.o.1;have b8:=a2.o.2.1
  by_cases hlt:m < P.length
  ·have b0:(m:Int) < (J.size:Int):=vO
   have a1:wrap64 ((m:Int)+64)=((m+64:Nat):Int):=by unfold wrap64;omega
   have b5:m+64<=J.size:=vO
   have hx:(J.extract m (m+64)).data.toList=(P.drop (64 * j)).take 64:=by
    rw[a3.o.2, <-hm,dB,fM,dZ]
    congr 1;omega
   have b9:(J.extract m (m+64)).size=64:=by rw[cJ];omega
   have HX:=Hd (bB hx b9);clear hm b7 a0 b8 hx b9;go_wp2_with fail
   obtain⟨sb,c0⟩:=vE (J.extract m (m+64))
   rw[<-c0]at HX ⊢;clear c0;refine (jvV wr b b2 c (hBlk jjV P j) sb HX.o.2 A.o (c5.o.keeps (E.o.trans HE.o) (fun h=>h))).mono ?_;rintro e w5 ⟨g,c',rfl,_,a4,c1⟩;rw[HX.o.1]at a4;have c7:=Hd a4;have c8:=Hd (HE.o.trans c1);clear a4 c1;go_wp2_with fail
   go_roundw
   case rel=>exact⟨j+1,g,c',by have:=HM.o;have:=a2.o;omega,by have:=HM.o;rw[show 64 * (j+1)=m+64 by omega,a1],rfl,c7.o,c8.o⟩
   case measure =>
    rw[a1];show P.length+64 - ((m+64:Nat):Int).toNat < P.length+64 - (m:Int).toNat;omega
  ·have c2:P.length / 64=j:=by have:=HM.o;omega
   have HR:=Hd HP.o;rw[c2]at HR
   obtain⟨V,hV⟩:=vE (hBlk jjV P j)
   rw[<-hV]at HR A;have c9:=Hd (c6.o.trans HE.o);clear hV c2 hm b7 a0 b8;have b0:¬(m:Int) < (J.size:Int):=by have:=a3.o.1;omega
   go_wp2_with fail
   obtain⟨W2,rfl⟩:=vE wr
   go_loopw [7,8] (fun ov iv wr=>Of3S W2 V ov iv wr) (fun _ iv _=>8 - (intOf iv).toNat)
   case atStart=>exact⟨0,by omega,rfl,rfl,ExtR W2⟩
   case round =>
    obtain⟨k,hk,rfl,rfl,Z⟩:=hrel
    have a5:=Hd Z;clear Z
    by_cases hlt:k < 8
    ·have b1:(k:Int) < 8:=vO
     obtain⟨x,hx⟩:∃ x,V.words[k]?=some x:=⟨_,bA hlt⟩
     have Q1:=Hd (show wr.cell? ⟨b,k,none⟩=some (wv x)from jaa (A.o k (wv x) (by rw[bX,hx];rfl)) a5.o);have a6:=Hd (show outL (V.words.take (k+1))=outL (V.words.take k)++jgX x by
      rw[bW,hx];unfold outL;simp)
     have d3:∀ (p:UInt32) (w:vW),(binOp .shr 119 (wv p) (.int .u64 24)).run Tryz.prog w=.ok (wv (shrW p 24)) w:=fun _ _=>jdd 24 vI .u64;have d4:∀ (p:UInt32) (w:vW),(binOp .shr 119 (wv p) (.int .u64 16)).run Tryz.prog w=.ok (wv (shrW p 16)) w:=fun _ _=>jdd 16 vI .u64;have d6:∀ (p:UInt32) (w:vW),(binOp .shr 119 (wv p) (.int .u64 8)).run Tryz.prog w=.ok (wv (shrW p 8)) w:=fun _ _=>jdd 8 vI .u64;have d7:∀ (p:UInt32) (w:vW),(convert 119 5 (wv p)).run Tryz.prog w=.ok (.int .u8 ((jnI p).toNat:Int)) w:=fun p w=>Tryz.run_byteW p w
     obtain⟨T,hT⟩:=vE (outL (V.words.take k))
     have d8:T.length<=28:=by
      have:∀ W:List UInt32,(outL W).length=4 * W.length:=fun W=>by
       induction W with
       | nil=>rfl
       | cons y r ih=>show (jgX y++outL r).length=_;rw[bC,ih];show 4+_=4 * (r.length+1);omega
      rw[hT,this,cI];omega
     rw[<-hT]at a6 ⊢;clear hx hT;go_wp2_with fail
     refine jaC [0,1,2,3,4,5,6,7,8,9,10,11,12,13,14,15,16,17,18,19,20,21,22,23,24,25,26,27] [24] Ext Ext ExtR ExtT ExtT (fun _ _ h=>h) vY vY vY ?_
     refine vD ?_
     iterate 3 refine vD ?_
     refine qDL ⟨b,k,none⟩ _ rfl (fun w1 X=>jab Tryz.uU32 rfl (jaa Q1.o ((jai wr).trans X))) ?_;refine vS ?_;iterate 2 refine vD ?_
     iterate 3 refine vD ?_
     refine qDL ⟨b,k,none⟩ _ rfl (fun w1 X=>jab Tryz.uU32 rfl (jaa Q1.o ((jai wr).trans X))) ?_;refine vS ?_;iterate 2 refine vD ?_
     iterate 3 refine vD ?_
     refine qDL ⟨b,k,none⟩ _ rfl (fun w1 X=>jab Tryz.uU32 rfl (jaa Q1.o ((jai wr).trans X))) ?_;refine vS ?_;iterate 2 refine vD ?_
     iterate 3 refine vD ?_
     refine qDL ⟨b,k,none⟩ _ rfl (fun w1 X=>jab Tryz.uU32 rfl (jaa Q1.o ((jai wr).trans X))) ?_;refine vS ?_
     refine vD ?_
     refine qDH _ rfl (fun w2 he K hK=>?_);have E:=Hd (show Ext wr w2 from(jai _).trans he);clear he;go_simp;refine hK _ _ ((ExtR w2).alloc _) ?_;clear hK K;refine qDV _ (.string ⟨(jgX x).toArray⟩) rfl (fun w3 h3=>jfH (n:=4) (xs:=jgX x) rfl vY h3 (fun f=>f) vI) ?_;refine vS ?_
     obtain⟨t2,Q⟩:=vE (jgX x)
     have d9:t2.length=4:=by rw[Q];rfl
     have e0:=Hd Q;rw[<-Q]at a6 ⊢;have b5:¬(9223372036854775807 < (⟨T.toArray⟩:vB).size+(⟨t2.toArray⟩:vB).size):=by show ¬(_ < T.length+t2.length);omega
     clear Q;iterate 2 refine vD ?_
     refine qDE (fun w6 he=>?_);have d0:=Hd (a5.o.trans ((E.o.alloc _).trans he));clear he;go_wp2_with fail
     go_roundw
     case rel=>exact⟨k+1,by omega,by go_num,by rw[jhD,a6.o],d0.o⟩
     case measure=>exact vJ
    ·have d1:k=8:=vO
     subst d1;have d2:Hid ((⟨(outL (V.words.take 8)).toArray⟩:vB)=shaB s):=HR.o.symm;rw[d2.o]
     obtain⟨z,hz⟩:=vE (shaB s)
     rw[<-hz];go_wp2_with fail
     go_ret
     exact⟨congrArg (fun q=>Ending.returned (Value.string q)) hz,c9.o.trans a5.o⟩
theorem jz4(n:Nat):(n:Int) % (256:Int)=((UInt8.ofNat n).toNat:Int):=by
 rw[fD];omega
def leB(k n:Nat):vB:=⟨(leF k n).reverse.toArray⟩
theorem jvW:∀ (k:Nat) (w:vW) (n:Nat),k<=8->n < 256 ^ k->vR 184 #[.int .u64 n] w (.string (leB k n)):=by
 intro k;induction k with
 | zero =>
  intro w n _ H;have E:n=0:=by simpa using H
  subst E;go_enter Tryz.func184,Tryz.ntmps184;go_wp2_with fail
  go_ret
  exact⟨rfl,ExtR w⟩
 | succ k ih =>
  intro w n hk H
  by_cases E:n=0
  ·subst E
   go_enter Tryz.func184,Tryz.ntmps184;go_wp2_with fail
   go_ret
   exact⟨by unfold leB leF;simp,ExtR w⟩
  have hz:((n:Int) == 0)=false:=by simpa using E
  have hb:n < 18446744073709551616:=bQ H (bJ (Nat.pow_le_pow_right vI (by omega:k+1<=8)) vI);have A:=Hd (fun w1=>ih w1 (n / 256) vO (by rw[Nat.pow_succ]at H;omega));rw[show ((n / 256:Nat):Int)=(n:Int) / (256:Int)from rfl]at A
  obtain⟨r,Q⟩:=vE (leB k (n / 256))
  have HR:=Hd (show leB (k+1) n=⟨(r.data.toList++[UInt8.ofNat n]).toArray⟩ by
   rw[Q];unfold leB;rw[leF,if_neg E];simp)
  rw[<-Q]at A;rw[HR.o];have a2:r.size<=8:=by rw[Q];unfold leB;show (leF k (n / 256)).reverse.length<=8;rw[fJ];have:=jhp k (n / 256);omega
  clear ih Q E H;go_enter Tryz.func184,Tryz.ntmps184;go_wp2_with fail
  refine jaC [0,1,2,3,4,5,6,7,8,9] [6] Ext Ext ExtR ExtT (fun x y z h k=>h.trans k) (fun x y h=>h) vY vY vY ?_;iterate 2 refine vD ?_
  refine jiP _ 184 #[.int .u64 ((n:Int) / (256:Int))] (.string r) rfl vY rfl (fun w1=>jat (vX 184) vY) (fun w1 _=>A.o w1) ?_;refine vS ?_;iterate 3 refine vD ?_
  refine qDH _ rfl (fun w2 J K hK=>?_);have X:=Hd (show Ext w w2 from(jai _).trans J);clear J;go_simp;refine hK _ _ ((ExtR w2).alloc _) ?_;clear hK K;rw[jz4]
  obtain⟨O,e⟩:=vE ([UInt8.ofNat n])
  refine qDV _ (.string ⟨[UInt8.ofNat n].toArray⟩) rfl (fun w3 h3=>jfH (n:=1) (xs:=[UInt8.ofNat n]) rfl vY h3 (fun f=>f) vI) ?_;refine vS ?_;rw[<-e];have a3:O.length=1:=by rw[e];rfl
  have b5:¬(9223372036854775807 < r.size+(⟨O.toArray⟩:vB).size):=by show ¬(_ < r.size+O.length);omega
  have Z:=Hd e;clear e;iterate 2 refine vD ?_
  refine qDE (fun w6 J=>?_);have a0:=Hd ((X.o.alloc _).trans J);clear J;go_wp2_with fail
  go_ret;have a1:r++(⟨O.toArray⟩:vB)=⟨(r.data.toList++[UInt8.ofNat n]).toArray⟩:=(jhD r.data.toList O).trans (by rw[Z.o])
  exact⟨congrArg (fun s=>Ending.returned (Value.string s)) a1,a0.o⟩
theorem joq(w:vW)(b:vB)(B:Nat)(hB:B=128\/B=192)(hs:b.size<=1000000):vR 171 #[.string b,.int .i64 B] w (.string (jb9 (UInt8.ofNat B) b.size++b)):=by
 have a0 : -9223372036854775808<=(B:Int)+(b.size:Int):=vO
 have a1:(B:Int)+(b.size:Int)<=9223372036854775807:=vO
 by_cases h55:b.size<=55
 ·have c1:(b.size:Int)<=55:=vO
  obtain⟨E,A⟩:∃ E:vU,E=UInt8.ofNat B+UInt8.ofNat b.size:=⟨_,rfl⟩
  have K:jb9 (UInt8.ofNat B) b.size=⟨#[E]⟩:=by unfold jb9;rw[if_pos h55,A]
  rw[K];have H:((B:Int)+(b.size:Int))=(E.toNat:Int):=by
   rw[A,iY,fD,fD];omega
  have J:=jb8 w E;rw[<-H]at J;have b5:¬(9223372036854775807 < (⟨#[E]⟩:vB).size+b.size):=by show ¬(_ < 1+b.size);omega
  clear h55 A K H;unfold vR vQ;go_in;go_wp2_with fail
  go_ret
  exact⟨rfl,(ExtR w).alloc _⟩
 ·have c1:¬(b.size:Int)<=55:=vO
  obtain⟨d,O⟩:=vE (jcY b.size)
  have a2:d.size<=8:=by rw[O];show (leF 8 b.size).reverse.length<=8;rw[fJ];exact jhp 8 b.size
  obtain⟨E,A⟩:∃ E:vU,E=UInt8.ofNat B+55+UInt8.ofNat d.size:=⟨_,rfl⟩
  have K:jb9 (UInt8.ofNat B) b.size=⟨#[E]⟩++d:=by unfold jb9;rw[if_neg h55,A,O]
  rw[K];have H:((B:Int)+55+(d.size:Int))=(E.toNat:Int):=by
   rw[A,iY,iY,fD,fD,show (55:vU).toNat=55 from rfl];omega
  have Q:Hid (∀ w1,vQ 184 #[.int .u64 (b.size:Int)] w1 fun e w'=>e=.returned (.string d)/\Ext w1 w'):=(fun w1=>by rw[O];exact jvW 8 w1 b.size (bL _) (Nat.lt_of_le_of_lt hs vI));have a3 : -9223372036854775808<=(B:Int)+55:=vO
  have a4:(B:Int)+55<=9223372036854775807:=vO
  have a5 : -9223372036854775808<=(B:Int)+55+(d.size:Int):=vO
  have a6:(B:Int)+55+(d.size:Int)<=9223372036854775807:=vO
  have b5:¬(9223372036854775807 < (⟨#[E]⟩:vB).size+d.size):=by show ¬(_ < 1+d.size);omega
  have b6:¬(9223372036854775807 < ((⟨#[E]⟩:vB)++d).size+b.size):=by rw[bV];show ¬(_ < 1+d.size+b.size);omega
  have X:=Hd H;clear h55 A K O H;unfold vR vQ;go_in;go_wp2_with fail
  refine vC (Q.o w) fun w1 Z=>?_;have J:=jb8 w1 E;rw[<-X.o]at J;have HE:=Hd (Z.alloc (.cells #[.int .u8 ((B:Int)+55+(d.size:Int))] 5));clear Z;go_wp2_with fail
  go_ret
  exact⟨rfl,HE.o⟩
theorem jeg(w:vW)(b:vB)(hs:b.size<=1000000):vR 156 #[.string b] w (.string (jao b)):=by
 by_cases h1:b.size=1
 ·have O:0 < b.size:=vO
  have Z:(0:Int) < (b.size:Int):=vO
  have Q:((b.size:Int) == 1)=true:=by rw[h1];rfl
  have E:b.data.toList.headD 255=b[0]:=by
   obtain⟨⟨l⟩⟩:=b
   cases l with
   | nil=>cases O
   | cons x r=>rfl
  by_cases h2:b[0] < 128
  ·have X:(b[0].toNat:Int) < 128:=by have:=dE.1 h2;have:(128:vU).toNat=128:=rfl;omega
   rw[show jao b=b by unfold jao;rw[if_pos ⟨h1,by rw[E];exact h2⟩]];clear h1 h2 E;unfold vR vQ;go_in;go_wp2_with fail
   go_ret
   exact⟨rfl,ExtR w⟩
  ·have X:¬(b[0].toNat:Int) < 128:=by have:¬ b[0].toNat < (128:vU).toNat:=fun h=>h2 (dE.2 h);have:(128:vU).toNat=128:=rfl;omega
   have H:=Hd (joq w b 128 (.inl rfl) hs);have J:=Hd (show jao b=jb9 (UInt8.ofNat 128) b.size++b by unfold jao;rw[if_neg (fun h=>h2 (by rw[<-E];exact h.2))];rfl);rw[J.o];clear h1 h2 E;unfold vR vQ;go_in;go_wp2_with fail
   refine H.o.mono ?_;rintro e w1 ⟨rfl,A⟩;have K:=Hd A;clear A;go_wp2_with fail
   go_ret
   exact⟨rfl,K.o⟩
 ·have Q:((b.size:Int) == 1)=false:=beq_eq_false_iff_ne.2 vO
  have H:=Hd (joq w b 128 (.inl rfl) hs);have J:=Hd (show jao b=jb9 (UInt8.ofNat 128) b.size++b by unfold jao;rw[if_neg (fun h=>h1 h.1)];rfl);rw[J.o];clear h1;unfold vR vQ;go_in;go_wp2_with fail
  refine H.o.mono ?_;rintro e w1 ⟨rfl,A⟩;have K:=Hd A;clear A;go_wp2_with fail
  go_ret
  exact⟨rfl,K.o⟩
theorem jgr(A B:vM):catB (A++B)=catB A++catB B:=by
 unfold catB;rw[cB,List.flatten_append,jhD]
theorem jgq(x:vB):catB [x]=x:=by
 unfold catB;apply ByteArray.ext
 simp
theorem jqp{xs:vM}{k:Nat}{x:vB}(hx:xs[k]?=some x):catB (xs.take (k+1))=catB (xs.take k)++x:=by
 rw[bW,hx];show catB (xs.take k++[x])=_;rw[jgr,jgq]
theorem juQ(xs:vM)(k:Nat):(catB (xs.take k)).size<=(catB xs).size:=by
 have:=jgr (xs.take k) (xs.drop k)
 rw[cV]at this;rw[this,bV];omega
def jAW(w:vW)(xs:vM)(v i:vV)(wr:vW):Prop:=∃ k:Nat,k<=xs.length/\i=.int .i64 k/\v=.string (catB (xs.take k))/\Ext w wr
theorem jyr(w:vW)(v:vV)(xs:vM)(hv:RdS w v xs)(hn:xs.length<=1000000)(hl:(catB xs).size<=1000000):vR 172 #[v] w (.string (catB xs)):=by
 have HV:=Hd hv
 obtain⟨a,c,O,_⟩:=hv.slice
 subst O;clear hv
 obtain⟨R,Q⟩:=vE (catB xs)
 rw[<-Q]at hl ⊢;have HR:=Hd Q;clear Q;unfold vR vQ;go_in;go_wp2_with fail
 go_loopw [3,4] (fun v i wr=>jAW w xs v i wr) (fun _ i _=>xs.length - (intOf i).toNat)
 case atStart=>exact⟨0,cD _,rfl,rfl,ExtR w⟩
 case round =>
  obtain⟨k,hk,rfl,rfl,hE⟩:=hrel
  have X:=Hd hE;clear hE
  by_cases hlt:k < xs.length
  ·have b1:(k:Int) < (xs.length:Int):=vO
   obtain⟨x,Z⟩:∃ x,xs[k]?=some x:=⟨_,bA hlt⟩
   obtain⟨a7,c7,H,J⟩:=HV.o.slice
   obtain⟨bx,ox,K,A⟩:=J k x Z
   obtain⟨e1,_,e3⟩:=cN H
   rw[K]at e1;subst e1;have q1:=jaa A X.o;have e:=jqp Z;have E:=juQ xs (k+1);rw[e, <-HR.o,bV]at E
   obtain⟨t,ht⟩:=vE (catB (xs.take k))
   rw[<-ht]at e E ⊢;have a0:=Hd e;have b5:¬(9223372036854775807 < t.size+x.size):=vO
   clear H J A K e3 e ht Z E;go_wp2_with fail
   go_roundw
   case rel=>exact⟨k+1,by omega,by go_num,by rw[a0.o],X.o⟩
   case measure=>exact vJ
  ·have HF:=Hd (show catB (xs.take k)=R by rw[HR.o,bN vO])
   rw[HF.o];go_wp2_with fail
   go_ret
   exact⟨rfl,X.o⟩
theorem jlf(w:vW)(v:vV)(xs:vM)(hv:RdS w v xs)(hn:xs.length<=1000000)(hl:(catB xs).size<=1000000):vR 157 #[v] w (.string (ja7 xs)):=by
 have K:=Hd (jyr w v xs hv hn hl);have O:=Hd (fun w1=>joq w1 (catB xs) 192 (.inr rfl) hl);have Q:Hid (ja7 xs=jb9 (UInt8.ofNat 192) (catB xs).size++catB xs):=rfl;rw[Q.o]
 obtain⟨a,c,E,_⟩:=hv.slice
 subst E;clear hv;unfold vR vQ;go_in;go_wp2_with fail
 refine K.o.mono ?_;rintro e w1 ⟨rfl,A⟩;have H:=Hd A;clear A;go_wp2_with fail
 refine vH (O.o w1) fun X A=>?_;have J:=Hd (H.o.trans A);go_wp2_with fail
 go_ret
 exact⟨rfl,J.o⟩
def beL(l:vN):Nat:=l.foldl (fun a b=>a * 256+b.toNat) 0
theorem juF(l:vN)(b:vU):beL (l++[b])=beL l * 256+b.toNat:=by unfold beL;rw[dU];rfl
theorem jzt:∀ (l:vN),beL l < 256 ^ l.length:=fun l=>by
 suffices h:∀ (l:vN) (a k:Nat),a < 256 ^ k->l.foldl (fun a b=>a * 256+b.toNat) a < 256 ^ (k+l.length)from by
  have:=h l 0 0 vI
  rwa [cH]at this
 intro l;induction l with
 | nil=>intro a k h;simpa using h
 | cons x r ih =>
  intro a k h;have e:=x.toNat_lt
  have:=ih (a * 256+x.toNat) (k+1) (by rw[Nat.pow_succ];omega)
  rw[dM,bF,show k+(r.length+1)=k+1+r.length by omega];exact this
def RNum(w:vW)(s:vB)(v i:vV)(wr:vW):Prop:=∃ k:Nat,k<=s.size/\i=.int .i64 k/\v=.int .u64 (beL (s.data.toList.take k))/\Ext w wr
theorem jm2(w:vW)(s:vB)(hs:s.size<=8):vR 197 #[.string s] w (.int .u64 (beL s.data.toList)):=by
 obtain⟨R,J⟩:=vE (beL s.data.toList)
 rw[<-J];have Z:=Hd J;clear J;unfold vR vQ;go_in;go_wp2_with fail
 go_loopw [3,4] (fun v i wr=>RNum w s v i wr) (fun _ i _=>s.size - (intOf i).toNat)
 case atStart=>exact⟨0,cD _,rfl,rfl,ExtR w⟩
 case round =>
  obtain⟨k,hk,rfl,rfl,O⟩:=hrel
  have Q:=Hd O;clear O
  by_cases hlt:k < s.size
  ·have b1:(k:Int) < (s.size:Int):=vO
   have E:beL (s.data.toList.take (k+1))=beL (s.data.toList.take k) * 256+s[k].toNat:=by
    have e:s.data.toList[k]?=some s[k]:=by rw[bA (by exact hlt)];rfl
    rw[bW,e, <-juF];rfl
   have A:=jzt (s.data.toList.take k);rw[cI]at A;have H:beL (s.data.toList.take k) < 72057594037927936:=bQ A (bJ (Nat.pow_le_pow_right vI (by omega:min k s.data.toList.length<=7)) vI);have a0:=s[k].toNat_lt
   obtain⟨n,X⟩:=vE (beL (s.data.toList.take k))
   rw[<-X]at E H ⊢;have K:=Hd E;have w1:(n:Int) * 256 < 18446744073709551616:=vO
   have w2:(0:Int)<=(n:Int) * 256:=vO
   have w3:(n:Int) * 256+(s[k].toNat:Int) < 18446744073709551616:=vO
   have w4:((n:Int) * 256) % 18446744073709551616=(n:Int) * 256:=vO
   have w5:((n:Int) * 256+(s[k].toNat:Int)) % 18446744073709551616=(n:Int) * 256+(s[k].toNat:Int):=vO
   clear A E X;go_wp2_with fail
   go_roundw
   case rel=>exact⟨k+1,by omega,by go_num,by rw[K.o];push_cast;rfl,Q.o⟩
   case measure=>exact vJ
  ·have HF:=Hd (show beL (s.data.toList.take k)=R by rw[Z.o,bN (by have:s.data.toList.length=s.size:=rfl;omega)])
   rw[HF.o];go_wp2_with fail
   go_ret
   exact⟨rfl,Q.o⟩
theorem jkh(s:vB)(k:Nat):(s.extract 1 (1+k)).data.toList=(s.data.toList.take (1+k)).drop 1:=by
 rw[dB]
 obtain⟨⟨l⟩⟩:=s
 cases l with
 | nil=>simp
 | cons x r=>rw[gN 1 k];simp
theorem jzs(l:vN):beL l=beN l:=rfl
def HdV(r:Bool × Nat × Nat):vV:=.tuple #[.bool r.1,.int .i64 (r.2.1:Int),.int .u64 (r.2.2:Int),.bool true]
theorem jtN(w:vW)(s:vB)(r:Bool × Nat × Nat)(hs:s.size<=1000000)(h:cutN s=some r):vR 192 #[.string s] w (HdV r):=by
 unfold cutN at h;split at h
 case isFalse=>cases h
 rename_i h0
 have a6:s.toList.isEmpty=false:=jbe h0;have b1:(0:Int) < (s.size:Int):=vO
 have Z:=s[0].toNat_lt
 obtain⟨c,H⟩:=vE (s[0].toNat)
 have a7:(s[0].toNat:Int)=(c:Int):=by rw[H]
 rw[<-H]at h Z;simp only at h
 by_cases h1:c < 128
 ·rw[if_pos h1]at h
  obtain rfl:=bO h;have d1:(c:Int) < 128:=vO
  have d2:¬(192:Int)<=(c:Int):=vO
  clear h H h1;unfold vR vQ;go_in;go_wp2_with fail
  exact bodyPost_ret (v:=HdV (false,0,1)) vY rfl ⟨rfl,ExtR w⟩
 rw[if_neg h1]at h;have d1:¬(c:Int) < 128:=vO
 by_cases h2:c < 192
 ·rw[if_pos h2]at h
  simp only at h;have d2:¬(192:Int)<=(c:Int):=vO
  by_cases h3:c - 128<=55
  ·rw[if_pos h3]at h
   split at h
   case isFalse=>cases h
   obtain rfl:=bO h;have d3:(c:Int)<=128+55:=vO
   have J:(c:Int)<=183:=vO
   have e:(((c - 128:Nat)):Int)=(c:Int) - 128:=vO
   have a0:(0:Int)<=(c:Int) - 128:=vO
   have a1:(c:Int) - 128 < 18446744073709551616:=vO
   have a2:((c:Int) - 128) % 18446744073709551616=(c:Int) - 128:=vO
   have K:=Hd (show HdV (false,1,c - 128)=.tuple #[.bool false,.int .i64 1,.int .u64 ((c:Int) - 128),.bool true] by unfold HdV;rw[e];rfl);rw[K.o];clear h H h1 h2 h3 e;unfold vR vQ;go_in;go_wp2_with fail
   exact bodyPost_ret (v:=.tuple #[.bool false,.int .i64 1,.int .u64 ((c:Int) - 128),.bool true]) vY rfl ⟨rfl,ExtR w⟩
  ·rw[if_neg h3]at h
   obtain⟨k,X⟩:=vE (c - 128 - 55)
   rw[<-X]at h;cases hL:lenB s (1+k)with
   | none=>rw[hL]at h;cases h
   | some n =>
   rw[hL]at h;simp only at h;split at h
   case isFalse=>cases h
   obtain rfl:=bO h
   obtain⟨O,_,A,_,a3⟩:=jdk hL
   have a4:k<=8:=vO
   have E:=Hd (fun w1=>jm2 w1 (s.extract 1 (1+k)) (by rw[cJ];omega));rw[jkh,jzs,A]at E;have d3:¬(c:Int)<=128+55:=vO
   have J:¬(c:Int)<=183:=vO
   have Q:(c:Int)=(k:Int)+183:=vO
   have d4:¬(s.size:Int) < 1+(k:Int):=vO
   have a5:(c:Int) - 128 - 55=(k:Int):=vO
   have d5:(1:Int)<=1+(k:Int):=vO
   have d6:1+(k:Int)<=(s.size:Int):=vO
   have d7:(1+(k:Int)).toNat=1+k:=vO
   have d8:(0:Int)<=1+(k:Int):=vO
   have K:=Hd (show HdV (false,1+k,n)=.tuple #[.bool false,.int .i64 (1+(k:Int)),.int .u64 (n:Int),.bool true] by unfold HdV;simp);rw[K.o];clear h H h1 h2 h3 X hL O A Q;unfold vR vQ;go_in;go_wp2_with fail
   refine vH (E.o _) fun w1 HE=>?_;go_wp2_with fail
   exact bodyPost_ret (v:=.tuple #[.bool false,.int .i64 (1+(k:Int)),.int .u64 (n:Int),.bool true]) vY rfl ⟨rfl,HE.o⟩
 ·rw[if_neg h2]at h
  simp only at h;have d2:(192:Int)<=(c:Int):=vO
  by_cases h3:c - 192<=55
  ·rw[if_pos h3]at h
   split at h
   case isFalse=>cases h
   obtain rfl:=bO h;have d3:(c:Int)<=192+55:=vO
   have J:(c:Int)<=247:=vO
   have e:(((c - 192:Nat)):Int)=(c:Int) - 192:=vO
   have a0:(0:Int)<=(c:Int) - 192:=vO
   have a1:(c:Int) - 192 < 18446744073709551616:=vO
   have a2:((c:Int) - 192) % 18446744073709551616=(c:Int) - 192:=vO
   have K:=Hd (show HdV (true,1,c - 192)=.tuple #[.bool true,.int .i64 1,.int .u64 ((c:Int) - 192),.bool true] by unfold HdV;rw[e];rfl);rw[K.o];clear h H h1 h2 h3 e;unfold vR vQ;go_in;go_wp2_with fail
   exact bodyPost_ret (v:=.tuple #[.bool true,.int .i64 1,.int .u64 ((c:Int) - 192),.bool true]) vY rfl ⟨rfl,ExtR w⟩
  ·rw[if_neg h3]at h
   obtain⟨k,X⟩:=vE (c - 192 - 55)
   rw[<-X]at h;cases hL:lenB s (1+k)with
   | none=>rw[hL]at h;cases h
   | some n =>
   rw[hL]at h;simp only at h;split at h
   case isFalse=>cases h
   obtain rfl:=bO h
   obtain⟨O,_,A,_,a3⟩:=jdk hL
   have a4:k<=8:=vO
   have E:=Hd (fun w1=>jm2 w1 (s.extract 1 (1+k)) (by rw[cJ];omega));rw[jkh,jzs,A]at E;have d3:¬(c:Int)<=192+55:=vO
   have J:¬(c:Int)<=247:=vO
   have Q:(c:Int)=(k:Int)+247:=vO
   have d4:¬(s.size:Int) < 1+(k:Int):=vO
   have a5:(c:Int) - 192 - 55=(k:Int):=vO
   have d5:(1:Int)<=1+(k:Int):=vO
   have d6:1+(k:Int)<=(s.size:Int):=vO
   have d7:(1+(k:Int)).toNat=1+k:=vO
   have d8:(0:Int)<=1+(k:Int):=vO
   have K:=Hd (show HdV (true,1+k,n)=.tuple #[.bool true,.int .i64 (1+(k:Int)),.int .u64 (n:Int),.bool true] by unfold HdV;simp);rw[K.o];clear h H h1 h2 h3 X hL O A Q;unfold vR vQ;go_in;go_wp2_with fail
   refine vH (E.o _) fun w1 HE=>?_;go_wp2_with fail
   exact bodyPost_ret (v:=.tuple #[.bool true,.int .i64 (1+(k:Int)),.int .u64 (n:Int),.bool true]) vY rfl ⟨rfl,HE.o⟩
theorem jkH(a y:vB):(a++y).extract 0 a.size=a:=by
 apply ByteArray.ext;rw[dB,cZ]
 have:a.size=a.data.size:=rfl
 rw[this]
 simp
theorem jnG(a y:vB):(a++y).extract a.size (a++y).size=y:=by
 apply ByteArray.ext;rw[dB,cZ,bV]
 obtain⟨⟨e⟩⟩:=a
 obtain⟨⟨o⟩⟩:=y
 show (e.toArray++o.toArray).extract e.length (e.length+o.length)=o.toArray
 simp
theorem jgg(w:vW)(b y:vB)(hb:b.size<=100000)(hs:(jao b++y).size<=1000000):vR 180 #[.string (jao b++y)] w (.tuple #[.bool false,.string b,.string y,.int .i64 0]):=by
 obtain⟨o,h1,K,h3⟩:=jip b y vO
 have O:=Hd (jtN w (jao b++y) _ hs h1);have HT:=Hd (fun w1=>jeg w1 b vO);have A:(jao b++y).extract 0 (o+b.size)=jao b:=by rw[K];exact jkH _ _
 have H:(jao b++y).extract (o+b.size) (jao b++y).size=y:=by rw[K];exact jnG _ _
 have E:o+b.size<=(jao b++y).size:=by rw[K,bV];omega
 obtain⟨s,J⟩:=vE (jao b++y)
 rw[<-J]at hs O h3 A H E ⊢
 obtain⟨n,hn⟩:=vE b.size
 rw[<-hn]at O h3 A H E hb
 obtain⟨t,ht⟩:=vE (jao b)
 rw[<-ht]at HT A;have a1:(t.toList != t.toList)=false:=by simp
 have d1:¬(1048576:Int) < (n:Int):=vO
 have d2:¬(s.size:Int) < (o:Int)+(n:Int):=vO
 have d3:((o:Int)+(n:Int)).toNat=o+n:=vO
 have d4:(0:Int)<=(o:Int)+(n:Int):=vO
 have d5:(o:Int)<=(o:Int)+(n:Int):=vO
 have d6:(o:Int)+(n:Int)<=(s.size:Int):=vO
 have d8:(o:Int)+(n:Int)<=9223372036854775807:=vO
 have d9 : -9223372036854775808<=(o:Int)+(n:Int):=vO
 clear h1 K J hn ht E;unfold HdV at O;unfold vR vQ;go_in;go_wp2_with fail
 refine O.o.mono ?_;rintro e w1 ⟨rfl,Q⟩;have X:=Hd Q;clear Q;go_wp2_with fail
 refine vH (HT.o w1) fun w2 Q=>?_;have Z:=Hd (X.o.trans Q);go_wp2_with fail
 refine jag [0,1,2,3,4,5,6,7,8] Ext ExtR ExtT vY vY vY ?_;iterate 9 refine vK ?_
 refine qKE (fun w3 he=>?_);have a0:=Hd (Z.o.trans ((jai w2).trans he));clear he;go_wp2_with fail
 exact bodyPost_ret (v:=.tuple #[.bool false,.string b,.string y,.int .i64 0]) vY rfl ⟨rfl,a0.o⟩
theorem ji8(w:vW)(xs:vM)(y:vB)(hb:(catB xs).size<=100000)(hs:(ja7 xs++y).size<=1000000):vR 180 #[.string (ja7 xs++y)] w (.tuple #[.bool true,.string (catB xs),.string y,.int .i64 0]):=by
 obtain⟨o,h1,X,h3⟩:=jin xs y vO
 have Z:=Hd (jtN w (ja7 xs++y) _ hs h1);have HT:=Hd (fun w1=>jeg w1 (catB xs) vO);have H:=Hd (fun w1=>jlf (w1.alloc (.cells #[.string (catB xs)] 9)) (.slice (some ⟨w1.heap.size,0,none⟩) 1 1) [catB xs] (jb2 w1 [catB xs] 9) (by simp) (by rw[jgq];omega));have A:(ja7 xs++y).extract 0 (o+(catB xs).size)=ja7 xs:=by rw[X];exact jkH _ _
 have J:(ja7 xs++y).extract (o+(catB xs).size) (ja7 xs++y).size=y:=by rw[X];exact jnG _ _
 have E:o+(catB xs).size<=(ja7 xs++y).size:=by rw[X,bV];omega
 obtain⟨b,K⟩:=vE (catB xs)
 have a0:ja7 [b]=ja7 xs:=by unfold ja7;rw[K,jgq]
 rw[<-K]at hb Z HT H h3 A J E X ⊢
 obtain⟨s,a1⟩:=vE (ja7 xs++y)
 rw[<-a1]at hs Z h3 A J E ⊢
 obtain⟨n,hn⟩:=vE b.size
 rw[<-hn]at Z h3 A J E hb
 obtain⟨t,ht⟩:=vE (ja7 xs)
 rw[a0, <-ht]at H;rw[<-ht]at A;have a5:(t.toList != t.toList)=false:=by simp
 have d1:¬(1048576:Int) < (n:Int):=vO
 have d2:¬(s.size:Int) < (o:Int)+(n:Int):=vO
 have d3:((o:Int)+(n:Int)).toNat=o+n:=vO
 have d4:(0:Int)<=(o:Int)+(n:Int):=vO
 have d5:(o:Int)<=(o:Int)+(n:Int):=vO
 have d6:(o:Int)+(n:Int)<=(s.size:Int):=vO
 have d8:(o:Int)+(n:Int)<=9223372036854775807:=vO
 have d9 : -9223372036854775808<=(o:Int)+(n:Int):=vO
 clear h1 X a1 hn ht E K a0;unfold HdV at Z;unfold vR vQ;go_in;go_wp2_with fail
 refine Z.o.mono ?_;rintro e w1 ⟨rfl,O⟩;have a2:=Hd O;clear O;go_wp2_with fail
 refine vH (HT.o w1) fun w2 O=>?_;have Q:=Hd (a2.o.trans O);go_wp2_with fail
 refine (H.o w2).mono ?_;rintro e a3 ⟨rfl,O⟩;have Q:=Hd ((Q.o.alloc _).trans O);clear O;go_wp2_with fail
 refine jag [0,1,2,3,4,5,6,7,8] Ext ExtR ExtT vY vY vY ?_;iterate 9 refine vK ?_
 refine qKE (fun w3 he=>?_);have a4:=Hd (Q.o.trans ((jai a3).trans he));clear he;go_wp2_with fail
 exact bodyPost_ret (v:=.tuple #[.bool true,.string b,.string y,.int .i64 0]) vY rfl ⟨rfl,a4.o⟩
theorem jfQ(w:vW)(s:vB)(hs:s.size<=1000000000):vQ 167 #[.string s] w fun e w'=>e=.returned (.bool (jaB s))/\w'=w:=by
 unfold vQ;go_in;go_wp2;go_loop [3] (fun i=>∃ k:Nat,k<=s.size/\i=.int .i64 k/\(s.data.toList.take k).all (·<=15)=true) (fun i=>s.size - (intOf i).toNat)
 case atStart=>exact⟨0,cD _,rfl,rfl⟩
 case round =>
  obtain⟨k,hk,rfl,E⟩:=hrel
  by_cases hlt:k < s.size
  ·have A:=joD s hlt (·<=15)
   rw[E]at A;have K:=Hd A;clear A;go_wp2
   ·have O:15 < (s[k].toNat:Int):=by assumption
    go_ret
    refine⟨?_,rfl⟩
    have Q:decide (s[k]<=15)=false:=by
     simp only[decide_eq_false_iff_not,fB]
     have:(15:vU).toNat=15:=rfl
     omega
    have X:jaB s=false:=by
     have H:=K.o;simp only[Q,Bool.and_false]at H;unfold jaB;rw[<-cV (k+1) s.data.toList,List.all_append,H];rfl
    rw[X];rfl
   ·have Z:(s[k].toNat:Int)<=15:=by assumption
    have ht:decide (s[k]<=15)=true:=by
     simp only[decide_eq_true_eq,fB]
     have:(15:vU).toNat=15:=rfl
     omega
    have H:=K.o;simp only[ht,Bool.and_true]at H;go_round
    case rel=>exact⟨k+1,by omega,by go_num,H⟩
    case measure=>exact vJ
  ·have J:k=s.size:=vO
   have hv:jaB s=true:=by
    unfold jaB;rw[<-E,J,bN]
    simp
   go_wp2;go_ret
   exact⟨rfl,rfl⟩
def jAX(w:vW)(p:vB)(v i:vV)(wr:vW):Prop:=∃ k:Nat,2 * k<=p.size/\i=.int .i64 (2 * (k:Int))/\v=.string ⟨((jcC p.data.toList).take k).toArray⟩/\Ext w wr
theorem jBx(x y:vU)(hx:x.toNat<=15)(hy:y.toNat<=15):((x.toNat:Int) * (16:Int)+(y.toNat:Int)) % (256:Int)=((x <<< 4 ||| y).toNat:Int):=by
 have:∀ f g:Fin 16,((f.1:Int) * (16:Int)+(g.1:Int)) % (256:Int)=(((UInt8.ofNat f.1) <<< 4 |||(UInt8.ofNat g.1)).toNat:Int):=by decide +kernel
 have h:=this ⟨x.toNat,by omega⟩ ⟨y.toNat,by omega⟩;simpa using h
theorem jp5{p:vB}(h:jaB p=true){k:Nat}(hk:k < p.size):p[k].toNat<=15:=by
 have:=fH.1 h p[k] (by
  have e:p[k]=p.data.toList[k]'hk:=rfl;rw[e];exact dD _)
 have:=of_decide_eq_true this
 exact fB.1 this
theorem jle(w:vW)(p:vB)(hs:p.size<=1000000)(h2:p.size % 2=0)(hv:jaB p=true):vR 170 #[.string p] w (.tuple #[.string (jbu p),.bool true]):=by
 have e1:(p.size:Int) % 2=0:=vO
 have Q:=Hd hv;have X:=Hd h2
 obtain⟨R,Z⟩:=vE (jbu p)
 have HR:=Hd Z;rw[<-Z];clear Z hv h2;unfold vR vQ;go_in;go_wp2_with fail
 refine vC (jfQ _ p vO) fun w1 a0=>?_;rw[Q.o];subst a0;go_wp2_with fail
 go_loopw [4,5] (fun v i wr=>jAX w1 p v i wr) (fun _ i _=>p.size - (intOf i).toNat)
 case atStart=>exact⟨0,by omega,rfl,rfl,ExtR w1⟩
 case round =>
  obtain⟨k,hk,rfl,rfl,hE⟩:=hrel
  have HE:=Hd hE;clear hE
  by_cases hlt:2 * k+1 < p.size
  ·have b1:2 * (k:Int)+1 < (p.size:Int):=vO
   obtain⟨m,J⟩:=vE (2 * k)
   have A:2 * (k:Int)=(m:Int):=vO
   rw[A]at b1 ⊢;have a1:m+1 < p.size:=vO
   have a2:m < p.size:=vO
   have b2:(m:Int) < (p.size:Int):=vO
   have b3:(0:Int)<=(m:Int)+1:=vO
   obtain⟨t,O⟩:=vE ((jcC p.data.toList).take k)
   rw[<-O];have HT:=Hd O;have HM:=Hd (bB J A);have a8:t.length<=1000000:=by rw[O,cI,jdo];have:p.data.toList.length=p.size:=rfl;omega
   clear O J A;go_wp2_with fail
   refine jaC [0,1,2,3,4,5,6,7,8,9,10,11,12,13] [10] Ext Ext ExtR ExtT (fun x y z h k=>h.trans k) (fun x y h=>h) vY vY vY ?_;iterate 10 refine vD ?_
   refine qDH _ rfl (fun w2 H K hK=>?_);have a3:=Hd (show Ext wr w2 from(jai _).trans H);clear H;go_simp;refine hK _ _ ((ExtR w2).alloc _) ?_;clear hK K
   obtain⟨bb,E⟩:=vE (p[m] <<< 4 ||| p[m+1])
   have a4:=Hd E;rw[jBx p[m] p[m+1] (jp5 Q.o a2) (jp5 Q.o a1), <-E];clear E;refine qDV _ (.string ⟨[bb].toArray⟩) rfl (fun w3 h3=>jfH (n:=1) (xs:=[bb]) rfl vY h3 (fun f=>f) vI) ?_;refine vS ?_
   obtain⟨t2,e⟩:=vE ([bb])
   rw[<-e];have a9:t2.length=1:=by rw[e];rfl
   have a5:=Hd e;have b5:¬(9223372036854775807 < (⟨t.toArray⟩:vB).size+(⟨t2.toArray⟩:vB).size):=by show ¬(_ < t.length+t2.length);omega
   clear e;iterate 2 refine vD ?_
   refine qDE (fun w6 H=>?_);have a6:=Hd (HE.o.trans ((a3.o.alloc _).trans H));clear H;go_wp2_with fail
   go_roundw
   case rel =>
    refine⟨k+1,by omega,by have:=HM.o.2;simp only[Value.int.injEq,true_and];omega,?_,a6.o⟩
    rw[jhD,HT.o,a5.o,a4.o,bW];have hg:=jiS p.data.toList k (by have:p.data.toList.length=p.size:=rfl;omega);rw[hg];have J:=HM.o.1;subst J;rfl
   case measure=>exact vJ
  ·have a7:2 * k=p.size:=by have:=X.o;omega
   have HF:=Hd (show (⟨((jcC p.data.toList).take k).toArray⟩:vB)=R by
    rw[HR.o,bN (by rw[jdo];have:p.data.toList.length=p.size:=rfl;omega)];rfl)
   rw[HF.o];have b1:¬ 2 * (k:Int)+1 < (p.size:Int):=vO
   clear a7 hlt;go_wp2_with fail
   go_ret2
   exact⟨rfl,HE.o⟩
theorem jyt(w:vW)(s:vB)(hs:s.size<=1000000):vR 158 #[.string s] w (.string (refB s)):=by
 by_cases hlt:s.size < 32
 ·have K:(s.size:Int) < 32:=vO
  unfold vR vQ;go_in;go_wp2_with fail
  go_ret
  exact⟨by unfold refB;rw[if_pos hlt];rfl,ExtR w⟩
 ·have K:¬(s.size:Int) < 32:=vO
  have J:=Hd (jAu w s hs);have O:=Hd (show refB s=jao (shaB s) by unfold refB;rw[if_neg hlt]);rw[O.o]
  obtain⟨h,E⟩:=vE (shaB s)
  have Q:=Hd (fun w1=>jeg w1 h (by rw[E,jbd];omega));rw[<-E]at J ⊢;clear E;unfold vR vQ;go_in;go_wp2_with fail
  refine J.o.mono ?_;rintro e w1 ⟨rfl,A⟩;have X:=Hd A;clear A;go_wp2_with fail
  refine vH (Q.o w1) fun Z A=>?_;have H:=Hd (X.o.trans A);go_wp2_with fail
  go_ret
  exact⟨rfl,H.o⟩
theorem jtL(w:vW)(r:vB)(hr:r.size < 32):vQ 169 #[.string r] w fun e w'=>e=.returned (.tuple #[.string ⟨#[]⟩,.bool false])/\w=w':=by
 have o:((r.size:Int) == 33)=false:=beq_eq_false_iff_ne.2 vO;have A:((r.size:Int) != 33)=true:=by rw[bne,o];rfl
 have E:¬(r.size:Int)=33:=vO
 unfold vQ;go_in;go_wp2_with fail
 go_ret2
 exact⟨rfl,rfl⟩
theorem jwW{h:vB}(hs:h.size=32):jao h=⟨#[160]⟩++h:=by
 unfold jao;rw[if_neg vO];unfold jb9;rw[hs];rfl
theorem jv7(w:vW)(h:vB)(hs:h.size=32):vQ 169 #[.string (jao h)] w fun e w'=>e=.returned (.tuple #[.string h,.bool true])/\w=w':=by
 rw[jwW hs]
 obtain⟨r,o⟩:∃ r:vB,r=⟨#[160]⟩++h:=⟨_,rfl⟩
 have A:r.size=33:=by rw[o,bV,hs];rfl
 have E:r[0]'(by omega)=160:=by
  subst o;rfl
 have H:r.extract 1 33=h:=by
  rw[o]
  have:=jnG (⟨#[160]⟩:vB) h
  rw[show (⟨#[160]⟩++h:vB).size=33 by rw[bV,hs];rfl]at this;exact this
 rw[<-o];have J:(r.size:Int)=33:=vO
 clear o;unfold vQ;go_in;go_wp2_with fail
 go_ret2
 exact⟨rfl,rfl⟩
theorem jpQ(w:vW)(p:vB)(hs:p.size<=1000000):vQ 152 #[.string p] w fun e w'=>e=.returned (.bool (jaB p && decide (p.size<=12)))/\w'=w:=by
 have A:=Hd (jfQ w p vO)
 obtain⟨b,hb⟩:=vE (jaB p)
 rw[<-hb]at A ⊢;clear hb;unfold vQ;go_in;go_wp2_with fail
 refine A.o.mono ?_;rintro e w1 ⟨rfl,rfl⟩;cases b with
 | false =>
  go_wp2_with fail
  go_ret
  exact⟨rfl,rfl⟩
 | true =>
  by_cases h12:p.size<=12
  ·have E:(p.size:Int)<=12:=vO
   go_wp2_with fail
   go_ret
   exact⟨by simp[h12],rfl⟩
  ·have E:¬(p.size:Int)<=12:=vO
   go_wp2_with fail
   go_ret
   exact⟨by simp;omega,rfl⟩
theorem jh6(w:vW)(b:vB)(hb:b.size<=100000):vR 183 #[.string (jao b)] w (.string b):=by
 have K:=jaN b;have A:jao b++(⟨#[]⟩:vB)=jao b:=iE;have E:=Hd (jgg w b ⟨#[]⟩ hb (by rw[A];omega));rw[A]at E
 obtain⟨t,H⟩:=vE (jao b)
 rw[<-H]at E ⊢;clear H A K;unfold vR vQ;go_in;go_wp2_with fail
 refine E.o.mono ?_;rintro e w1 ⟨rfl,J⟩;have O:=Hd J;clear J;go_wp2_with fail
 go_ret
 exact⟨rfl,O.o⟩
theorem jfT{b:vU}{p:vB}(hb:b<=15)(h:jaB p=true):jaB ((⟨#[b]⟩:vB)++p)=true:=by
 unfold jaB at *;have e:((⟨#[b]⟩:vB)++p).data.toList=b :: p.data.toList:=by rw[cZ];simp
 rw[e,List.all_cons,h,Bool.and_true];exact decide_eq_true hb
theorem jyd{p:vB}{leaf:Bool}{fb:vU}(h:p.size % 2=1)(hf:fb=jed leaf true):jbu ((⟨#[fb]⟩:vB)++p)=putB p leaf:=by
 have e:oddB p=true:=by unfold oddB;rw[h];rfl
 unfold putB jci;rw[e, <-hf,if_pos rfl]
 congr 1
theorem jvU{p:vB}{leaf:Bool}{fb:vU}(h:p.size % 2=0)(hf:fb=jed leaf false):jbu ((⟨#[fb]⟩:vB)++⟨#[0]⟩++p)=putB p leaf:=by
 have e:oddB p=false:=by unfold oddB;rw[h];rfl
 unfold putB jci;rw[e, <-hf,if_neg vI]
 congr 1
theorem jm5(w:vW)(p:vB)(leaf:Bool)(hs:p.size<=900000)(hv:jaB p=true):vR 155 #[.string p,.bool leaf] w (.tuple #[.string (putB p leaf),.bool true]):=by
 have HV:=Hd hv;clear hv
 by_cases h2:p.size % 2=0
 ·have e1:(p.size:Int) % 2=0:=vO
  obtain⟨H,e⟩:∃ H:vU,H=jed leaf false:=⟨_,rfl⟩
  have hp:=jvU (p:=p) h2 e;have Q:=jfT (b:=H) (by rw[e];cases leaf <;> decide) (jfT (b:=0) vI HV.o);have X:((⟨#[H]⟩:vB)++⟨#[0]⟩++p).size=p.size+2:=by rw[bV,bV];show 1+1+p.size=_;omega
  have HP:=Hd hp;have Z:=Hd (show jaB ((⟨#[H]⟩:vB)++⟨#[0]⟩++p)=true by rw[ByteArray.append_assoc];exact Q);have A:=Hd X;have a1:=Tryz.run_lit1 w H;have a0:=Tryz.run_lit1 (w.alloc (.cells #[.int .u8 (H.toNat:Int)] 5)) 0;rw[bT,show (((0:vU).toNat:Nat):Int)=0 from rfl]at a0;have E:(H.toNat:Int)=if leaf then 2 else 0:=by rw[e];cases leaf <;> decide
  have b5:¬(9223372036854775807 < ((⟨#[H]⟩:vB)++⟨#[0]⟩).size+p.size):=by rw[bV];show ¬(_ < 1+1+p.size);omega
  have b6:¬(9223372036854775807 < (⟨#[H]⟩:vB).size+(⟨#[0]⟩:vB).size):=by show ¬(_ < 1+1);omega
  clear hp Q X h2 e;cases leaf with
  | true =>
   rw[if_pos rfl]at E;rw[E]at a1 a0;unfold vR vQ;go_in;go_wp2_with fail
   refine vC (jfQ _ p vO) fun w1 J=>?_;rw[HV.o];subst J;go_wp2_with fail
   refine vH (jle _ _ (by rw[A.o];omega) (by rw[A.o];omega) Z.o) fun w5 K=>?_;rw[HP.o];have O:=Hd ((((ExtR _).alloc _).alloc _).trans K);go_wp2_with fail
   go_ret2
   exact⟨rfl,O.o⟩
  | false =>
   rw[if_neg vI]at E;rw[E]at a1 a0;unfold vR vQ;go_in;go_wp2_with fail
   refine vC (jfQ _ p vO) fun w1 J=>?_;rw[HV.o];subst J;go_wp2_with fail
   refine vH (jle _ _ (by rw[A.o];omega) (by rw[A.o];omega) Z.o) fun w5 K=>?_;rw[HP.o];have O:=Hd ((((ExtR _).alloc _).alloc _).trans K);go_wp2_with fail
   go_ret2
   exact⟨rfl,O.o⟩
 ·have e1:(p.size:Int) % 2=1:=vO
  have h1:p.size % 2=1:=vO
  obtain⟨H,e⟩:∃ H:vU,H=jed leaf true:=⟨_,rfl⟩
  have hp:=jyd (p:=p) h1 e;have Q:=jfT (b:=H) (by rw[e];cases leaf <;> decide) HV.o;have X:((⟨#[H]⟩:vB)++p).size=p.size+1:=by rw[bV];show 1+p.size=_;omega
  have HP:=Hd hp;have Z:=Hd Q;have A:=Hd X;have a1:=Tryz.run_lit1 w H;have E:(H.toNat:Int)=if leaf then 3 else 1:=by rw[e];cases leaf <;> decide
  have b5:¬(9223372036854775807 < (⟨#[H]⟩:vB).size+p.size):=by show ¬(_ < 1+p.size);omega
  clear hp Q X h2 e h1;cases leaf with
  | true =>
   rw[if_pos rfl]at E;rw[E]at a1;unfold vR vQ;go_in;go_wp2_with fail
   refine vC (jfQ _ p vO) fun w1 J=>?_;rw[HV.o];subst J;go_wp2_with fail
   refine vH (jle _ _ (by rw[A.o];omega) (by rw[A.o];omega) Z.o) fun w5 K=>?_;rw[HP.o];have O:=Hd (((ExtR _).alloc _).trans K);go_wp2_with fail
   go_ret2
   exact⟨rfl,O.o⟩
  | false =>
   rw[if_neg vI]at E;rw[E]at a1;unfold vR vQ;go_in;go_wp2_with fail
   refine vC (jfQ _ p vO) fun w1 J=>?_;rw[HV.o];subst J;go_wp2_with fail
   refine vH (jle _ _ (by rw[A.o];omega) (by rw[A.o];omega) Z.o) fun w5 K=>?_;rw[HP.o];have O:=Hd (((ExtR _).alloc _).trans K);go_wp2_with fail
   go_ret2
   exact⟨rfl,O.o⟩
end
