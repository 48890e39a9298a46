/- Lemmas. -/
import Derived.Test.YtgmmpefjadjajaaGreatDoorPa0
import Derived.Test.YtgmmpefjadjajaaGreatDoorPa3
namespace Go.Proofs.YtgmmpefjadjajaaGreatDoor
open Go.Proofs.Tryz
set_option linter.unusedSimpArgs false
set_option linter.unusedVariables false
set_option maxRecDepth 100000
set_option maxHeartbeats 16000000
open Go Go.RowKit
variable (l:vN)(w:vW)(a base b:vU)(s:vB)
def Mp(l:vN):vN:=l.flatMap λ(b:vU)=>[b >>> 4,b &&& 15]
def Bw(s:vB):vB:=⟨(Mp s.data.toList).toArray⟩
theorem Bh:prog.underlying 83=some (.slice 5):=vY
theorem Ck:prog.underlying 5=some (.int .u8):=vY
theorem Ag:prog.underlying 9=some .string:=vY
theorem He:(prog.info? 5).map (λi=>(i.zero,i.size,i.bytes))=some (some (.int .u8 0),1,1):=vY
abbrev AQ(w0 w:vW)(v:vV)(n:Nat)(l:vN):Prop:=Ar 5 1 w0 w v n (El l)
def Q5(w:vW)(s:vB)(v i:vV)(wr:vW):Prop:=∃ k:Nat,k<=s.size/\i=.int .i64 k/\AQ w wr v (2*k) (Mp (s.data.toList.take k))
theorem v9{k:Nat}(h:k<s.size):Mp (s.data.toList.take (k+1))=Mp (s.data.toList.take k)++[s[k] >>> 4,s[k] &&& 15]:=by
 have e:k<s.data.toList.length:=by simpa using h
 rw[cP e];simp only[Mp,dS,dJ,List.flatMap_nil,cC];rfl
theorem y9:([.int .u8 (b.toNat / 16),.int .u8 (bits BinOp.and .u8 b.toNat 15)]:List vV)=El [b >>> 4,b &&& 15]:=by
 have h:∀ b:Fin 256,((b.1:Int) / (16:Int)=((UInt8.ofNat b.1 >>> 4).toNat:Int))/\bits BinOp.and .u8 b.1 15=((UInt8.ofNat b.1 &&& 15).toNat:Int):=by decide +kernel
 have:=h ⟨b.toNat,b.toNat_lt⟩
 simp only[iV]at this;simp only[El,bP,fY,this.1,this.2]
theorem Zc(hs:s.size<=1000000):vR 126 #[s] w (Bw s):=by
 obtain⟨i0,hi,q,A,H⟩:=info_parts He
 obtain⟨w1,O,X,a1⟩:=run_make_own (P:=prog) (w:=w) w 83 5 i0 _ 1 Bh hi q A .i64 .i64 (2*s.size) (by rw[H];omega) zi (bO _)
 have a8:(Instr.makeSlice 83 qa (.int .i64 (2*(s.size:Int)))).run prog w=.ok (.slice (some w) 0 (2*s.size)) w1:=by rw[<-O];congr 3
 have HO:=J X;have HG:=J a1;unfold vR vQ;go_in;go_wp2;go_loopw [3,11] (λv i wr=>Q5 w s v i wr) (λ_ i _=>s.size-(intOf i).toNat)
 case atStart=>exact⟨0,cD _,rfl,Ar.made w HO.o HG.o⟩
 case round =>obtain⟨k,hk,rfl,hR⟩:=hrel;obtain⟨a,c,rfl⟩:=hR.sl;have HR:=J hR;by_cases hlt:k<s.size;{go_wp2;(refine Lc [0,1,2,3,4,5,6,7,8,9,10,11] [9,10] Af Aa Ap vY vY vY ?_;iterate 9 refine vP ?_);(refine qH _ rfl (λw1 he K hK=>?_);go_simp;refine hK _ _ ?_;have a2:=J ((HR.o.mono (Ao wr)).mono he);refine qH _ rfl (λw2 Z K hK=>?_);have hn:∀ j u,([.int .u8 (s[k].toNat / 16),.int .u8 (bits BinOp.and .u8 s[k].toNat 15)]:List vV)[j]?=some u->w2.cell? ((w1:Addr).add j)=some u:=λj u hj=>Am (OO w1 5 _ j u hj) Z;have a0:=a2.o.mono (((Aa w1).alloc _).trans Z);refine MQ w2 (.tmp 14) (.tmp 23) 83 rfl 5 i0 _ 1 1 Bh hi q A H rfl vI _ (2*k) _ rfl a0.own w1 2 2 _ rfl rfl hn (by intro u hu;simp at hu;rcases hu with rfl|rfl<;>rfl) zi vO (λv' w3 r1 r2 r3=>hK _ _ ?_);have e2:([.int .u8 (s[k].toNat / 16),.int .u8 (bits BinOp.and .u8 s[k].toNat 15)]:List vV)=El [s[k] >>> 4,s[k] &&& 15]:=by exact y9 s[k]);rw[e2]at r1;have a3:Hid (AQ w w3 v' (2*k+2) (Mp (s.data.toList.take k)++[s[k] >>> 4,s[k] &&& 15])):=J (by unfold AQ;rw[MM];exact a0.step r1 r2 r3);refine vS ?_;refine vP ?_;refine qE (λw4 a4=>?_);have a5:=J (a3.o.mono a4);go_wp2;go_roundw;(case rel=>exact⟨k+1,by omega,by go_num,by rw[v9 s hlt];exact a5.o⟩);case measure=>exact vJ};have a7:=CO wr Bh Ck Ag HR.o.own;(have e:(⟨(Mp (s.data.toList.take k)).toArray⟩:vB)=Bw s:=by unfold Bw;rw[cG zd]);rw[e]at a7;go_wp2;go_ret;exact⟨rfl,HR.o.ext⟩
def Rs:vN->vN
 |x::y::r=>(x <<< 4 ||| y)::Rs r
 |_=>[]
def Jh(s:vB):vB:=⟨(Rs s.data.toList).toArray⟩
theorem KO:∀ (l:vN),(Rs l).length=l.length / 2
 |[]=>rfl
 |[_]=>by simp[Rs]
 |_::_::r=>by simp only[Rs,bQ,KO r];omega
theorem lR:∀ (l:vN) (j:Nat) (h:2*j+1<l.length),(Rs l)[j]?=some (l[2*j] <<< 4 ||| l[2*j+1])
 |[],_,h=>by simp at h
 |[_],_,h=>by simp at h
 |x::y::r,0,_=>by simp[Rs]
 |x::y::r,j+1,h=>by
  have:=lR r j (by simp at h;omega)
  simp only[Rs,List.getElem?_cons_succ,this,Nat.mul_add,Nat.mul_one]
  congr 1
def Zt(s:vB)(k:Nat):List vV:=El ((Rs s.data.toList).take k)++List.replicate (s.size / 2-k) (.int .u8 0)
theorem C_(k:Nat)(h:k<=s.size / 2):(Zt s k).length=s.size / 2:=by
 have:=KO s.data.toList
 simp at this;simp[Zt,this];omega
theorem D_(k:Nat)(h:k<s.size / 2):(Zt s k).set k (.int .u8 (((s[2*k]'(by omega)) <<< 4 |||(s[2*k+1]'(by omega))).toNat:Int))=Zt s (k+1):=by
 have e:=KO s.data.toList;simp at e;have H:(El ((Rs s.data.toList).take k)).length=k:=by simp[e];omega
 have K:s.size / 2-k=(s.size / 2-(k+1))+1:=vO
 have q:=lR s.data.toList k zd;have A:k<(Rs s.data.toList).length:=vO
 rw[bB A]at q;have O:=bV q;unfold Zt;rw[K,fC,dV _ _ vO,H,jD,dM,cP A,MM,bZ]
 congr 1
 simp only[El,bP,fY,cS,cL,O];rfl
theorem B_:Zt s (s.size / 2)=El (Rs s.data.toList):=by
 have e:=KO s.data.toList;simp at e;unfold Zt;rw[cG vO];simp
def Q4(w:vW)(s:vB)(n:Nat)(i:vV)(wr:vW):Prop:=∃ k:Nat,k<=n/\i=.int .i64 k/\Ar 5 1 w wr (.slice (some w) n n) n (Zt s k)
theorem WH(hs:s.size<=1000000):vR 220 #[s] w (Jh s):=by
 obtain⟨i0,hi,a0,a1,a2⟩:=info_parts He
 obtain⟨n,hn⟩:=vE (s.size / 2)
 have hq:(s.size:Int) / 2=(n:Int):=vO
 have a7:2*n<=s.size:=vO
 have X:=J hn;clear hn;have a3:=SJ (P:=prog) w Bh hi a0 a1 rfl .i64 .i64 n (by rw[a2];omega) zi;unfold vR vQ;go_in;go_wp2;clear hq a3;go_loopw [11] (λi wr=>Q4 w s n i wr) (λi _=>n-(intOf i).toNat)
 case atStart =>refine⟨0,cD _,rfl,?_⟩;(have h:=Ar.lit (T:=5) (sz:=1) (List.replicate n (.int .u8 0)).toArray (n:=n) (Aa w) zi (by simp);have e:Zt s 0=List.replicate n (.int .u8 0):=by simp[Zt,El,X.o]);rw[e];simpa using h
 case round =>obtain⟨k,hk,rfl,hR⟩:=hrel;have HR:=J hR;clear hR;by_cases hlt:k<n;{have b1:2*k<s.size:=vO;have b2:2*k+1<s.size:=vO;have c0:(0:Int)<=2*(k:Int):=vO;have c1:2*(k:Int)<(s.size:Int):=vO;have c2:(0:Int)<=2*(k:Int)+1:=vO;have c3:2*(k:Int)+1<(s.size:Int):=vO;(go_wp2;refine Lc [0,1,2,3,4,5,6,7,8,9,10,11,12,13,14] [14] Af Aa Ap vY vY vY ?_;iterate 14 refine vP ?_);refine qH _ rfl (λw1 O K hK=>?_);have A:=J (HR.o.mono ((Ao wr).trans O));clear O HR;have q:=A.o.own.cellAt k vO;rw[bB (by rw[C_ _ _ (kL X.o)];have:=X.o;omega)]at q;have a4:=A.o.own.frozenAt k;go_simp;refine hK _ _ ?_;clear hK K q a4;have H:=A.o.set k (.int .u8 ((s[2*k] <<< 4 ||| s[2*k+1]).toNat:Int));rw[D_ s k (kL X.o)]at H;have Z:=J H;clear H A;refine qE (λw2 O=>?_);rw[V3]at O;have a5:=J (Z.o.mono O);clear O Z;go_wp2;go_roundw;(case rel=>exact⟨k+1,by omega,by go_num,a5.o⟩);case measure=>exact vJ};have a8:=CO wr Bh Ck Ag (l:=Rs s.data.toList) (n:=n) (by have:=HR.o.own;rw[show k=s.size / 2 from kL X.o,B_]at this;exact this);go_wp2;go_ret;exact⟨rfl,HR.o.ext⟩
def Qf(a b:vB):Bool:=Op.bytesLess a.toList b.toList
theorem Mx:Mn prog 83 5 1 1:=Mn.mk' Bh He rfl vI
def Ly(l:vN)(k:Nat):vN:=(List.range l.length).map λi=>if i<k\/l.length-1-k<i then l.getD (l.length-1-i) 0 else l.getD i 0
@[simp] theorem revK_len (l:vN) (k:Nat):(Ly l k).length=l.length:=by simp[Ly]
theorem x6:Ly l 0=l:=by
 apply List.ext_getElem (by simp);intro i q e;simp only[Ly,List.getElem_map,List.getElem_range];rw[if_neg vO];simp[e]
theorem P2(k:Nat)(h:l.length<=2*k+1):Ly l k=l.reverse:=by
 apply List.ext_getElem (by simp);intro i e q;simp at e;simp only[Ly,List.getElem_map,List.getElem_range,List.getElem_reverse]
 by_cases hc:i<k\/l.length-1-k<i
 ·rw[if_pos hc];simp[show l.length-1-i<l.length by omega]
 ·rw[if_neg hc];have:i=l.length-1-i:=vO;simp only[bL,bB e,Option.getD_some];congr 1
theorem oS(k i:Nat)(hi:i<l.length)(h1:k<=i)(h2:i<=l.length-1-k):(Ly l k)[i]?=some l[i]:=by
 simp only[Ly,bY,fD hi,fP];rw[if_neg vO];simp[hi]
theorem x1(k:Nat)(h:2*k+1<l.length):((Ly l k).set k (l[l.length-1-k]'(by omega))).set (l.length-1-k) (l[k]'(by omega))=Ly l (k+1):=by
 apply List.ext_getElem (by simp);intro i q e;simp at e;simp only[List.getElem_set,Ly,List.getElem_map,List.getElem_range]
 by_cases e1:l.length-1-k=i
 ·subst e1;rw[if_pos rfl,if_pos vO];have:l.length-1-(l.length-1-k)=k:=vO;rw[this];simp[show k<l.length by omega]
 ·rw[if_neg e1];by_cases e2:k=i;{subst e2;rw[if_pos rfl,if_pos vO];simp[show l.length-1-k<l.length by omega]};rw[if_neg e2];by_cases c:i<k\/l.length-1-k<i;{rw[if_pos c,if_pos vO]};rw[if_neg c,if_neg vO]
def Y8(w:vW)(g n c:Nat)(l:vN)(i j:vV)(wr:vW):Prop:=∃ k:Nat,k<=n/\i=.int .i64 k/\j=.int .i64 ((n:Int)-1-k)/\wr.ownsRow 0 5 1 (.slice (some g) n c) n (El (Ly l k))/\Ad (λb=>b=g) w wr
def Q6(w:vW)(v:vV)(n:Nat)(l:vN)(e:Ending)(w':vW):Prop:=(∃ r,e=.returned r)/\w'.ownsRow 0 5 1 v n (El l.reverse)/\Ad (λb=>v.ownBlock=some b) w w'
theorem x7(v:vV)(n:Nat)(l:vN)(hs:n<=1000000)(hr:w.ownsRow 0 5 1 v n (El l)):vQ 163 #[v] w (Q6 w v n l):=by
 have a1:l.length=n:=by have:=hr.1;simp at this;exact this
 have H:=J a1;have HR:=J hr
 obtain⟨_,⟨rfl,h2⟩|⟨g,c,a8,rfl,_⟩⟩:=hr
 ·have hl:l=[]:=bF (kL H.o);subst hl;unfold vQ;go_in;go_wp2;refine wp_loop_once ?_;go_wp2;go_end0;exact⟨⟨_,rfl⟩,HR.o,Ad.refl _ _⟩
 ·unfold vQ;go_in;(go_wp2;go_loopw [2,3] (λi j wr=>Y8 w g n c l i j wr) (λi _ _=>n-(intOf i).toNat));(case atStart=>exact⟨0,cD _,rfl,by go_num,by rw[x6];exact HR.o,Ad.refl _ _⟩);case round =>obtain⟨k,hk,rfl,rfl,hR,Z⟩:=hrel;have q:=J hR;have HK:=J Z;by_cases hlt:2*k+1<n;{(have O:decide ((k:Int)<(n:Int)-1-k)=true:=by simp;omega);have a9:k<n:=vO;have e0:((n:Int)-1-k)=((n-1-k:Nat):Int):=vO;have HE:=J e0;have c1:=q.o.cellAt k vO;have c2:=q.o.cellAt (n-1-k) vO;have f1:=q.o.frozenAt k;have f2:=q.o.frozenAt (n-1-k);have lk:k<l.length:=kL H.o;have a2:n-1-k<l.length:=kL H.o;rw[El,bY,oS l k k lk (bO _) (kL H.o)]at c1;rw[El,bY,oS l k (n-1-k) a2 vO (kL H.o)]at c2;simp only[fP]at c1 c2;have a0:=J c1;have a3:=J c2;have b0:=J f1;have b1:=J f2;rw[e0]at O;go_wp2;rw[e0];have d1:(0:Int)<=((n-1-k:Nat):Int):=vO;have d2:((n-1-k:Nat):Int)<(n:Int):=vO;(refine Lc [0,1,2,3,4,5,6,7,8,9,10,11,12,13,14,15] [13,15] Af Aa Ap vY vY vY ?_;iterate 7 refine vP ?_);(refine qL ⟨g,n-1-k,none⟩ _ rfl (λw1 h1=>Bv Ck rfl (Am (by exact a3.o) h1)) (vS ?_);iterate 3 refine vP ?_);refine qL ⟨g,k,none⟩ _ rfl (λw1 h1=>Bv Ck rfl (Am (by exact a0.o) h1)) (vS ?_);refine vP ?_;refine qH _ rfl (λw1 A K Z=>?_);have X:=Kh q.o ((Ao wr).trans A);have K1:=HK.o.O ((Ao wr).trans A) kZ;have q1:=Am a0.o ((Ao wr).trans A);have q2:w1.frozen? ⟨g,k,none⟩=false:=X.frozenAt k;have R2:=(X.stored k (.int .u8 (l[n-1-k].toNat:Int))).1;have K2:=J (K1.setCell (p:=⟨g,k,none⟩) (.inl rfl) (.int .u8 (l[n-1-k].toNat:Int)));have a4:=J R2;go_simp;refine Z _ _ ?_;refine vP ?_;refine qH _ rfl (λw2 A K Z=>?_);have X:=Kh a4.o A;have K1:=K2.o.O A kZ;obtain⟨old,q1⟩:=N9 X (n-1-k) vO;(have q2:=X.frozenAt (n-1-k);have R2:=(X.stored (n-1-k) (.int .u8 (l[k].toNat:Int))).1;have K3:=J (K1.setCell (p:=⟨g,n-1-k,none⟩) (.inl rfl) (.int .u8 (l[k].toNat:Int)));have e:((El (Ly l k)).set k (.int .u8 (l[n-1-k].toNat:Int))).set (n-1-k) (.int .u8 (l[k].toNat:Int))=El (Ly l (k+1)):=by have hh:=x1 l k (kL H.o);rw[<-hh];simp only[El,gV];simp only[H.o]);rw[e]at R2;have a5:=J R2;go_simp;refine Z _ _ ?_;refine qE (λw3 A=>?_);have a7:=J (Kh a5.o A);have K4:=J (K3.o.O A kZ);go_wp2;go_roundw;(case rel=>exact⟨k+1,by omega,by go_num,by have:=HE.o;go_num,a7.o,K4.o⟩);case measure=>exact vJ};(have O:decide ((k:Int)<(n:Int)-1-k)=false:=by simp;omega);go_wp2;go_end0;refine⟨⟨_,rfl⟩,?_,HK.o.mono λ_ _ e=>by rw[e];rfl⟩;have:=q.o;rwa [P2 l k (kL H.o)]at this
def Pi:Nat->Nat->vN
 |0,_=>[]
 |f+1,n=>if n=0 then []else UInt8.ofNat n::Pi f (n / 256)
theorem EQ:∀ (f n:Nat),(Pi f n).length<=f
 |0,_=>bO _
 |f+1,n=>by
  simp only[Pi];split
  ·simp
  ·simp;exact EQ f _
def Hr(n:Nat):vB:=⟨(Pi 8 n).reverse.toArray⟩
def jzI(w:vW)(n:Nat)(m b:vV)(wr:vW):Prop:=∃ (k:Nat) (acc:vN),m=.int .u64 k/\acc.length<=8/\k<256 ^ (8-acc.length)/\Pi 8 n=acc++Pi (8-acc.length) k/\AQ w wr b acc.length acc
theorem oB(n:Nat)(hn:n<18446744073709551616):vR 117 #[.int .u64 n] w (Hr n):=by
 unfold vR vQ;go_in;go_wp2;go_loopw [0,3] (λm b wr=>jzI w n m b wr) (λm _ _=>(intOf m).toNat)
 case atStart=>exact⟨n,[],rfl,by simp,by simpa using hn,rfl,Ar.nil _ _ (Aa w)⟩
 case round =>obtain⟨k,q,rfl,a1,hk,H,hR⟩:=hrel;obtain⟨a,c,rfl⟩:=hR.sl;have K:=J hR;have HA:=J H;have HK:=J hk;by_cases h0:0<k;{(have a2:q.length<8:=by rcases fH q.length 8 with h|h;{exact h};have:=HK.o;rw[show 8-q.length=0 by omega]at this;omega);(go_wp2_with (at_builtin;refine Qm Mx (K.o.mono ((Aa wr).alloc _)) (.tmp 8) (.tmp 11) rfl rfl rfl (Jx (Ae.new wr _)) (news:=[.int .u8 (k % 256)]) (by intro u hu;simp at hu;rw[hu];rfl) rfl rfl ?c1 ?c2 λv' w' r1 r2 r3=>?_));(case c1=>unfold maxLen;omega);(case c2=>omega);(have e2:El q++[.int .u8 ((k:Int) % 256)]=El (q++[UInt8.ofNat k]):=by rw[MM];simp only[El,bP,fY];rw[<-OP]);(rw[e2]at r1;have A:Pi (8-q.length) k=UInt8.ofNat k::Pi (8-(q.length+1)) (k / 256):=by rw[show 8-q.length=(8-(q.length+1))+1 by omega];simp only[Pi];rw[if_neg vO]);(have O:k / 256<256 ^ (8-(q.length+1)):=by have:=HK.o;rw[show 8-q.length=(8-(q.length+1))+1 by omega,Nat.pow_succ]at this;omega);have HS:=J A;have X:=J O;have Z:=J r1;go_wp2;go_roundw;(case rel=>exact⟨k / 256,q++[UInt8.ofNat k],by go_num,by simp;omega,by simpa using X.o,by rw[HA.o,HS.o];simp,by simpa using Z.o⟩);case measure=>exact vJ};have a0:k=0:=vO;(subst a0;have e:Pi 8 n=q:=by rw[HA.o];cases 8-q.length<;>simp[Pi]);(have HE:=J e;go_wp2_with fail);refine (x7 wr _ q.length q vO K.o.own).mono ?_;rintro e w1 ⟨⟨r,rfl⟩,R1,K1⟩;have a3:=CO w1 Bh Ck Ag R1;have HX:=J (eD K.o.ext K.o.new K1);go_wp2;go_ret;exact⟨by unfold Hr;rw[HE.o];rfl,HX.o⟩
def Nq(base:vU)(n:Nat):vB:=
 if n<=55 then ⟨#[base+UInt8.ofNat n]⟩else ⟨#[base+55+UInt8.ofNat (Hr n).size]⟩++Hr n
theorem l2:(w.alloc (.cells #[.int .u8 (b.toNat:Int)] 5)).ownsRow 0 5 1 (.slice (some w) 1 1) 1 (El [b]):=
 World.ownsRow_lit w _ 1 (cD _) vI rfl
theorem XC:((a.toNat:Int)+(b.toNat:Int)) % (256:Int)=((a+b).toNat:Int):=by
 rw[UInt8.toNat_add];omega
theorem ZH:(convert 83 9 (.slice (some w) 1 1)).run prog (w.alloc (.cells #[.int .u8 (b.toNat:Int)] 5))=.ok (.string ⟨#[b]⟩) (w.alloc (.cells #[.int .u8 (b.toNat:Int)] 5)):=
 CO _ Bh Ck Ag (l2 w b)
theorem XI(n:Nat)(hn:n<=1000000000):vR 63 #[.int .u8 base.toNat,.int .i64 n] w (Nq base n):=by
 by_cases h:n<=55
 ·obtain⟨x,q⟩:=vE (base+UInt8.ofNat n);(have e:((base.toNat:Int)+(n:Int)) % (256:Int)=(x.toNat:Int):=by rw[q, <-XC, <-OP];omega);have H:=ZH w x;have K:=J (show Nq base n=⟨#[x]⟩ by unfold Nq;rw[if_pos h,q]);clear q;unfold vR vQ;go_in;go_wp2;go_ret;exact⟨by rw[K.o];rfl,(Aa w).alloc _⟩
 ·have K:=J (show Nq base n=⟨#[base+55+UInt8.ofNat (Hr n).size]⟩++Hr n by unfold Nq;rw[if_neg h]);(unfold vR vQ;go_in;go_wp2_with fail);refine vC (oB w n vO) λw1 O=>?_;obtain⟨d,A⟩:=vE (Hr n);(have X:d.size<=8:=by rw[A];have:=EQ 8 n;simpa [Hr,ByteArray.size]using this);obtain⟨x,q⟩:=vE (base+55+UInt8.ofNat d.size);(have e2:(((base.toNat:Int)+55) % (256:Int)+(d.size:Int)) % (256:Int)=(x.toNat:Int):=by rw[q, <-XC, <-XC, <-OP];show (((base.toNat:Int)+55) % (256:Int)+(d.size:Int)) % (256:Int)=((((base.toNat:Int)+55) % (256:Int))+(d.size:Int) % (256:Int)) % (256:Int);omega);have H:=ZH w1 x;have Z:=J A;have HX:=J q;rw[<-A];clear q A;go_wp2;go_ret;exact⟨by rw[K.o, <-Z.o, <-HX.o];rfl,O.alloc _⟩
def Av(b:vB):vB:=if b.size=1/\b.data.toList.headD 255<128 then b else Nq 128 b.size++b
theorem CP(n:Nat):(Nq base n).size<=9:=by
 have:=EQ 8 n
 unfold Nq;split
 ·exact (by decide:1<=9)
 ·rw[cO];(have e:(⟨#[base+55+UInt8.ofNat (Hr n).size]⟩:vB).size=1:=rfl;have q:(Hr n).size=(Pi 8 n).length:=by simp[Hr,ByteArray.size]);omega
theorem Rt(b:vB)(hn:b.size<=1000000000):vR 28 #[b] w (Av b):=by
 by_cases h1:b.size=1
 ·(obtain⟨x,rfl⟩:∃ x,b=⟨#[x]⟩:=by obtain⟨⟨l⟩⟩:=b;have A:l.length=1:=h1;match l,A with| [x],_=>exact⟨x,rfl⟩);by_cases hx:x<128;{have q:=J (show Av ⟨#[x]⟩=⟨#[x]⟩ by unfold Av;rw[if_pos ⟨rfl,hx⟩]);(have O:(((⟨#[x]⟩:vB)[0]'(Nat.zero_lt_one)).toNat:Int)<128:=by show (x.toNat:Int)<128;have:=dU.1 hx;have e:(128:vU).toNat=128:=rfl;omega);(unfold vR vQ;go_in;go_wp2_with fail);all_goals first|(go_ret;exact⟨by rw[q.o];rfl,Aa w⟩)|(exfalso;omega)};have q:=J (show Av ⟨#[x]⟩=Nq 128 1++⟨#[x]⟩ by unfold Av;rw[if_neg λh=>hx h.2];rfl);(have O:¬(((⟨#[x]⟩:vB)[0]'(Nat.zero_lt_one)).toNat:Int)<128:=by show ¬(x.toNat:Int)<128;have e:(128:vU).toNat=128:=rfl;have X:¬ x.toNat<(128:vU).toNat:=λh=>hx (dU.2 h);omega);(unfold vR vQ;go_in;go_wp2_with fail);refine (XI w 128 1 vO).mono ?_;rintro e w' ⟨rfl,H⟩;have K:=CP 128 1;go_wp2;go_ret;exact⟨by rw[q.o];rfl,H⟩
 ·(have Z:((b.size:Int) == 1)=false:=by simp;omega);(have q:=J (show Av b=Nq 128 b.size++b by unfold Av;rw[if_neg λh=>h1 h.1]);unfold vR vQ;go_in;go_wp2_with fail);refine (XI w 128 b.size hn).mono ?_;rintro e w' ⟨rfl,H⟩;have K:=CP 128 b.size;go_wp2;go_ret;exact⟨by rw[q.o];rfl,H⟩
