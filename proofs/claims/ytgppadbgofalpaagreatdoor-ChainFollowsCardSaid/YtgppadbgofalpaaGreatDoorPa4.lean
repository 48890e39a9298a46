/- Lemmas; each is under no condition but those that it states. -/
import Derived.Test.YtgppadbgofalpaaGreatDoorPa0
import Derived.Test.YtgppadbgofalpaaGreatDoorPa3
namespace Go.Proofs.YtgppadbgofalpaaGreatDoor
set_option linter.unusedSimpArgs false
set_option linter.unusedVariables false
set_option maxRecDepth 100000
set_option maxHeartbeats 16000000
open Go Go.RowKit
variable (l:vN)(w:vW)(a base b:vU)(s:vB)
def Mg(l:vN):vN:=l.flatMap fun(b:vU)=>[b >>> 4,b &&& 15]
def Ci(s:vB):vB:=⟨(Mg s.data.toList).toArray⟩
theorem Bg:Tryz.prog.underlying 84=some (.slice 5):=vY
theorem Ch:Tryz.prog.underlying 5=some (.int .u8):=vY
theorem Ag:Tryz.prog.underlying 9=some .string:=vY
theorem Gy:(Tryz.prog.info? 5).map (fun i=>(i.zero,i.size,i.bytes))=some (some (.int .u8 0),1,1):=vY
abbrev AA(w0 w:vW)(v:vV)(n:Nat)(l:vN):Prop:=Av 5 1 w0 w v n (Ei l)
def jxk(w:vW)(s:vB)(v i:vV)(wr:vW):Prop:=∃ k:Nat,k<=s.size/\i=.int .i64 k/\AA w wr v (2 * k) (Mg (s.data.toList.take k))
theorem jtw{k:Nat}(h:k < s.size):Mg (s.data.toList.take (k+1))=Mg (s.data.toList.take k)++[s[k] >>> 4,s[k] &&& 15]:=by
 have e:k < s.data.toList.length:=by simpa using h
 rw[cP e];simp only[Mg,dW,dN,List.flatMap_nil,cB];rfl
theorem jta:([.int .u8 (b.toNat / 16),.int .u8 (bits BinOp.and .u8 b.toNat 15)]:List vV)=Ei [b >>> 4,b &&& 15]:=by
 have h:∀ b:Fin 256,((b.1:Int) / (16:Int)=((UInt8.ofNat b.1 >>> 4).toNat:Int))/\bits BinOp.and .u8 b.1 15=((UInt8.ofNat b.1 &&& 15).toNat:Int):=by decide +kernel
 have:=h ⟨b.toNat,b.toNat_lt⟩
 simp only[iR]at this;simp only[Ei,bN,fX,this.1,this.2]
theorem Zu(hs:s.size<=1000000):vR 126 #[s] w (Ci s):=by
 obtain⟨i0,hi,O,X,Z⟩:=info_parts Gy
 obtain⟨w1,q,A,a0⟩:=run_make_own (P:=Tryz.prog) (w:=w) w 84 5 i0 _ 1 Bg hi O X .i64 .i64 (2 * s.size) (by rw[Z];omega) (by unfold maxLen;omega) (bP _)
 have a7:(Instr.makeSlice 84 (.int .i64 0) (.int .i64 (2 * (s.size:Int)))).run Tryz.prog w=.ok (.slice (some w) 0 (2 * s.size)) w1:=by rw[<-q];congr 3
 have HO:=Hd A;have HG:=Hd a0;clear A a0 q;unfold vR vQ;go_in;go_wp2;go_loopw [3,11] (fun v i wr=>jxk w s v i wr) (fun _ i _=>s.size - (intOf i).toNat)
 case atStart=>exact⟨0,cE _,rfl,Av.made w HO.o HG.o⟩
 case round =>obtain⟨k,hk,rfl,hR⟩:=hrel;obtain⟨a,c,rfl⟩:=hR.sl;have HR:=Hd hR;clear hR;by_cases hlt:k < s.size;{go_wp2;(refine Kr [0,1,2,3,4,5,6,7,8,9,10,11] [9,10] Af Aa Aq vY vY vY ?_;iterate 9 refine vP ?_);(refine qH _ rfl (fun w1 he K hK=>?_);go_simp;refine hK _ _ ?_;clear hK K;have a1:=Hd ((HR.o.mono (Ap wr)).mono he);clear he HR;refine qH _ rfl (fun w2 H K hK=>?_);have hn:∀ j u,([.int .u8 (s[k].toNat / 16),.int .u8 (bits BinOp.and .u8 s[k].toNat 15)]:List vV)[j]?=some u->w2.cell? ((w1:Addr).add j)=some u:=fun j u hj=>Am (NV w1 5 _ j u hj) H;have J:=a1.o.mono (((Aa w1).alloc _).trans H);refine LX w2 (.tmp 14) (.tmp 23) 84 rfl 5 i0 _ 1 1 Bg hi O X Z rfl vI _ (2 * k) _ rfl J.own w1 2 2 _ rfl rfl hn (by intro u hu;simp at hu;rcases hu with rfl | rfl <;> rfl) (by unfold maxLen;omega) vO (fun v' w3 r1 r2 r3=>hK _ _ ?_);clear hK K hn;have e2:([.int .u8 (s[k].toNat / 16),.int .u8 (bits BinOp.and .u8 s[k].toNat 15)]:List vV)=Ei [s[k] >>> 4,s[k] &&& 15]:=by exact jta s[k]);rw[e2]at r1;have a2:Hid (AA w w3 v' (2 * k+2) (Mg (s.data.toList.take k)++[s[k] >>> 4,s[k] &&& 15])):=Hd (by unfold AA;rw[LT];exact J.step r1 r2 r3);clear r1 r2 r3 J H a1 e2;refine vS ?_;refine vP ?_;refine qE (fun w4 a3=>?_);have a4:=Hd (a2.o.mono a3);clear a3 a2;go_wp2;go_roundw;(case rel=>exact⟨k+1,by omega,by go_num,by rw[jtw s hlt];exact a4.o⟩);case measure=>exact vJ};have a5:=BT wr Bg Ch Ag HR.o.own;(have e:(⟨(Mg (s.data.toList.take k)).toArray⟩:vB)=Ci s:=by unfold Ci;rw[cF (by simp;omega)]);rw[e]at a5;clear e;go_wp2;go_ret;exact⟨rfl,HR.o.ext⟩
def Rd:vN->vN
 | x :: y :: r=>(x <<< 4 ||| y) :: Rd r
 | _=>[]
def Iz(s:vB):vB:=⟨(Rd s.data.toList).toArray⟩
theorem JS:∀ (l:vN),(Rd l).length=l.length / 2
 | []=>rfl
 | [_]=>by simp[Rd]
 | _ :: _ :: r=>by simp only[Rd,bS,JS r];omega
theorem kU:∀ (l:vN) (j:Nat) (h:2 * j+1 < l.length),(Rd l)[j]?=some (l[2 * j] <<< 4 ||| l[2 * j+1])
 | [],_,h=>by simp at h
 | [_],_,h=>by simp at h
 | x :: y :: r,0,_=>by simp[Rd]
 | x :: y :: r,j+1,h=>by
  have:=kU r j (by simp at h;omega)
  simp only[Rd,List.getElem?_cons_succ,this,Nat.mul_add,Nat.mul_one]
  congr 1
def Zg(s:vB)(k:Nat):List vV:=Ei ((Rd s.data.toList).take k)++List.replicate (s.size / 2 - k) (.int .u8 0)
theorem zV(k:Nat)(h:k<=s.size / 2):(Zg s k).length=s.size / 2:=by
 have:=JS s.data.toList
 simp at this;simp[Zg,this];omega
theorem zW(k:Nat)(h:k < s.size / 2):(Zg s k).set k (.int .u8 (((s[2 * k]'(by omega)) <<< 4 |||(s[2 * k+1]'(by omega))).toNat:Int))=Zg s (k+1):=by
 have e:=JS s.data.toList;simp at e;have H:(Ei ((Rd s.data.toList).take k)).length=k:=by simp[e];omega
 have J:s.size / 2 - k=(s.size / 2 - (k+1))+1:=vO
 have q:=kU s.data.toList k (by simp;omega);have A:k < (Rd s.data.toList).length:=vO
 rw[bB A]at q;have K:=bV q;unfold Zg;rw[J,dV,dR _ _ vO,H,iY,dJ,cP A,LT,bZ]
 congr 1
 simp only[Ei,bN,fX,cR,cL,K];rfl
theorem zU:Zg s (s.size / 2)=Ei (Rd s.data.toList):=by
 have e:=JS s.data.toList;simp at e;unfold Zg;rw[cF vO];simp
def jxj(w:vW)(s:vB)(n:Nat)(i:vV)(wr:vW):Prop:=∃ k:Nat,k<=n/\i=.int .i64 k/\Av 5 1 w wr (.slice (some w) n n) n (Zg s k)
theorem VI(hs:s.size<=1000000):vR 226 #[s] w (Iz s):=by
 obtain⟨i0,hi,a0,a1,a2⟩:=info_parts Gy
 obtain⟨n,hn⟩:=vE (s.size / 2)
 have hq:(s.size:Int) / 2=(n:Int):=vO
 have a7:2 * n<=s.size:=vO
 have O:=Hd hn;clear hn;have a3:=RJ (P:=Tryz.prog) w Bg hi a0 a1 rfl .i64 .i64 n (by rw[a2];omega) (by unfold maxLen;omega);unfold vR vQ;go_in;go_wp2;clear hq a3;go_loopw [11] (fun i wr=>jxj w s n i wr) (fun i _=>n - (intOf i).toNat)
 case atStart =>refine⟨0,cE _,rfl,?_⟩;(have h:=Av.lit (T:=5) (sz:=1) (List.replicate n (.int .u8 0)).toArray (n:=n) (Aa w) (by unfold maxLen;omega) (by simp);have e:Zg s 0=List.replicate n (.int .u8 0):=by simp[Zg,Ei,O.o]);rw[e];simpa using h
 case round =>obtain⟨k,hk,rfl,hR⟩:=hrel;have Z:=Hd hR;clear hR;by_cases hlt:k < n;{have b1:2 * k < s.size:=vO;have b2:2 * k+1 < s.size:=vO;have c0:(0:Int)<=2 * (k:Int):=vO;have c1:2 * (k:Int) < (s.size:Int):=vO;have c2:(0:Int)<=2 * (k:Int)+1:=vO;have c3:2 * (k:Int)+1 < (s.size:Int):=vO;(go_wp2;refine Kr [0,1,2,3,4,5,6,7,8,9,10,11,12,13,14] [14] Af Aa Aq vY vY vY ?_;iterate 14 refine vP ?_);refine qH _ rfl (fun w1 J K hK=>?_);have A:=Hd (Z.o.mono ((Ap wr).trans J));clear J Z;have q:=A.o.own.cellAt k vO;rw[bB (by rw[zV _ _ (kL O.o)];have:=O.o;omega)]at q;have a4:=A.o.own.frozenAt k;go_simp;refine hK _ _ ?_;clear hK K q a4;have H:=A.o.set k (.int .u8 ((s[2 * k] <<< 4 ||| s[2 * k+1]).toNat:Int));rw[zW s k (kL O.o)]at H;have X:=Hd H;clear H A;refine qE (fun w2 J=>?_);rw[jyx]at J;have a5:=Hd (X.o.mono J);clear J X;go_wp2;go_roundw;(case rel=>exact⟨k+1,by omega,by go_num,a5.o⟩);case measure=>exact vJ};have a8:=BT wr Bg Ch Ag (l:=Rd s.data.toList) (n:=n) (by have:=Z.o.own;rw[show k=s.size / 2 from kL O.o,zU]at this;exact this);go_wp2;go_ret;exact⟨rfl,Z.o.ext⟩
def Pr(a b:vB):Bool:=Op.bytesLess a.toList b.toList
theorem Mn:Me Tryz.prog 84 5 1 1:=Me.mk' Bg Gy rfl vI
def Lp(l:vN)(k:Nat):vN:=(List.range l.length).map fun i=>if i < k\/l.length - 1 - k < i then l.getD (l.length - 1 - i) 0 else l.getD i 0
@[simp] theorem revK_len (l:vN) (k:Nat):(Lp l k).length=l.length:=by simp[Lp]
theorem jtI:Lp l 0=l:=by
 apply List.ext_getElem (by simp);intro i q e;simp only[Lp,List.getElem_map,List.getElem_range];rw[if_neg vO];simp[e]
theorem jwk(k:Nat)(h:l.length<=2 * k+1):Lp l k=l.reverse:=by
 apply List.ext_getElem (by simp);intro i e q;simp at e;simp only[Lp,List.getElem_map,List.getElem_range,List.getElem_reverse]
 by_cases hc:i < k\/l.length - 1 - k < i
 ·rw[if_pos hc];simp[show l.length - 1 - i < l.length by omega]
 ·rw[if_neg hc];have:i=l.length - 1 - i:=vO;simp only[bJ,bB e,Option.getD_some];congr 1
theorem oB(k i:Nat)(hi:i < l.length)(h1:k<=i)(h2:i<=l.length - 1 - k):(Lp l k)[i]?=some l[i]:=by
 simp only[Lp,bY,fI hi,fW];rw[if_neg vO];simp[hi]
theorem jtH(k:Nat)(h:2 * k+1 < l.length):((Lp l k).set k (l[l.length - 1 - k]'(by omega))).set (l.length - 1 - k) (l[k]'(by omega))=Lp l (k+1):=by
 apply List.ext_getElem (by simp);intro i q e;simp at e;simp only[List.getElem_set,Lp,List.getElem_map,List.getElem_range]
 by_cases e1:l.length - 1 - k=i
 ·subst e1;rw[if_pos rfl,if_pos vO];have:l.length - 1 - (l.length - 1 - k)=k:=vO;rw[this];simp[show k < l.length by omega]
 ·rw[if_neg e1];by_cases e2:k=i;{subst e2;rw[if_pos rfl,if_pos vO];simp[show l.length - 1 - k < l.length by omega]};rw[if_neg e2];by_cases c:i < k\/l.length - 1 - k < i;{rw[if_pos c,if_pos vO]};rw[if_neg c,if_neg vO]
def jzH(w:vW)(g n c:Nat)(l:vN)(i j:vV)(wr:vW):Prop:=∃ k:Nat,k<=n/\i=.int .i64 k/\j=.int .i64 ((n:Int) - 1 - k)/\wr.ownsRow 0 5 1 (.slice (some g) n c) n (Ei (Lp l k))/\Ad (fun b=>b=g) w wr
def jxl(w:vW)(v:vV)(n:Nat)(l:vN)(e:Ending)(w':vW):Prop:=(∃ r,e=.returned r)/\w'.ownsRow 0 5 1 v n (Ei l.reverse)/\Ad (fun b=>v.ownBlock=some b) w w'
theorem jtJ(v:vV)(n:Nat)(l:vN)(hs:n<=1000000)(hr:w.ownsRow 0 5 1 v n (Ei l)):vQ 164 #[v] w (jxl w v n l):=by
 have a0:l.length=n:=by have:=hr.1;simp at this;exact this
 have H:=Hd a0;clear a0;have HR:=Hd hr
 obtain⟨_,⟨rfl,h2⟩ |⟨g,c,a8,rfl,_⟩⟩:=hr
 ·have hl:l=[]:=bH (kL H.o);subst hl;unfold vQ;go_in;go_wp2;refine wp_loop_once ?_;go_wp2;go_end0;exact⟨⟨_,rfl⟩,HR.o,Ad.refl _ _⟩
 ·unfold vQ;go_in;(go_wp2;go_loopw [2,3] (fun i j wr=>jzH w g n c l i j wr) (fun i _ _=>n - (intOf i).toNat));(case atStart=>exact⟨0,cE _,rfl,by go_num,by rw[jtI];exact HR.o,Ad.refl _ _⟩);case round =>obtain⟨k,hk,rfl,rfl,hR,J⟩:=hrel;have q:=Hd hR;have HK:=Hd J;clear hR J;by_cases hlt:2 * k+1 < n;{(have O:decide ((k:Int) < (n:Int) - 1 - k)=true:=by simp;omega);have a9:k < n:=vO;have e0:((n:Int) - 1 - k)=((n - 1 - k:Nat):Int):=vO;have HE:=Hd e0;have c1:=q.o.cellAt k vO;have c2:=q.o.cellAt (n - 1 - k) vO;have f1:=q.o.frozenAt k;have f2:=q.o.frozenAt (n - 1 - k);have lk:k < l.length:=kL H.o;have a3:n - 1 - k < l.length:=kL H.o;rw[Ei,bY,oB l k k lk (bP _) (kL H.o)]at c1;rw[Ei,bY,oB l k (n - 1 - k) a3 vO (kL H.o)]at c2;simp only[fW]at c1 c2;have a1:=Hd c1;have a4:=Hd c2;have b0:=Hd f1;have b1:=Hd f2;clear c1 c2 f1 f2;rw[e0]at O;go_wp2;rw[e0];clear e0;have d1:(0:Int)<=((n - 1 - k:Nat):Int):=vO;have d2:((n - 1 - k:Nat):Int) < (n:Int):=vO;(refine Kr [0,1,2,3,4,5,6,7,8,9,10,11,12,13,14,15] [13,15] Af Aa Aq vY vY vY ?_;iterate 7 refine vP ?_);(refine qL ⟨g,n - 1 - k,none⟩ _ rfl (fun w1 h1=>Bq Ch rfl (Am (by exact a4.o) h1)) (vS ?_);iterate 3 refine vP ?_);refine qL ⟨g,k,none⟩ _ rfl (fun w1 h1=>Bq Ch rfl (Am (by exact a1.o) h1)) (vS ?_);refine vP ?_;refine qH _ rfl (fun w1 A K J=>?_);have X:=Jy q.o ((Ap wr).trans A);have K1:=HK.o.trans' ((Ap wr).trans A) kZ;have q1:=Am a1.o ((Ap wr).trans A);have q2:w1.frozen? ⟨g,k,none⟩=false:=X.frozenAt k;have Z:=(X.stored k (.int .u8 (l[n - 1 - k].toNat:Int))).1;have K2:=Hd (K1.setCell (p:=⟨g,k,none⟩) (.inl rfl) (.int .u8 (l[n - 1 - k].toNat:Int)));have a5:=Hd Z;clear X K1 Z A;go_simp;refine J _ _ ?_;clear J K q1 q2;refine vP ?_;refine qH _ rfl (fun w2 A K J=>?_);have X:=Jy a5.o A;have K1:=K2.o.trans' A kZ;obtain⟨old,q1⟩:=jv7 X (n - 1 - k) vO;(have q2:=X.frozenAt (n - 1 - k);have Z:=(X.stored (n - 1 - k) (.int .u8 (l[k].toNat:Int))).1;have K3:=Hd (K1.setCell (p:=⟨g,n - 1 - k,none⟩) (.inl rfl) (.int .u8 (l[k].toNat:Int)));have e:((Ei (Lp l k)).set k (.int .u8 (l[n - 1 - k].toNat:Int))).set (n - 1 - k) (.int .u8 (l[k].toNat:Int))=Ei (Lp l (k+1)):=by have hh:=jtH l k (kL H.o);rw[<-hh];simp only[Ei,gO];simp only[H.o]);rw[e]at Z;have a2:=Hd Z;clear X K1 Z A e;go_simp;refine J _ _ ?_;clear J K q1 q2;refine qE (fun w3 A=>?_);have a7:=Hd (Jy a2.o A);have K4:=Hd (K3.o.trans' A kZ);clear A a2 K3;go_wp2;go_roundw;(case rel=>exact⟨k+1,by omega,by go_num,by have:=HE.o;go_num,a7.o,K4.o⟩);case measure=>exact vJ};(have O:decide ((k:Int) < (n:Int) - 1 - k)=false:=by simp;omega);go_wp2;go_end0;refine⟨⟨_,rfl⟩,?_,HK.o.mono (fun _ _ e=>by rw[e];rfl)⟩;have:=q.o;rwa [jwk l k (kL H.o)]at this
def Ow:Nat->Nat->vN
 | 0,_=>[]
 | f+1,n=>if n=0 then []else UInt8.ofNat n :: Ow f (n / 256)
theorem DX:∀ (f n:Nat),(Ow f n).length<=f
 | 0,_=>bP _
 | f+1,n=>by
  simp only[Ow];split
  ·simp
  ·simp;exact DX f _
def Hn(n:Nat):vB:=⟨(Ow 8 n).reverse.toArray⟩
def jzo(w:vW)(n:Nat)(m b:vV)(wr:vW):Prop:=∃ (k:Nat) (acc:vN),m=.int .u64 k/\acc.length<=8/\k < 256 ^ (8 - acc.length)/\Ow 8 n=acc++Ow (8 - acc.length) k/\AA w wr b acc.length acc
theorem nF(n:Nat)(hn:n < 18446744073709551616):vR 119 #[.int .u64 n] w (Hn n):=by
 unfold vR vQ;go_in;go_wp2;go_loopw [0,3] (fun m b wr=>jzo w n m b wr) (fun m _ _=>(intOf m).toNat)
 case atStart=>exact⟨n,[],rfl,by simp,by simpa using hn,rfl,Av.nil _ _ (Aa w)⟩
 case round =>obtain⟨k,q,rfl,a2,hk,H,O⟩:=hrel;obtain⟨a,c,rfl⟩:=O.sl;have J:=Hd O;have HA:=Hd H;have HK:=Hd hk;clear O H hk;by_cases h0:0 < k;{(have a3:q.length < 8:=by rcases fA q.length 8 with h | h;{exact h};have:=HK.o;rw[show 8 - q.length=0 by omega]at this;omega);(go_wp2_with (at_builtin;refine Rc Mn (J.o.mono ((Aa wr).alloc _)) (.tmp 8) (.tmp 11) rfl rfl rfl (Jx (Ae.new wr _)) (news:=[.int .u8 (k % 256)]) (by intro u hu;simp at hu;rw[hu];rfl) rfl rfl ?c1 ?c2 (fun v' w' X r2 r3=>?_)));(case c1=>unfold maxLen;omega);(case c2=>omega);(have e2:Ei q++[.int .u8 ((k:Int) % 256)]=Ei (q++[UInt8.ofNat k]):=by rw[LT];simp only[Ei,bN,fX];rw[<-NW]);(rw[e2]at X;have A:Ow (8 - q.length) k=UInt8.ofNat k :: Ow (8 - (q.length+1)) (k / 256):=by rw[show 8 - q.length=(8 - (q.length+1))+1 by omega];simp only[Ow];rw[if_neg vO]);(have K:k / 256 < 256 ^ (8 - (q.length+1)):=by have:=HK.o;rw[show 8 - q.length=(8 - (q.length+1))+1 by omega,Nat.pow_succ]at this;omega);have HS:=Hd A;have Z:=Hd K;have a0:=Hd X;clear A K X r2 r3 e2 J;go_wp2;go_roundw;(case rel=>exact⟨k / 256,q++[UInt8.ofNat k],by go_num,by simp;omega,by simpa using Z.o,by rw[HA.o,HS.o];simp,by simpa using a0.o⟩);case measure=>exact vJ};have a1:k=0:=vO;(subst a1;have e:Ow 8 n=q:=by rw[HA.o];cases 8 - q.length <;> simp[Ow]);(have HE:=Hd e;clear e;go_wp2_with fail);refine (jtJ wr _ q.length q vO J.o.own).mono ?_;rintro e w1 ⟨⟨r,rfl⟩,R1,K1⟩;have a4:=BT w1 Bg Ch Ag R1;have HX:=Hd (ZY J.o.ext J.o.new K1);clear R1 K1;go_wp2;go_ret;exact⟨by unfold Hn;rw[HE.o];rfl,HX.o⟩
def Ng(base:vU)(n:Nat):vB:=
 if n<=55 then ⟨#[base+UInt8.ofNat n]⟩else ⟨#[base+55+UInt8.ofNat (Hn n).size]⟩++Hn n
theorem jrw:(w.alloc (.cells #[.int .u8 (b.toNat:Int)] 5)).ownsRow 0 5 1 (.slice (some w) 1 1) 1 (Ei [b]):=
 World.ownsRow_lit w _ 1 (cE _) vI rfl
theorem WD:((a.toNat:Int)+(b.toNat:Int)) % (256:Int)=((a+b).toNat:Int):=by
 rw[UInt8.toNat_add];omega
theorem YA:(convert 84 9 (.slice (some w) 1 1)).run Tryz.prog (w.alloc (.cells #[.int .u8 (b.toNat:Int)] 5))=.ok (.string ⟨#[b]⟩) (w.alloc (.cells #[.int .u8 (b.toNat:Int)] 5)):=
 BT _ Bg Ch Ag (jrw w b)
theorem WL(n:Nat)(hn:n<=1000000000):vR 68 #[.int .u8 base.toNat,.int .i64 n] w (Ng base n):=by
 by_cases h:n<=55
 ·obtain⟨x,q⟩:=vE (base+UInt8.ofNat n);(have e:((base.toNat:Int)+(n:Int)) % (256:Int)=(x.toNat:Int):=by rw[q, <-WD, <-NW];omega);have H:=YA w x;have J:=Hd (show Ng base n=⟨#[x]⟩ by unfold Ng;rw[if_pos h,q]);clear q;unfold vR vQ;go_in;go_wp2;go_ret;exact⟨by rw[J.o];rfl,(Aa w).alloc _⟩
 ·have J:=Hd (show Ng base n=⟨#[base+55+UInt8.ofNat (Hn n).size]⟩++Hn n by unfold Ng;rw[if_neg h]);(unfold vR vQ;go_in;go_wp2_with fail);refine vC (nF w n vO) fun w1 K=>?_;obtain⟨d,A⟩:=vE (Hn n);(have O:d.size<=8:=by rw[A];have:=DX 8 n;simpa [Hn,ByteArray.size]using this);obtain⟨x,q⟩:=vE (base+55+UInt8.ofNat d.size);(have e2:(((base.toNat:Int)+55) % (256:Int)+(d.size:Int)) % (256:Int)=(x.toNat:Int):=by rw[q, <-WD, <-WD, <-NW];show (((base.toNat:Int)+55) % (256:Int)+(d.size:Int)) % (256:Int)=((((base.toNat:Int)+55) % (256:Int))+(d.size:Int) % (256:Int)) % (256:Int);omega);have H:=YA w1 x;have X:=Hd A;have Z:=Hd q;rw[<-A];clear q A;go_wp2;go_ret;exact⟨by rw[J.o, <-X.o, <-Z.o];rfl,K.alloc _⟩
def Ay(b:vB):vB:=if b.size=1/\b.data.toList.headD 255 < 128 then b else Ng 128 b.size++b
theorem BV(n:Nat):(Ng base n).size<=9:=by
 have:=DX 8 n
 unfold Ng;split
 ·exact (by decide:1<=9)
 ·rw[cM];(have e:(⟨#[base+55+UInt8.ofNat (Hn n).size]⟩:vB).size=1:=rfl;have q:(Hn n).size=(Ow 8 n).length:=by simp[Hn,ByteArray.size]);omega
theorem Rf(b:vB)(hn:b.size<=1000000000):vR 29 #[b] w (Ay b):=by
 by_cases h1:b.size=1
 ·(obtain⟨x,rfl⟩:∃ x,b=⟨#[x]⟩:=by obtain⟨⟨l⟩⟩:=b;have A:l.length=1:=h1;match l,A with| [x],_=>exact⟨x,rfl⟩);by_cases hx:x < 128;{have q:=Hd (show Ay ⟨#[x]⟩=⟨#[x]⟩ by unfold Ay;rw[if_pos ⟨rfl,hx⟩]);(have K:(((⟨#[x]⟩:vB)[0]'(Nat.zero_lt_one)).toNat:Int) < 128:=by show (x.toNat:Int) < 128;have:=dQ.1 hx;have e:(128:vU).toNat=128:=rfl;omega);(clear hx h1;unfold vR vQ;go_in;go_wp2_with fail);all_goals first |(go_ret;exact⟨by rw[q.o];rfl,Aa w⟩) |(exfalso;omega)};have q:=Hd (show Ay ⟨#[x]⟩=Ng 128 1++⟨#[x]⟩ by unfold Ay;rw[if_neg (fun h=>hx h.2)];rfl);(have K:¬(((⟨#[x]⟩:vB)[0]'(Nat.zero_lt_one)).toNat:Int) < 128:=by show ¬(x.toNat:Int) < 128;have e:(128:vU).toNat=128:=rfl;have O:¬ x.toNat < (128:vU).toNat:=fun h=>hx (dQ.2 h);omega);(clear hx h1;unfold vR vQ;go_in;go_wp2_with fail);refine (WL w 128 1 vO).mono ?_;rintro e w' ⟨rfl,H⟩;have J:=BV 128 1;go_wp2;go_ret;exact⟨by rw[q.o];rfl,H⟩
 ·(have X:((b.size:Int) == 1)=false:=by simp;omega);(have q:=Hd (show Ay b=Ng 128 b.size++b by unfold Ay;rw[if_neg (fun h=>h1 h.1)]);clear h1;unfold vR vQ;go_in;go_wp2_with fail);refine (WL w 128 b.size hn).mono ?_;rintro e w' ⟨rfl,H⟩;have J:=BV 128 b.size;go_wp2;go_ret;exact⟨by rw[q.o];rfl,H⟩
