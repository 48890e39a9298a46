/- Lemmas; each is under no condition but those that it states. -/
import Derived.Test.YtdofbjccfkaijaaGreatDoorPn3
namespace Go.Proofs.YtdofbjccfkaijaaGreatDoor
set_option linter.unusedSimpArgs false
set_option linter.unusedVariables false
set_option maxRecDepth 100000
set_option maxHeartbeats 16000000
open Go Go.RowKit
def jcv(l:vN):vN:=l.flatMap fun(b:vU)=>[b >>> 4,b &&& 15]
def jbu(s:vB):vB:=⟨(jcv s.data.toList).toArray⟩
theorem Tryz.uBytes:Tryz.prog.underlying 132=some (.slice 5):=vY
theorem Tryz.uU8:Tryz.prog.underlying 5=some (.int .u8):=vY
theorem Tryz.uStr:Tryz.prog.underlying 9=some .string:=vY
theorem Tryz.infoU8:(Tryz.prog.info? 5).map (fun i=>(i.zero,i.size,i.bytes))=some (some (.int .u8 0),1,1):=vY
abbrev BRow(w0 w:vW)(v:vV)(n:Nat)(l:vN):Prop:=ORow 5 1 w0 w v n (jaL l)
def jxe(w:vW)(s:vB)(v i:vV)(wr:vW):Prop:=∃ k:Nat,k<=s.size/\i=.int .i64 k/\BRow w wr v (2 * k) (jcv (s.data.toList.take k))
theorem jmx(s:vB){k:Nat}(h:k < s.size):jcv (s.data.toList.take (k+1))=jcv (s.data.toList.take k)++[s[k] >>> 4,s[k] &&& 15]:=by
 have e:k < s.data.toList.length:=by simpa using h
 rw[cT e];simp only[jcv,dR,cH,fU,bW];rfl
theorem js8(b:vU):([.int .u8 (b.toNat / 16),.int .u8 (bits BinOp.and .u8 b.toNat 15)]:List vV)=jaL [b >>> 4,b &&& 15]:=by
 have h:∀ b:Fin 256,((b.1:Int) / (16:Int)=((UInt8.ofNat b.1 >>> 4).toNat:Int))/\bits BinOp.and .u8 b.1 15=((UInt8.ofNat b.1 &&& 15).toNat:Int):=by decide +kernel
 have:=h ⟨b.toNat,b.toNat_lt⟩
 simp only[iQ]at this;simp only[jaL,bV,iO,this.1,this.2]
theorem jpw(w:vW)(s:vB)(hs:s.size<=1000000):vR 53 #[.string s] w (.string (jbu s)):=by
 obtain⟨i0,hi,J,O,Q⟩:=info_parts Tryz.infoU8
 obtain⟨w1,z,A,X⟩:=run_make_own (P:=Tryz.prog) (w:=w) w.heap.size 132 5 i0 _ 1 Tryz.uBytes hi J O .i64 .i64 (2 * s.size) (by rw[Q];omega) (by unfold maxLen;omega) (bL _)
 have a5:(Instr.makeSlice 132 (.int .i64 0) (.int .i64 (2 * (s.size:Int)))).run Tryz.prog w=.ok (.slice (some ⟨w.heap.size,0,none⟩) 0 (2 * s.size)) w1:=by rw[<-z];congr 3
 have HO:=Hd A;have HG:=Hd X;clear A X z;unfold vR vQ;go_in;go_wp2;go_loopw [3,11] (fun v i wr=>jxe w s v i wr) (fun _ i _=>s.size - (intOf i).toNat)
 case atStart=>exact⟨0,cE _,rfl,ORow.made w HO.o HG.o⟩
 case round =>
  obtain⟨k,hk,rfl,hR⟩:=hrel
  obtain⟨a,c,rfl⟩:=hR.sl
  have HR:=Hd hR;clear hR
  by_cases hlt:k < s.size
  ·go_wp2
   refine jaz [0,1,2,3,4,5,6,7,8,9,10,11] [9,10] Ext ExtR ExtT vY vY vY ?_;iterate 9 refine vP ?_
   refine qH _ rfl (fun w1 he K Z=>?_);go_simp;refine Z _ _ ?_;clear Z K;have a0:=Hd ((HR.o.mono (jah wr)).mono he);clear he HR;refine qH _ rfl (fun w2 E K Z=>?_);have hn:∀ j u,([.int .u8 (s[k].toNat / 16),.int .u8 (bits BinOp.and .u8 s[k].toNat 15)]:List vV)[j]?=some u->w2.cell? ((⟨w1.heap.size,0,none⟩:Addr).add j)=some u:=fun j u hj=>jaa (jvJ w1 5 _ j u hj) E;have H:=a0.o.mono (((ExtR w1).alloc _).trans E);refine jdE w2 (.tmp 14) (.tmp 23) 132 rfl 5 i0 _ 1 1 Tryz.uBytes hi J O Q rfl vI _ (2 * k) _ rfl H.own ⟨w1.heap.size,0,none⟩ 2 2 _ rfl rfl hn (by intro u hu;simp at hu;rcases hu with rfl | rfl <;> rfl) (by unfold maxLen;omega) vO (fun v' w3 r1 r2 r3=>Z _ _ ?_);clear Z K hn;have e2:([.int .u8 (s[k].toNat / 16),.int .u8 (bits BinOp.and .u8 s[k].toNat 15)]:List vV)=jaL [s[k] >>> 4,s[k] &&& 15]:=by
    exact js8 s[k]
   rw[e2]at r1;have a1:Hid (BRow w w3 v' (2 * k+2) (jcv (s.data.toList.take k)++[s[k] >>> 4,s[k] &&& 15])):=Hd (by unfold BRow;rw[jdw];exact H.step r1 r2 r3);clear r1 r2 r3 H E a0 e2;refine vS ?_;refine vP ?_;refine qE (fun w4 a2=>?_);have a3:=Hd (a1.o.mono a2);clear a2 a1;go_wp2;go_roundw
   case rel=>exact⟨k+1,by omega,by go_num,by rw[jmx s hlt];exact a3.o⟩
   case measure=>exact vJ
  ·have a4:=jbA wr Tryz.uBytes Tryz.uU8 Tryz.uStr HR.o.own
   have e:(⟨(jcv (s.data.toList.take k)).toArray⟩:vB)=jbu s:=by unfold jbu;rw[bN (by simp;omega)]
   rw[e]at a4;clear e;go_wp2;go_ret
   exact⟨rfl,HR.o.ext⟩
def jcz:vN->vN
 | x :: y :: r=>(x <<< 4 ||| y) :: jcz r
 | _=>[]
def jbt(s:vB):vB:=⟨(jcz s.data.toList).toArray⟩
theorem jdo:∀ (l:vN),(jcz l).length=l.length / 2
 | []=>rfl
 | [_]=>by simp[jcz]
 | _ :: _ :: r=>by simp only[jcz,bF,jdo r];omega
theorem jiT:∀ (l:vN) (j:Nat) (h:2 * j+1 < l.length),(jcz l)[j]?=some (l[2 * j] <<< 4 ||| l[2 * j+1])
 | [],_,h=>by simp at h
 | [_],_,h=>by simp at h
 | x :: y :: r,0,_=>by simp[jcz]
 | x :: y :: r,j+1,h=>by
  have:=jiT r j (by simp at h;omega)
  simp only[jcz,List.getElem?_cons_succ,this,Nat.mul_add,jG]
  congr 1
def jcE(s:vB)(k:Nat):List vV:=jaL ((jcz s.data.toList).take k)++List.replicate (s.size / 2 - k) (.int .u8 0)
theorem jkW(s:vB)(k:Nat)(h:k<=s.size / 2):(jcE s k).length=s.size / 2:=by
 have:=jdo s.data.toList
 simp at this;simp[jcE,this];omega
theorem jkX(s:vB)(k:Nat)(h:k < s.size / 2):(jcE s k).set k (.int .u8 (((s[2 * k]'(by omega)) <<< 4 |||(s[2 * k+1]'(by omega))).toNat:Int))=jcE s (k+1):=by
 have e:=jdo s.data.toList;simp at e;have A:(jaL ((jcz s.data.toList).take k)).length=k:=by simp[e];omega
 have E:s.size / 2 - k=(s.size / 2 - (k+1))+1:=vO
 have o:=jiT s.data.toList k (by simp;omega);have z:k < (jcz s.data.toList).length:=vO
 rw[bA z]at o;have H:=bS o;unfold jcE;rw[E,fH,fJ _ _ vO,A,iW,dM,cT z,jdw,cD]
 congr 1
 simp only[jaL,bV,iO,cZ,cP,H];rfl
theorem jkV(s:vB):jcE s (s.size / 2)=jaL (jcz s.data.toList):=by
 have e:=jdo s.data.toList;simp at e;unfold jcE;rw[bN vO];simp
def jxd(w:vW)(s:vB)(n:Nat)(i:vV)(wr:vW):Prop:=∃ k:Nat,k<=n/\i=.int .i64 k/\ORow 5 1 w wr (.slice (some ⟨w.heap.size,0,none⟩) n n) n (jcE s k)
theorem jn0(w:vW)(s:vB)(hs:s.size<=1000000):vR 115 #[.string s] w (.string (jbt s)):=by
 obtain⟨i0,hi,X,Z,a0⟩:=info_parts Tryz.infoU8
 obtain⟨n,hn⟩:=vE (s.size / 2)
 have hq:(s.size:Int) / 2=(n:Int):=vO
 have a4:2 * n<=s.size:=vO
 have J:=Hd hn;clear hn;have a1:=jfp (P:=Tryz.prog) w Tryz.uBytes hi X Z rfl .i64 .i64 n (by rw[a0];omega) (by unfold maxLen;omega);unfold vR vQ;go_in;go_wp2;clear hq a1;go_loopw [11] (fun i wr=>jxd w s n i wr) (fun i _=>n - (intOf i).toNat)
 case atStart =>
  refine⟨0,cE _,rfl,?_⟩
  have h:=ORow.lit (T:=5) (sz:=1) (List.replicate n (.int .u8 0)).toArray (n:=n) (ExtR w) (by unfold maxLen;omega) (by simp);have e:jcE s 0=List.replicate n (.int .u8 0):=by simp[jcE,jaL,J.o]
  rw[e];simpa using h
 case round =>
  obtain⟨k,hk,rfl,hR⟩:=hrel
  have Q:=Hd hR;clear hR
  by_cases hlt:k < n
  ·have b1:2 * k < s.size:=vO
   have b2:2 * k+1 < s.size:=vO
   have c0:(0:Int)<=2 * (k:Int):=vO
   have c1:2 * (k:Int) < (s.size:Int):=vO
   have c2:(0:Int)<=2 * (k:Int)+1:=vO
   have c3:2 * (k:Int)+1 < (s.size:Int):=vO
   go_wp2;refine jaz [0,1,2,3,4,5,6,7,8,9,10,11,12,13,14] [14] Ext ExtR ExtT vY vY vY ?_;iterate 14 refine vP ?_
   refine qH _ rfl (fun w1 H K hK=>?_);have A:=Hd (Q.o.mono ((jah wr).trans H));clear H Q;have z:=A.o.own.cellAt k vO;rw[bA (by rw[jkW _ _ (by have:=J.o;omega)];have:=J.o;omega)]at z;have a2:=A.o.own.frozenAt k;go_simp;refine hK _ _ ?_;clear hK K z a2;have E:=A.o.set k (.int .u8 ((s[2 * k] <<< 4 ||| s[2 * k+1]).toNat:Int));rw[jkX s k (by have:=J.o;omega)]at E;have O:=Hd E;clear E A;refine qE (fun w2 H=>?_);rw[jyg]at H;have a3:=Hd (O.o.mono H);clear H O;go_wp2;go_roundw
   case rel=>exact⟨k+1,by omega,by go_num,a3.o⟩
   case measure=>exact vJ
  ·have a5:=jbA wr Tryz.uBytes Tryz.uU8 Tryz.uStr (l:=jcz s.data.toList) (n:=n) (by have:=Q.o.own;rw[show k=s.size / 2 from by have:=J.o;omega,jkV]at this;exact this)
   go_wp2;go_ret
   exact⟨rfl,Q.o.ext⟩
def jbh(a b:vB):Bool:=Op.bytesLess a.toList b.toList
theorem Tryz.sBytes:jd0 Tryz.prog 132 5 1 1:=jd0.mk' Tryz.uBytes Tryz.infoU8 rfl vI
def revK(l:vN)(k:Nat):vN:=(List.range l.length).map fun i=>if i < k\/l.length - 1 - k < i then l.getD (l.length - 1 - i) 0 else l.getD i 0
@[simp] theorem revK_len (l:vN) (k:Nat):(revK l k).length=l.length:=by simp[revK]
theorem jtJ(l:vN):revK l 0=l:=by
 apply List.ext_getElem (by simp);intro i o e;simp only[revK,List.getElem_map,List.getElem_range];rw[if_neg vO];simp[e]
theorem jwa(l:vN)(k:Nat)(h:l.length<=2 * k+1):revK l k=l.reverse:=by
 apply List.ext_getElem (by simp);intro i e o;simp at e;simp only[revK,List.getElem_map,List.getElem_range,List.getElem_reverse]
 by_cases hc:i < k\/l.length - 1 - k < i
 ·rw[if_pos hc];simp[show l.length - 1 - i < l.length by omega]
 ·rw[if_neg hc]
  have:i=l.length - 1 - i:=vO
  simp only[bG,bA e,Option.getD_some]
  congr 1
theorem jpF(l:vN)(k i:Nat)(hi:i < l.length)(h1:k<=i)(h2:i<=l.length - 1 - k):(revK l k)[i]?=some l[i]:=by
 simp only[revK,cA,fA hi,gO];rw[if_neg vO];simp[hi]
theorem jtI(l:vN)(k:Nat)(h:2 * k+1 < l.length):((revK l k).set k (l[l.length - 1 - k]'(by omega))).set (l.length - 1 - k) (l[k]'(by omega))=revK l (k+1):=by
 apply List.ext_getElem (by simp);intro i o e;simp at e;simp only[List.getElem_set,revK,List.getElem_map,List.getElem_range]
 by_cases e1:l.length - 1 - k=i
 ·subst e1
  rw[if_pos rfl,if_pos vO]
  have:l.length - 1 - (l.length - 1 - k)=k:=vO
  rw[this];simp[show k < l.length by omega]
 ·rw[if_neg e1]
  by_cases e2:k=i
  ·subst e2
   rw[if_pos rfl,if_pos vO];simp[show l.length - 1 - k < l.length by omega]
  ·rw[if_neg e2]
   by_cases c:i < k\/l.length - 1 - k < i
   ·rw[if_pos c,if_pos vO]
   ·rw[if_neg c,if_neg vO]
def jzq(w:vW)(g n c:Nat)(l:vN)(i j:vV)(wr:vW):Prop:=∃ k:Nat,k<=n/\i=.int .i64 k/\j=.int .i64 ((n:Int) - 1 - k)/\wr.ownsRow 0 5 1 (.slice (some ⟨g,0,none⟩) n c) n (jaL (revK l k))/\jaf (fun b=>b=g) w wr
def jxf(w:vW)(v:vV)(n:Nat)(l:vN)(e:Ending)(w':vW):Prop:=(∃ r,e=.returned r)/\w'.ownsRow 0 5 1 v n (jaL l.reverse)/\jaf (fun b=>v.ownBlock=some b) w w'
theorem jtK(w:vW)(v:vV)(n:Nat)(l:vN)(hs:n<=1000000)(hr:w.ownsRow 0 5 1 v n (jaL l)):vQ 166 #[v] w (jxf w v n l):=by
 have X:l.length=n:=by have:=hr.1;simp at this;exact this
 have E:=Hd X;clear X;have HR:=Hd hr
 obtain⟨_,⟨rfl,h2⟩ |⟨g,c,a6,rfl,_⟩⟩:=hr
 ·have hl:l=[]:=bD (by have:=E.o;omega)
  subst hl;unfold vQ;go_in;go_wp2;refine wp_loop_once ?_;go_wp2;go_end0
  exact⟨⟨_,rfl⟩,HR.o,jaf.refl _ _⟩
 ·unfold vQ;go_in
  go_wp2;go_loopw [2,3] (fun i j wr=>jzq w g n c l i j wr) (fun i _ _=>n - (intOf i).toNat)
  case atStart=>exact⟨0,cE _,rfl,by go_num,by rw[jtJ];exact HR.o,jaf.refl _ _⟩
  case round =>
   obtain⟨k,hk,rfl,rfl,hR,H⟩:=hrel
   have z:=Hd hR;have HK:=Hd H;clear hR H
   by_cases hlt:2 * k+1 < n
   ·have J:decide ((k:Int) < (n:Int) - 1 - k)=true:=by simp;omega
    have a7:k < n:=vO
    have e0:((n:Int) - 1 - k)=((n - 1 - k:Nat):Int):=vO
    have HE:=Hd e0;have c1:=z.o.cellAt k vO;have c2:=z.o.cellAt (n - 1 - k) vO;have f1:=z.o.frozenAt k;have f2:=z.o.frozenAt (n - 1 - k);have lk:k < l.length:=by have:=E.o;omega
    have a1:n - 1 - k < l.length:=by have:=E.o;omega
    rw[jaL,cA,jpF l k k lk (bL _) (by have:=E.o;omega)]at c1;rw[jaL,cA,jpF l k (n - 1 - k) a1 vO (by have:=E.o;omega)]at c2;simp only[gO]at c1 c2;have Z:=Hd c1;have a2:=Hd c2;have a3:=Hd f1;have a8:=Hd f2;clear c1 c2 f1 f2;rw[e0]at J;go_wp2;rw[e0];clear e0;have d1:(0:Int)<=((n - 1 - k:Nat):Int):=vO
    have d2:((n - 1 - k:Nat):Int) < (n:Int):=vO
    refine jaz [0,1,2,3,4,5,6,7,8,9,10,11,12,13,14,15] [13,15] Ext ExtR ExtT vY vY vY ?_;iterate 7 refine vP ?_
    refine qL ⟨g,n - 1 - k,none⟩ _ rfl (fun w1 h1=>jab Tryz.uU8 rfl (jaa (by exact a2.o) h1)) ?_;refine vS ?_;iterate 3 refine vP ?_
    refine qL ⟨g,k,none⟩ _ rfl (fun w1 h1=>jab Tryz.uU8 rfl (jaa (by exact Z.o) h1)) ?_;refine vS ?_
    refine vP ?_
    refine qH _ rfl (fun w1 A K H=>?_);have O:=jbo z.o ((jah wr).trans A);have K1:=HK.o.trans' ((jah wr).trans A) (fun _ _ h=>h.elim);have q1:=jaa Z.o ((jah wr).trans A);have q2:=a3.o;have q2:w1.frozen? ⟨g,k,none⟩=false:=O.frozenAt k;have Q:=(O.stored k (.int .u8 (l[n - 1 - k].toNat:Int))).1;have K2:=Hd (K1.setCell (p:=⟨g,k,none⟩) (.inl rfl) (.int .u8 (l[n - 1 - k].toNat:Int)));have a4:=Hd Q;clear O K1 Q A;go_simp;refine H _ _ ?_;clear H K q1 q2
    refine vP ?_
    refine qH _ rfl (fun w2 A K H=>?_);have O:=jbo a4.o A;have K1:=K2.o.trans' A (fun _ _ h=>h.elim)
    obtain⟨old,q1⟩:=jvT O (n - 1 - k) vO
    have q2:=O.frozenAt (n - 1 - k);have Q:=(O.stored (n - 1 - k) (.int .u8 (l[k].toNat:Int))).1;have K3:=Hd (K1.setCell (p:=⟨g,n - 1 - k,none⟩) (.inl rfl) (.int .u8 (l[k].toNat:Int)));have e:((jaL (revK l k)).set k (.int .u8 (l[n - 1 - k].toNat:Int))).set (n - 1 - k) (.int .u8 (l[k].toNat:Int))=jaL (revK l (k+1)):=by
     have hh:=jtI l k (by have:=E.o;omega);rw[<-hh];simp only[jaL,iA];simp only[E.o]
    rw[e]at Q;have a0:=Hd Q;clear O K1 Q A e;go_simp;refine H _ _ ?_;clear H K q1 q2;refine qE (fun w3 A=>?_);have a5:=Hd (jbo a0.o A);have K4:=Hd (K3.o.trans' A (fun _ _ h=>h.elim));clear A a0 K3;go_wp2;go_roundw
    case rel=>exact⟨k+1,by omega,by go_num,by have:=HE.o;go_num,a5.o,K4.o⟩
    case measure=>exact vJ
   ·have J:decide ((k:Int) < (n:Int) - 1 - k)=false:=by simp;omega
    go_wp2;go_end0
    refine⟨⟨_,rfl⟩,?_,HK.o.mono (fun _ _ e=>by rw[e];rfl)⟩
    have:=z.o
    rwa [jwa l k (by have:=E.o;omega)]at this
def leF:Nat->Nat->vN
 | 0,_=>[]
 | f+1,n=>if n=0 then []else UInt8.ofNat n :: leF f (n / 256)
theorem jht:∀ (f n:Nat),(leF f n).length<=f
 | 0,_=>bL _
 | f+1,n=>by
  simp only[leF];split
  ·simp
  ·simp;exact jht f _
def jcV(n:Nat):vB:=⟨(leF 8 n).reverse.toArray⟩
def jy5(w:vW)(n:Nat)(m b:vV)(wr:vW):Prop:=∃ (k:Nat) (acc:vN),m=.int .u64 k/\acc.length<=8/\k < 256 ^ (8 - acc.length)/\leF 8 n=acc++leF (8 - acc.length) k/\BRow w wr b acc.length acc
theorem ju7(w:vW)(n:Nat)(hn:n < 18446744073709551616):vR 144 #[.int .u64 n] w (.string (jcV n)):=by
 unfold vR vQ;go_in;go_wp2;go_loopw [0,3] (fun m b wr=>jy5 w n m b wr) (fun m _ _=>(intOf m).toNat)
 case atStart=>exact⟨n,[],rfl,by simp,by simpa using hn,rfl,ORow.nil _ _ (ExtR w)⟩
 case round =>
  obtain⟨k,z,rfl,a0,hk,E,K⟩:=hrel
  obtain⟨a,c,rfl⟩:=K.sl
  have H:=Hd K;have HA:=Hd E;have HK:=Hd hk;clear K E hk
  by_cases h0:0 < k
  ·have a1:z.length < 8:=by
    rcases fQ z.length 8 with h | h
    ·exact h
    ·have:=HK.o;rw[show 8 - z.length=0 by omega]at this;omega
   go_wp2_with (at_builtin;refine jaK Tryz.sBytes (H.o.mono ((ExtR wr).alloc _)) (.tmp 8) (.tmp 11) rfl rfl rfl (jaI (Blk.new wr _)) (news:=[.int .u8 (k % 256)]) (by intro u hu;simp at hu;rw[hu];rfl) rfl rfl ?c1 ?c2 (fun v' w' O r2 r3=>?_))
   case c1=>unfold maxLen;omega
   case c2=>omega
   have e2:jaL z++[.int .u8 ((k:Int) % 256)]=jaL (z++[UInt8.ofNat k]):=by
    rw[jdw];simp only[jaL,bV,iO];rw[<-jh7]
   rw[e2]at O;have A:leF (8 - z.length) k=UInt8.ofNat k :: leF (8 - (z.length+1)) (k / 256):=by
    rw[show 8 - z.length=(8 - (z.length+1))+1 by omega];simp only[leF];rw[if_neg vO]
   have J:k / 256 < 256 ^ (8 - (z.length+1)):=by
    have:=HK.o
    rw[show 8 - z.length=(8 - (z.length+1))+1 by omega,Nat.pow_succ]at this;omega
   have HS:=Hd A;have Q:=Hd J;have X:=Hd O;clear A J O r2 r3 e2 H;go_wp2;go_roundw
   case rel=>exact⟨k / 256,z++[UInt8.ofNat k],by go_num,by simp;omega,by simpa using Q.o,by rw[HA.o,HS.o];simp,by simpa using X.o⟩
   case measure=>exact vJ
  ·have Z:k=0:=vO
   subst Z;have e:leF 8 n=z:=by rw[HA.o];cases 8 - z.length <;> simp[leF]
   have HE:=Hd e;clear e;go_wp2_with fail
   refine (jtK wr _ z.length z vO H.o.own).mono ?_;rintro e w1 ⟨⟨r,rfl⟩,R1,K1⟩;have a2:=jbA w1 Tryz.uBytes Tryz.uU8 Tryz.uStr R1;have HX:=Hd (jhh H.o.ext H.o.new K1);clear R1 K1;go_wp2;go_ret
   exact⟨by unfold jcV;rw[HE.o];rfl,HX.o⟩
def jb6(base:vU)(n:Nat):vB:=
 if n<=55 then ⟨#[base+UInt8.ofNat n]⟩else ⟨#[base+55+UInt8.ofNat (jcV n).size]⟩++jcV n
theorem jrQ(w:vW)(b:vU):(w.alloc (.cells #[.int .u8 (b.toNat:Int)] 5)).ownsRow 0 5 1 (.slice (some ⟨w.heap.size,0,none⟩) 1 1) 1 (jaL [b]):=
 World.ownsRow_lit w _ 1 (cE _) vI rfl
theorem jro(a b:vU):((a.toNat:Int)+(b.toNat:Int)) % (256:Int)=((a+b).toNat:Int):=by
 rw[iY];omega
theorem jcG(w:vW)(b:vU):(convert 132 9 (.slice (some ⟨w.heap.size,0,none⟩) 1 1)).run Tryz.prog (w.alloc (.cells #[.int .u8 (b.toNat:Int)] 5))=.ok (.string ⟨#[b]⟩) (w.alloc (.cells #[.int .u8 (b.toNat:Int)] 5)):=
 jbA _ Tryz.uBytes Tryz.uU8 Tryz.uStr (jrQ w b)
theorem jsv(w:vW)(base:vU)(n:Nat)(hn:n<=1000000000):vR 116 #[.int .u8 base.toNat,.int .i64 n] w (.string (jb6 base n)):=by
 by_cases h:n<=55
 ·obtain⟨x,z⟩:=vE (base+UInt8.ofNat n)
  have e:((base.toNat:Int)+(n:Int)) % (256:Int)=(x.toNat:Int):=by rw[z, <-jro, <-jh7];omega
  have E:=jcG w x;have H:=Hd (show jb6 base n=⟨#[x]⟩ by unfold jb6;rw[if_pos h,z]);clear z;unfold vR vQ;go_in;go_wp2;go_ret
  exact⟨by rw[H.o];rfl,(ExtR w).alloc _⟩
 ·have H:=Hd (show jb6 base n=⟨#[base+55+UInt8.ofNat (jcV n).size]⟩++jcV n by unfold jb6;rw[if_neg h])
  unfold vR vQ;go_in;go_wp2_with fail
  refine vC (ju7 w n vO) fun w1 J=>?_
  obtain⟨d,A⟩:=vE (jcV n)
  have K:d.size<=8:=by rw[A];have:=jht 8 n;simpa [jcV,ByteArray.size]using this
  obtain⟨x,z⟩:=vE (base+55+UInt8.ofNat d.size)
  have X:(((base.toNat:Int)+55) % (256:Int)+(d.size:Int)) % (256:Int)=(x.toNat:Int):=by
   rw[z, <-jro, <-jro, <-jh7];show (((base.toNat:Int)+55) % (256:Int)+(d.size:Int)) % (256:Int)=((((base.toNat:Int)+55) % (256:Int))+(d.size:Int) % (256:Int)) % (256:Int);omega
  have E:=jcG w1 x;have O:=Hd A;have Q:=Hd z;rw[<-A];clear z A;go_wp2;go_ret
  exact⟨by rw[H.o, <-O.o, <-Q.o];rfl,J.alloc _⟩
def jan(b:vB):vB:=if b.size=1/\b.data.toList.headD 255 < 128 then b else jb6 128 b.size++b
theorem jes(base:vU)(n:Nat):(jb6 base n).size<=9:=by
 have:=jht 8 n
 unfold jb6;split
 ·exact (by decide:1<=9)
 ·rw[bU]
  have e:(⟨#[base+55+UInt8.ofNat (jcV n).size]⟩:vB).size=1:=rfl;have o:(jcV n).size=(leF 8 n).length:=by simp[jcV,ByteArray.size]
  omega
theorem jea(w:vW)(b:vB)(hn:b.size<=1000000000):vR 83 #[.string b] w (.string (jan b)):=by
 by_cases h1:b.size=1
 ·obtain⟨x,rfl⟩:∃ x,b=⟨#[x]⟩:=by
   obtain⟨⟨l⟩⟩:=b
   have A:l.length=1:=h1
   match l,A with
   | [x],_=>exact⟨x,rfl⟩
  by_cases hx:x < 128
  ·have z:=Hd (show jan ⟨#[x]⟩=⟨#[x]⟩ by unfold jan;rw[if_pos ⟨rfl,hx⟩])
   have J:(((⟨#[x]⟩:vB)[0]'(iZ)).toNat:Int) < 128:=by show (x.toNat:Int) < 128;have:=dD.1 hx;have e:(128:vU).toNat=128:=rfl;omega
   clear hx h1;unfold vR vQ;go_in;go_wp2_with fail
   all_goals first |(go_ret;exact⟨by rw[z.o];rfl,ExtR w⟩) |(exfalso;omega)
  ·have z:=Hd (show jan ⟨#[x]⟩=jb6 128 1++⟨#[x]⟩ by unfold jan;rw[if_neg (fun h=>hx h.2)];rfl)
   have J:¬(((⟨#[x]⟩:vB)[0]'(iZ)).toNat:Int) < 128:=by show ¬(x.toNat:Int) < 128;have e:(128:vU).toNat=128:=rfl;have K:¬ x.toNat < (128:vU).toNat:=fun h=>hx (dD.2 h);omega
   clear hx h1;unfold vR vQ;go_in;go_wp2_with fail
   refine (jsv w 128 1 vO).mono ?_;rintro e w' ⟨rfl,E⟩;have H:=jes 128 1;go_wp2;go_ret
   exact⟨by rw[z.o];rfl,E⟩
 ·have O:((b.size:Int) == 1)=false:=by simp;omega
  have z:=Hd (show jan b=jb6 128 b.size++b by unfold jan;rw[if_neg (fun h=>h1 h.1)]);clear h1;unfold vR vQ;go_in;go_wp2_with fail
  refine (jsv w 128 b.size hn).mono ?_;rintro e w' ⟨rfl,E⟩;have H:=jes 128 b.size;go_wp2;go_ret
  exact⟨by rw[z.o];rfl,E⟩
