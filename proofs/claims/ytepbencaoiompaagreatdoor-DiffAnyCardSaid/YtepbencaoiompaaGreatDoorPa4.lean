/- Lemmas; each is under no condition but those that it states. -/
import Derived.Test.YtepbencaoiompaaGreatDoorPa3
namespace Go.Proofs.YtepbencaoiompaaGreatDoor
set_option linter.unusedSimpArgs false
set_option linter.unusedVariables false
set_option maxRecDepth 100000
set_option maxHeartbeats 16000000
open Go Go.RowKit
def jcR(l:vN):vN:=l.flatMap fun(b:vU)=>[b >>> 4,b &&& 15]
def jaM(s:vB):vB:=⟨(jcR s.data.toList).toArray⟩
theorem Tryz.uBytes:Tryz.prog.underlying 42=some (.slice 5):=vY
theorem Tryz.uU8:Tryz.prog.underlying 5=some (.int .u8):=vY
theorem Tryz.uStr:Tryz.prog.underlying 9=some .string:=vY
theorem Tryz.infoU8:(Tryz.prog.info? 5).map (fun i=>(i.zero,i.size,i.bytes))=some (some (.int .u8 0),1,1):=vY
abbrev BRow(w0 w:vW)(v:vV)(n:Nat)(l:vN):Prop:=ORow 5 1 w0 w v n (jaN l)
def jxL(w:vW)(s:vB)(v i:vV)(wr:vW):Prop:=∃ k:Nat,k<=s.size/\i=.int .i64 k/\BRow w wr v (2 * k) (jcR (s.data.toList.take k))
theorem jtP(s:vB){k:Nat}(h:k < s.size):jcR (s.data.toList.take (k+1))=jcR (s.data.toList.take k)++[s[k] >>> 4,s[k] &&& 15]:=by
 have e:k < s.data.toList.length:=by simpa using h
 rw[cS e];simp only[jcR,dS,cG,fP,bU];rfl
theorem jtz(b:vU):([.int .u8 (b.toNat / 16),.int .u8 (bits BinOp.and .u8 b.toNat 15)]:List vV)=jaN [b >>> 4,b &&& 15]:=by
 have h:∀ b:Fin 256,((b.1:Int) / (16:Int)=((UInt8.ofNat b.1 >>> 4).toNat:Int))/\bits BinOp.and .u8 b.1 15=((UInt8.ofNat b.1 &&& 15).toNat:Int):=by decide +kernel
 have:=h ⟨b.toNat,b.toNat_lt⟩
 simp only[iN]at this;simp only[jaN,bV,iL,this.1,this.2]
theorem jft(w:vW)(s:vB)(hs:s.size<=1000000):vR 33 #[.string s] w (.string (jaM s)):=by
 obtain⟨i0,hi,H,J,O⟩:=info_parts Tryz.infoU8
 obtain⟨w1,q,z,Q⟩:=run_make_own (P:=Tryz.prog) (w:=w) w.heap.size 42 5 i0 _ 1 Tryz.uBytes hi H J .i64 .i64 (2 * s.size) (by rw[O];omega) (by unfold maxLen;omega) (bL _)
 have a4:(Instr.makeSlice 42 (.int .i64 0) (.int .i64 (2 * (s.size:Int)))).run Tryz.prog w=.ok (.slice (some ⟨w.heap.size,0,none⟩) 0 (2 * s.size)) w1:=by rw[<-q];congr 3
 have HO:=Hd z;have HG:=Hd Q;clear z Q q;go_enter Tryz.func33,Tryz.ntmps33;go_wp2;go_loopw [3,11] (fun v i wr=>jxL w s v i wr) (fun _ i _=>s.size - (intOf i).toNat)
 case atStart=>exact⟨0,bY _,rfl,ORow.made w HO.o HG.o⟩
 case round =>
  obtain⟨k,hk,rfl,hR⟩:=hrel
  obtain⟨a,c,rfl⟩:=hR.sl
  have HR:=Hd hR;clear hR
  by_cases hlt:k < s.size
  ·go_wp2
   refine jaw [0,1,2,3,4,5,6,7,8,9,10,11] [9,10] Ext ExtR ExtT vY vY vY ?_;iterate 9 refine vP ?_
   refine qH _ rfl (fun w1 he K X=>?_);go_simp;refine X _ _ ?_;clear X K;have Z:=Hd ((HR.o.mono (jaq wr)).mono he);clear he HR;refine qH _ rfl (fun w2 A K X=>?_);have hn:∀ j u,([.int .u8 (s[k].toNat / 16),.int .u8 (bits BinOp.and .u8 s[k].toNat 15)]:List vV)[j]?=some u->w2.cell? ((⟨w1.heap.size,0,none⟩:Addr).add j)=some u:=fun j u hj=>jaa (jv7 w1 5 _ j u hj) A;have E:=Z.o.mono (((ExtR w1).alloc _).trans A);refine jdO w2 (.tmp 14) (.tmp 23) 42 rfl 5 i0 _ 1 1 Tryz.uBytes hi H J O rfl vI _ (2 * k) _ rfl E.own ⟨w1.heap.size,0,none⟩ 2 2 _ rfl rfl hn (by intro u hu;simp at hu;rcases hu with rfl | rfl <;> rfl) (by unfold maxLen;omega) vO (fun v' w3 r1 r2 r3=>X _ _ ?_);clear X K hn;have e2:([.int .u8 (s[k].toNat / 16),.int .u8 (bits BinOp.and .u8 s[k].toNat 15)]:List vV)=jaN [s[k] >>> 4,s[k] &&& 15]:=by
    exact jtz s[k]
   rw[e2]at r1;have a0:Hid (BRow w w3 v' (2 * k+2) (jcR (s.data.toList.take k)++[s[k] >>> 4,s[k] &&& 15])):=Hd (by unfold BRow;rw[jdG];exact E.step r1 r2 r3);clear r1 r2 r3 E A Z e2;refine vS ?_;refine vP ?_;refine qE (fun w4 a1=>?_);have a2:=Hd (a0.o.mono a1);clear a1 a0;go_wp2;go_roundw
   case rel=>exact⟨k+1,by omega,by go_num,by rw[jtP s hlt];exact a2.o⟩
   case measure=>exact vJ
  ·have a3:=jbj wr Tryz.uBytes Tryz.uU8 Tryz.uStr HR.o.own
   have e:(⟨(jcR (s.data.toList.take k)).toArray⟩:vB)=jaM s:=by unfold jaM;rw[cD (by simp;omega)]
   rw[e]at a3;clear e;go_wp2;go_ret
   exact⟨rfl,HR.o.ext⟩
def jc7:vN->vN
 | x :: y :: r=>(x <<< 4 ||| y) :: jc7 r
 | _=>[]
def jbC(s:vB):vB:=⟨(jc7 s.data.toList).toArray⟩
theorem jeD:∀ (l:vN),(jc7 l).length=l.length / 2
 | []=>rfl
 | [_]=>by simp[jc7]
 | _ :: _ :: r=>by simp only[jc7,bO,jeD r];omega
theorem jmX:∀ (l:vN) (j:Nat) (h:2 * j+1 < l.length),(jc7 l)[j]?=some (l[2 * j] <<< 4 ||| l[2 * j+1])
 | [],_,h=>by simp at h
 | [_],_,h=>by simp at h
 | x :: y :: r,0,_=>by simp[jc7]
 | x :: y :: r,j+1,h=>by
  have:=jmX r j (by simp at h;omega)
  simp only[jc7,List.getElem?_cons_succ,this,Nat.mul_add,iX]
  congr 1
def jcI(s:vB)(k:Nat):List vV:=jaN ((jc7 s.data.toList).take k)++List.replicate (s.size / 2 - k) (.int .u8 0)
theorem jlf(s:vB)(k:Nat)(h:k<=s.size / 2):(jcI s k).length=s.size / 2:=by
 have:=jeD s.data.toList
 simp at this;simp[jcI,this];omega
theorem jlg(s:vB)(k:Nat)(h:k < s.size / 2):(jcI s k).set k (.int .u8 (((s[2 * k]'(by omega)) <<< 4 |||(s[2 * k+1]'(by omega))).toNat:Int))=jcI s (k+1):=by
 have e:=jeD s.data.toList;simp at e;have z:(jaN ((jc7 s.data.toList).take k)).length=k:=by simp[e];omega
 have A:s.size / 2 - k=(s.size / 2 - (k+1))+1:=vO
 have o:=jmX s.data.toList k (by simp;omega);have q:k < (jc7 s.data.toList).length:=vO
 rw[bA q]at o;have E:=bQ o;unfold jcI;rw[A,fK,fN _ _ vO,z,Nat.sub_self,dJ,cS q,jdG,bX]
 congr 1
 simp only[jaN,bV,iL,cQ,cM,E];rfl
theorem jle(s:vB):jcI s (s.size / 2)=jaN (jc7 s.data.toList):=by
 have e:=jeD s.data.toList;simp at e;unfold jcI;rw[cD vO];simp
def jxK(w:vW)(s:vB)(n:Nat)(i:vV)(wr:vW):Prop:=∃ k:Nat,k<=n/\i=.int .i64 k/\ORow 5 1 w wr (.slice (some ⟨w.heap.size,0,none⟩) n n) n (jcI s k)
theorem jon(w:vW)(s:vB)(hs:s.size<=1000000):vR 87 #[.string s] w (.string (jbC s)):=by
 obtain⟨i0,hi,Q,X,Z⟩:=info_parts Tryz.infoU8
 obtain⟨n,hn⟩:=vE (s.size / 2)
 have hq:(s.size:Int) / 2=(n:Int):=vO
 have a3:2 * n<=s.size:=vO
 have H:=Hd hn;clear hn;have a0:=jfy (P:=Tryz.prog) w Tryz.uBytes hi Q X rfl .i64 .i64 n (by rw[Z];omega) (by unfold maxLen;omega);go_enter Tryz.func87,Tryz.ntmps87;go_wp2;clear hq a0;go_loopw [11] (fun i wr=>jxK w s n i wr) (fun i _=>n - (intOf i).toNat)
 case atStart =>
  refine⟨0,bY _,rfl,?_⟩
  have h:=ORow.lit (T:=5) (sz:=1) (List.replicate n (.int .u8 0)).toArray (n:=n) (ExtR w) (by unfold maxLen;omega) (by simp);have e:jcI s 0=List.replicate n (.int .u8 0):=by simp[jcI,jaN,H.o]
  rw[e];simpa using h
 case round =>
  obtain⟨k,hk,rfl,hR⟩:=hrel
  have O:=Hd hR;clear hR
  by_cases hlt:k < n
  ·have b1:2 * k < s.size:=vO
   have b2:2 * k+1 < s.size:=vO
   have c0:(0:Int)<=2 * (k:Int):=vO
   have c1:2 * (k:Int) < (s.size:Int):=vO
   have c2:(0:Int)<=2 * (k:Int)+1:=vO
   have c3:2 * (k:Int)+1 < (s.size:Int):=vO
   go_wp2;refine jaw [0,1,2,3,4,5,6,7,8,9,10,11,12,13,14] [14] Ext ExtR ExtT vY vY vY ?_;iterate 14 refine vP ?_
   refine qH _ rfl (fun w1 E K hK=>?_);have z:=Hd (O.o.mono ((jaq wr).trans E));clear E O;have q:=z.o.own.cellAt k vO;rw[bA (by rw[jlf _ _ (by have:=H.o;omega)];have:=H.o;omega)]at q;have a1:=z.o.own.frozenAt k;go_simp;refine hK _ _ ?_;clear hK K q a1;have A:=z.o.set k (.int .u8 ((s[2 * k] <<< 4 ||| s[2 * k+1]).toNat:Int));rw[jlg s k (by have:=H.o;omega)]at A;have J:=Hd A;clear A z;refine qE (fun w2 E=>?_);rw[jyP]at E;have a2:=Hd (J.o.mono E);clear E J;go_wp2;go_roundw
   case rel=>exact⟨k+1,by omega,by go_num,a2.o⟩
   case measure=>exact vJ
  ·have a4:=jbj wr Tryz.uBytes Tryz.uU8 Tryz.uStr (l:=jc7 s.data.toList) (n:=n) (by have:=O.o.own;rw[show k=s.size / 2 from by have:=H.o;omega,jle]at this;exact this)
   go_wp2;go_ret
   exact⟨rfl,O.o.ext⟩
def jb0(a b:vB):Bool:=Op.bytesLess a.toList b.toList
theorem Tryz.sBytes:jeN Tryz.prog 42 5 1 1:=jeN.mk' Tryz.uBytes Tryz.infoU8 rfl vI
def revK(l:vN)(k:Nat):vN:=(List.range l.length).map fun i=>if i < k\/l.length - 1 - k < i then l.getD (l.length - 1 - i) 0 else l.getD i 0
@[simp] theorem revK_len (l:vN) (k:Nat):(revK l k).length=l.length:=by simp[revK]
theorem jt1(l:vN):revK l 0=l:=by
 apply List.ext_getElem (by simp);intro i o e;simp only[revK,List.getElem_map,List.getElem_range];rw[if_neg vO];simp[e]
theorem jwB(l:vN)(k:Nat)(h:l.length<=2 * k+1):revK l k=l.reverse:=by
 apply List.ext_getElem (by simp);intro i e o;simp at e;simp only[revK,List.getElem_map,List.getElem_range,List.getElem_reverse]
 by_cases hc:i < k\/l.length - 1 - k < i
 ·rw[if_pos hc];simp[show l.length - 1 - i < l.length by omega]
 ·rw[if_neg hc]
  have:i=l.length - 1 - i:=vO
  simp only[bE,bA e,Option.getD_some]
  congr 1
theorem jpR(l:vN)(k i:Nat)(hi:i < l.length)(h1:k<=i)(h2:i<=l.length - 1 - k):(revK l k)[i]?=some l[i]:=by
 simp only[revK,cA,fB hi,fZ];rw[if_neg vO];simp[hi]
theorem jt0(l:vN)(k:Nat)(h:2 * k+1 < l.length):((revK l k).set k (l[l.length - 1 - k]'(by omega))).set (l.length - 1 - k) (l[k]'(by omega))=revK l (k+1):=by
 apply List.ext_getElem (by simp);intro i o e;simp at e;simp only[List.getElem_set,revK,List.getElem_map,List.getElem_range]
 by_cases e1:l.length - 1 - k=i
 ·subst e1
  rw[if_pos rfl,if_pos vO]
  have:l.length - 1 - (l.length - 1 - k)=k:=vO
  rw[this];simp[show k < l.length by omega]
 ·rw[if_neg e1]
  by_cases e2:k=i
  ·subst e2
   rw[if_pos rfl,if_pos vO];simp[show l.length - 1 - k < l.length by omega]
  ·rw[if_neg e2]
   by_cases c:i < k\/l.length - 1 - k < i
   ·rw[if_pos c,if_pos vO]
   ·rw[if_neg c,if_neg vO]
def jzT(w:vW)(g n c:Nat)(l:vN)(i j:vV)(wr:vW):Prop:=∃ k:Nat,k<=n/\i=.int .i64 k/\j=.int .i64 ((n:Int) - 1 - k)/\wr.ownsRow 0 5 1 (.slice (some ⟨g,0,none⟩) n c) n (jaN (revK l k))/\jag (fun b=>b=g) w wr
def jxM(w:vW)(v:vV)(n:Nat)(l:vN)(e:Ending)(w':vW):Prop:=(∃ r,e=.returned r)/\w'.ownsRow 0 5 1 v n (jaN l.reverse)/\jag (fun b=>v.ownBlock=some b) w w'
theorem jt2(w:vW)(v:vV)(n:Nat)(l:vN)(hs:n<=1000000)(hr:w.ownsRow 0 5 1 v n (jaN l)):vQ 142 #[v] w (jxM w v n l):=by
 have Q:l.length=n:=by have:=hr.1;simp at this;exact this
 have A:=Hd Q;clear Q;have HR:=Hd hr
 obtain⟨_,⟨rfl,h2⟩ |⟨g,c,a6,rfl,_⟩⟩:=hr
 ·have hl:l=[]:=bG (by have:=A.o;omega)
  subst hl;go_enter Tryz.func142,Tryz.ntmps142;go_wp2;refine wp_loop_once ?_;go_wp2;go_end0
  exact⟨⟨_,rfl⟩,HR.o,jag.refl _ _⟩
 ·go_enter Tryz.func142,Tryz.ntmps142
  go_wp2;go_loopw [2,3] (fun i j wr=>jzT w g n c l i j wr) (fun i _ _=>n - (intOf i).toNat)
  case atStart=>exact⟨0,bY _,rfl,by go_num,by rw[jt1];exact HR.o,jag.refl _ _⟩
  case round =>
   obtain⟨k,hk,rfl,rfl,hR,E⟩:=hrel
   have q:=Hd hR;have HK:=Hd E;clear hR E
   by_cases hlt:2 * k+1 < n
   ·have H:decide ((k:Int) < (n:Int) - 1 - k)=true:=by simp;omega
    have a7:k < n:=vO
    have e0:((n:Int) - 1 - k)=((n - 1 - k:Nat):Int):=vO
    have HE:=Hd e0;have c1:=q.o.cellAt k vO;have c2:=q.o.cellAt (n - 1 - k) vO;have f1:=q.o.frozenAt k;have f2:=q.o.frozenAt (n - 1 - k);have lk:k < l.length:=by have:=A.o;omega
    have a1:n - 1 - k < l.length:=by have:=A.o;omega
    rw[jaN,cA,jpR l k k lk (bL _) (by have:=A.o;omega)]at c1;rw[jaN,cA,jpR l k (n - 1 - k) a1 vO (by have:=A.o;omega)]at c2;simp only[fZ]at c1 c2;have X:=Hd c1;have a2:=Hd c2;have a3:=Hd f1;have a8:=Hd f2;clear c1 c2 f1 f2;rw[e0]at H;go_wp2;rw[e0];clear e0;have d1:(0:Int)<=((n - 1 - k:Nat):Int):=vO
    have d2:((n - 1 - k:Nat):Int) < (n:Int):=vO
    refine jaw [0,1,2,3,4,5,6,7,8,9,10,11,12,13,14,15] [13,15] Ext ExtR ExtT vY vY vY ?_;iterate 7 refine vP ?_
    refine qL ⟨g,n - 1 - k,none⟩ _ rfl (fun w1 h1=>jac Tryz.uU8 rfl (jaa (by exact a2.o) h1)) ?_;refine vS ?_;iterate 3 refine vP ?_
    refine qL ⟨g,k,none⟩ _ rfl (fun w1 h1=>jac Tryz.uU8 rfl (jaa (by exact X.o) h1)) ?_;refine vS ?_
    refine vP ?_
    refine qH _ rfl (fun w1 z K E=>?_);have J:=jbm q.o ((jaq wr).trans z);have Z:=HK.o.trans' ((jaq wr).trans z) (fun _ _ h=>h.elim);have q1:=jaa X.o ((jaq wr).trans z);have q2:=a3.o;have q2:w1.frozen? ⟨g,k,none⟩=false:=J.frozenAt k;have O:=(J.stored k (.int .u8 (l[n - 1 - k].toNat:Int))).1;have K2:=Hd (Z.setCell (p:=⟨g,k,none⟩) (.inl rfl) (.int .u8 (l[n - 1 - k].toNat:Int)));have a4:=Hd O;clear J Z O z;go_simp;refine E _ _ ?_;clear E K q1 q2
    refine vP ?_
    refine qH _ rfl (fun w2 z K E=>?_);have J:=jbm a4.o z;have Z:=K2.o.trans' z (fun _ _ h=>h.elim)
    obtain⟨old,q1⟩:=jwi J (n - 1 - k) vO
    have q2:=J.frozenAt (n - 1 - k);have O:=(J.stored (n - 1 - k) (.int .u8 (l[k].toNat:Int))).1;have K3:=Hd (Z.setCell (p:=⟨g,n - 1 - k,none⟩) (.inl rfl) (.int .u8 (l[k].toNat:Int)));have e:((jaN (revK l k)).set k (.int .u8 (l[n - 1 - k].toNat:Int))).set (n - 1 - k) (.int .u8 (l[k].toNat:Int))=jaN (revK l (k+1)):=by
     have hh:=jt0 l k (by have:=A.o;omega);rw[<-hh];simp only[jaN,iR];simp only[A.o]
    rw[e]at O;have a0:=Hd O;clear J Z O z e;go_simp;refine E _ _ ?_;clear E K q1 q2;refine qE (fun w3 z=>?_);have a5:=Hd (jbm a0.o z);have K4:=Hd (K3.o.trans' z (fun _ _ h=>h.elim));clear z a0 K3;go_wp2;go_roundw
    case rel=>exact⟨k+1,by omega,by go_num,by have:=HE.o;go_num,a5.o,K4.o⟩
    case measure=>exact vJ
   ·have H:decide ((k:Int) < (n:Int) - 1 - k)=false:=by simp;omega
    go_wp2;go_end0
    refine⟨⟨_,rfl⟩,?_,HK.o.mono (fun _ _ e=>by rw[e];rfl)⟩
    have:=q.o
    rwa [jwB l k (by have:=A.o;omega)]at this
def leF:Nat->Nat->vN
 | 0,_=>[]
 | f+1,n=>if n=0 then []else UInt8.ofNat n :: leF f (n / 256)
theorem jk3:∀ (f n:Nat),(leF f n).length<=f
 | 0,_=>bL _
 | f+1,n=>by
  simp only[leF];split
  ·simp
  ·simp;exact jk3 f _
def jda(n:Nat):vB:=⟨(leF 8 n).reverse.toArray⟩
def jzy(w:vW)(n:Nat)(m b:vV)(wr:vW):Prop:=∃ (k:Nat) (acc:vN),m=.int .u64 k/\acc.length<=8/\k < 256 ^ (8 - acc.length)/\leF 8 n=acc++leF (8 - acc.length) k/\BRow w wr b acc.length acc
theorem jvn(w:vW)(n:Nat)(hn:n < 18446744073709551616):vR 124 #[.int .u64 n] w (.string (jda n)):=by
 go_enter Tryz.func124,Tryz.ntmps124;go_wp2;go_loopw [0,3] (fun m b wr=>jzy w n m b wr) (fun m _ _=>(intOf m).toNat)
 case atStart=>exact⟨n,[],rfl,by simp,by simpa using hn,rfl,ORow.nil _ _ (ExtR w)⟩
 case round =>
  obtain⟨k,q,rfl,a0,Z,A,J⟩:=hrel
  obtain⟨a,c,rfl⟩:=J.sl
  have E:=Hd J;have HA:=Hd A;have HK:=Hd Z;clear J A Z
  by_cases h0:0 < k
  ·have a1:q.length < 8:=by
    rcases fO q.length 8 with h | h
    ·exact h
    ·have:=HK.o;rw[show 8 - q.length=0 by omega]at this;omega
   go_wp2_with (at_builtin;refine jba Tryz.sBytes (E.o.mono ((ExtR wr).alloc _)) (.tmp 8) (.tmp 11) rfl rfl rfl (ja3 (Blk.new wr _)) (news:=[.int .u8 (k % 256)]) (by intro u hu;simp at hu;rw[hu];rfl) rfl rfl ?c1 ?c2 (fun v' w' K r2 r3=>?_))
   case c1=>unfold maxLen;omega
   case c2=>omega
   have e2:jaN q++[.int .u8 ((k:Int) % 256)]=jaN (q++[UInt8.ofNat k]):=by
    rw[jdG];simp only[jaN,bV,iL];rw[<-jie]
   rw[e2]at K;have z:leF (8 - q.length) k=UInt8.ofNat k :: leF (8 - (q.length+1)) (k / 256):=by
    rw[show 8 - q.length=(8 - (q.length+1))+1 by omega];simp only[leF];rw[if_neg vO]
   have H:k / 256 < 256 ^ (8 - (q.length+1)):=by
    have:=HK.o
    rw[show 8 - q.length=(8 - (q.length+1))+1 by omega,Nat.pow_succ]at this;omega
   have HS:=Hd z;have O:=Hd H;have Q:=Hd K;clear z H K r2 r3 e2 E;go_wp2;go_roundw
   case rel=>exact⟨k / 256,q++[UInt8.ofNat k],by go_num,by simp;omega,by simpa using O.o,by rw[HA.o,HS.o];simp,by simpa using Q.o⟩
   case measure=>exact vJ
  ·have X:k=0:=vO
   subst X;have e:leF 8 n=q:=by rw[HA.o];cases 8 - q.length <;> simp[leF]
   have HE:=Hd e;clear e;go_wp2_with fail
   refine (jt2 wr _ q.length q vO E.o.own).mono ?_;rintro e w1 ⟨⟨r,rfl⟩,R1,K1⟩;have a2:=jbj w1 Tryz.uBytes Tryz.uU8 Tryz.uStr R1;have HX:=Hd (jjW E.o.ext E.o.new K1);clear R1 K1;go_wp2;go_ret
   exact⟨by unfold jda;rw[HE.o];rfl,HX.o⟩
def jdA(base:vU)(n:Nat):vB:=
 if n<=55 then ⟨#[base+UInt8.ofNat n]⟩else ⟨#[base+55+UInt8.ofNat (jda n).size]⟩++jda n
theorem jr8(w:vW)(b:vU):(w.alloc (.cells #[.int .u8 (b.toNat:Int)] 5)).ownsRow 0 5 1 (.slice (some ⟨w.heap.size,0,none⟩) 1 1) 1 (jaN [b]):=
 World.ownsRow_lit w _ 1 (bY _) vI rfl
theorem jrF(a b:vU):((a.toNat:Int)+(b.toNat:Int)) % (256:Int)=((a+b).toNat:Int):=by
 rw[UInt8.toNat_add];omega
theorem jf6(w:vW)(b:vU):(convert 42 9 (.slice (some ⟨w.heap.size,0,none⟩) 1 1)).run Tryz.prog (w.alloc (.cells #[.int .u8 (b.toNat:Int)] 5))=.ok (.string ⟨#[b]⟩) (w.alloc (.cells #[.int .u8 (b.toNat:Int)] 5)):=
 jbj _ Tryz.uBytes Tryz.uU8 Tryz.uStr (jr8 w b)
theorem jsT(w:vW)(base:vU)(n:Nat)(hn:n<=1000000000):vR 88 #[.int .u8 base.toNat,.int .i64 n] w (.string (jdA base n)):=by
 by_cases h:n<=55
 ·obtain⟨x,q⟩:=vE (base+UInt8.ofNat n)
  have e:((base.toNat:Int)+(n:Int)) % (256:Int)=(x.toNat:Int):=by rw[q, <-jrF, <-jie];omega
  have A:=jf6 w x;have E:=Hd (show jdA base n=⟨#[x]⟩ by unfold jdA;rw[if_pos h,q]);clear q;go_enter Tryz.func88,Tryz.ntmps88;go_wp2;go_ret
  exact⟨by rw[E.o];rfl,(ExtR w).alloc _⟩
 ·have E:=Hd (show jdA base n=⟨#[base+55+UInt8.ofNat (jda n).size]⟩++jda n by unfold jdA;rw[if_neg h])
  go_enter Tryz.func88,Tryz.ntmps88;go_wp2_with fail
  refine vC (jvn w n vO) fun w1 H=>?_
  obtain⟨d,z⟩:=vE (jda n)
  have J:d.size<=8:=by rw[z];have:=jk3 8 n;simpa [jda,ByteArray.size]using this
  obtain⟨x,q⟩:=vE (base+55+UInt8.ofNat d.size)
  have Q:(((base.toNat:Int)+55) % (256:Int)+(d.size:Int)) % (256:Int)=(x.toNat:Int):=by
   rw[q, <-jrF, <-jrF, <-jie];show (((base.toNat:Int)+55) % (256:Int)+(d.size:Int)) % (256:Int)=((((base.toNat:Int)+55) % (256:Int))+(d.size:Int) % (256:Int)) % (256:Int);omega
  have A:=jf6 w1 x;have K:=Hd z;have O:=Hd q;rw[<-z];clear q z;go_wp2;go_ret
  exact⟨by rw[E.o, <-K.o, <-O.o];rfl,H.alloc _⟩
def jaz(b:vB):vB:=if b.size=1/\b.data.toList.headD 255 < 128 then b else jdA 128 b.size++b
theorem jez(base:vU)(n:Nat):(jdA base n).size<=9:=by
 have:=jk3 8 n
 unfold jdA;split
 ·exact (by decide:1<=9)
 ·rw[cC]
  have e:(⟨#[base+55+UInt8.ofNat (jda n).size]⟩:vB).size=1:=rfl;have o:(jda n).size=(leF 8 n).length:=by simp[jda,ByteArray.size]
  omega
theorem jcv(w:vW)(b:vB)(hn:b.size<=1000000000):vR 69 #[.string b] w (.string (jaz b)):=by
 by_cases h1:b.size=1
 ·obtain⟨x,rfl⟩:∃ x,b=⟨#[x]⟩:=by
   obtain⟨⟨l⟩⟩:=b
   have z:l.length=1:=h1
   match l,z with
   | [x],_=>exact⟨x,rfl⟩
  by_cases hx:x < 128
  ·have q:=Hd (show jaz ⟨#[x]⟩=⟨#[x]⟩ by unfold jaz;rw[if_pos ⟨rfl,hx⟩])
   have H:(((⟨#[x]⟩:vB)[0]'(Nat.zero_lt_one)).toNat:Int) < 128:=by show (x.toNat:Int) < 128;have:=fD.1 hx;have e:(128:vU).toNat=128:=rfl;omega
   clear hx h1;go_enter Tryz.func69,Tryz.ntmps69;go_wp2_with fail
   all_goals first |(go_ret;exact⟨by rw[q.o];rfl,ExtR w⟩) |(exfalso;omega)
  ·have q:=Hd (show jaz ⟨#[x]⟩=jdA 128 1++⟨#[x]⟩ by unfold jaz;rw[if_neg (fun h=>hx h.2)];rfl)
   have H:¬(((⟨#[x]⟩:vB)[0]'(Nat.zero_lt_one)).toNat:Int) < 128:=by show ¬(x.toNat:Int) < 128;have e:(128:vU).toNat=128:=rfl;have J:¬ x.toNat < (128:vU).toNat:=fun h=>hx (fD.2 h);omega
   clear hx h1;go_enter Tryz.func69,Tryz.ntmps69;go_wp2_with fail
   refine (jsT w 128 1 vO).mono ?_;rintro e w' ⟨rfl,A⟩;have E:=jez 128 1;go_wp2;go_ret
   exact⟨by rw[q.o];rfl,A⟩
 ·have K:((b.size:Int) == 1)=false:=by simp;omega
  have q:=Hd (show jaz b=jdA 128 b.size++b by unfold jaz;rw[if_neg (fun h=>h1 h.1)]);clear h1;go_enter Tryz.func69,Tryz.ntmps69;go_wp2_with fail
  refine (jsT w 128 b.size hn).mono ?_;rintro e w' ⟨rfl,A⟩;have E:=jez 128 b.size;go_wp2;go_ret
  exact⟨by rw[q.o];rfl,A⟩
end Go.Proofs.YtepbencaoiompaaGreatDoor
