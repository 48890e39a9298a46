/- Lemmas; each is under no condition but those that it states. -/
import Derived.Test.YtfjmkebdhojanaaGreatDoorPt3
namespace Go.Proofs.YtfjmkebdhojanaaGreatDoor
set_option linter.unusedSimpArgs false
set_option linter.unusedVariables false
set_option maxRecDepth 100000
set_option maxHeartbeats 16000000
open Go Go.RowKit
def jcw(l:vN):vN:=l.flatMap fun(b:vU)=>[b >>> 4,b &&& 15]
def jbv(s:vB):vB:=⟨(jcw s.data.toList).toArray⟩
theorem Tryz.uBytes:Tryz.prog.underlying 120=some (.slice 5):=vY
theorem Tryz.uU8:Tryz.prog.underlying 5=some (.int .u8):=vY
theorem Tryz.uStr:Tryz.prog.underlying 9=some .string:=vY
theorem Tryz.infoU8:(Tryz.prog.info? 5).map (fun i=>(i.zero,i.size,i.bytes))=some (some (.int .u8 0),1,1):=vY
abbrev BRow(w0 w:vW)(v:vV)(n:Nat)(l:vN):Prop:=ORow 5 1 w0 w v n (jaK l)
def jw9(w:vW)(s:vB)(v i:vV)(wr:vW):Prop:=∃ k:Nat,k<=s.size/\i=.int .i64 k/\BRow w wr v (2 * k) (jcw (s.data.toList.take k))
theorem jmI(s:vB){k:Nat}(h:k < s.size):jcw (s.data.toList.take (k+1))=jcw (s.data.toList.take k)++[s[k] >>> 4,s[k] &&& 15]:=by
 have e:k < s.data.toList.length:=by simpa using h
 rw[cX e];simp only[jcw,dX,cG,fU,bZ];rfl
theorem js7(b:vU):([.int .u8 (b.toNat / 16),.int .u8 (bits BinOp.and .u8 b.toNat 15)]:List vV)=jaK [b >>> 4,b &&& 15]:=by
 have h:∀ b:Fin 256,((b.1:Int) / (16:Int)=((UInt8.ofNat b.1 >>> 4).toNat:Int))/\bits BinOp.and .u8 b.1 15=((UInt8.ofNat b.1 &&& 15).toNat:Int):=by decide +kernel
 have:=h ⟨b.toNat,b.toNat_lt⟩
 simp only[iQ]at this;simp only[jaK,bS,iC,this.1,this.2]
theorem jpC(w:vW)(s:vB)(hs:s.size<=1000000):vR 64 #[.string s] w (.string (jbv s)):=by
 obtain⟨i0,hi,O,Q,X⟩:=info_parts Tryz.infoU8
 obtain⟨w1,A,E,Z⟩:=run_make_own (P:=Tryz.prog) (w:=w) w.heap.size 120 5 i0 _ 1 Tryz.uBytes hi O Q .i64 .i64 (2 * s.size) (by rw[X];omega) (by unfold maxLen;omega) (bL _)
 have a5:(Instr.makeSlice 120 (.int .i64 0) (.int .i64 (2 * (s.size:Int)))).run Tryz.prog w=.ok (.slice (some ⟨w.heap.size,0,none⟩) 0 (2 * s.size)) w1:=by rw[<-A];congr 3
 have HO:=Hd E;have HG:=Hd Z;clear E Z A;unfold vR vQ;go_in;go_wp2;go_loopw [3,11] (fun v i wr=>jw9 w s v i wr) (fun _ i _=>s.size - (intOf i).toNat)
 case atStart=>exact⟨0,cD _,rfl,ORow.made w HO.o HG.o⟩
 case round =>
  obtain⟨k,hk,rfl,hR⟩:=hrel
  obtain⟨a,c,rfl⟩:=hR.sl
  have HR:=Hd hR;clear hR
  by_cases hlt:k < s.size
  ·go_wp2
   refine jay [0,1,2,3,4,5,6,7,8,9,10,11] [9,10] Ext ExtR ExtT vY vY vY ?_;iterate 9 refine vP ?_
   refine qH _ rfl (fun w1 he K hK=>?_);go_simp;refine hK _ _ ?_;clear hK K;have a0:=Hd ((HR.o.mono (jai wr)).mono he);clear he HR;refine qH _ rfl (fun w2 H K hK=>?_);have hn:∀ j u,([.int .u8 (s[k].toNat / 16),.int .u8 (bits BinOp.and .u8 s[k].toNat 15)]:List vV)[j]?=some u->w2.cell? ((⟨w1.heap.size,0,none⟩:Addr).add j)=some u:=fun j u hj=>jaa (jvF w1 5 _ j u hj) H;have J:=a0.o.mono (((ExtR w1).alloc _).trans H);refine jdC w2 (.tmp 14) (.tmp 23) 120 rfl 5 i0 _ 1 1 Tryz.uBytes hi O Q X rfl vI _ (2 * k) _ rfl J.own ⟨w1.heap.size,0,none⟩ 2 2 _ rfl rfl hn (by intro u hu;simp at hu;rcases hu with rfl | rfl <;> rfl) (by unfold maxLen;omega) vO (fun v' w3 r1 r2 r3=>hK _ _ ?_);clear hK K hn;have e2:([.int .u8 (s[k].toNat / 16),.int .u8 (bits BinOp.and .u8 s[k].toNat 15)]:List vV)=jaK [s[k] >>> 4,s[k] &&& 15]:=by
    exact js7 s[k]
   rw[e2]at r1;have a1:Hid (BRow w w3 v' (2 * k+2) (jcw (s.data.toList.take k)++[s[k] >>> 4,s[k] &&& 15])):=Hd (by unfold BRow;rw[jdw];exact J.step r1 r2 r3);clear r1 r2 r3 J H a0 e2;refine vS ?_;refine vP ?_;refine qE (fun w4 a2=>?_);have a3:=Hd (a1.o.mono a2);clear a2 a1;go_wp2;go_roundw
   case rel=>exact⟨k+1,by omega,by go_num,by rw[jmI s hlt];exact a3.o⟩
   case measure=>exact vJ
  ·have a4:=jbB wr Tryz.uBytes Tryz.uU8 Tryz.uStr HR.o.own
   have e:(⟨(jcw (s.data.toList.take k)).toArray⟩:vB)=jbv s:=by unfold jbv;rw[bN (by simp;omega)]
   rw[e]at a4;clear e;go_wp2;go_ret
   exact⟨rfl,HR.o.ext⟩
def jcC:vN->vN
 | x :: y :: r=>(x <<< 4 ||| y) :: jcC r
 | _=>[]
def jbu(s:vB):vB:=⟨(jcC s.data.toList).toArray⟩
theorem jdo:∀ (l:vN),(jcC l).length=l.length / 2
 | []=>rfl
 | [_]=>by simp[jcC]
 | _ :: _ :: r=>by simp only[jcC,bF,jdo r];omega
theorem jiS:∀ (l:vN) (j:Nat) (h:2 * j+1 < l.length),(jcC l)[j]?=some (l[2 * j] <<< 4 ||| l[2 * j+1])
 | [],_,h=>by simp at h
 | [_],_,h=>by simp at h
 | x :: y :: r,0,_=>by simp[jcC]
 | x :: y :: r,j+1,h=>by
  have:=jiS r j (by simp at h;omega)
  simp only[jcC,List.getElem?_cons_succ,this,Nat.mul_add,jD]
  congr 1
def jcH(s:vB)(k:Nat):List vV:=jaK ((jcC s.data.toList).take k)++List.replicate (s.size / 2 - k) (.int .u8 0)
theorem jk2(s:vB)(k:Nat)(h:k<=s.size / 2):(jcH s k).length=s.size / 2:=by
 have:=jdo s.data.toList
 simp at this;simp[jcH,this];omega
theorem jk3(s:vB)(k:Nat)(h:k < s.size / 2):(jcH s k).set k (.int .u8 (((s[2 * k]'(by omega)) <<< 4 |||(s[2 * k+1]'(by omega))).toNat:Int))=jcH s (k+1):=by
 have e:=jdo s.data.toList;simp at e;have E:(jaK ((jcC s.data.toList).take k)).length=k:=by simp[e];omega
 have H:s.size / 2 - k=(s.size / 2 - (k+1))+1:=vO
 have o:=jiS s.data.toList k (by simp;omega);have A:k < (jcC s.data.toList).length:=vO
 rw[bA A]at o;have J:=bO o;unfold jcH;rw[H,fI,fK _ _ vO,E,iW,dL,cX A,jdw,cE]
 congr 1
 simp only[jaK,bS,iC,dA,cT,J];rfl
theorem jk1(s:vB):jcH s (s.size / 2)=jaK (jcC s.data.toList):=by
 have e:=jdo s.data.toList;simp at e;unfold jcH;rw[bN vO];simp
def jw8(w:vW)(s:vB)(n:Nat)(i:vV)(wr:vW):Prop:=∃ k:Nat,k<=n/\i=.int .i64 k/\ORow 5 1 w wr (.slice (some ⟨w.heap.size,0,none⟩) n n) n (jcH s k)
theorem joe(w:vW)(s:vB)(hs:s.size<=1000000):vR 86 #[.string s] w (.string (jbu s)):=by
 obtain⟨i0,hi,Z,a0,a1⟩:=info_parts Tryz.infoU8
 obtain⟨n,hn⟩:=vE (s.size / 2)
 have hq:(s.size:Int) / 2=(n:Int):=vO
 have a5:2 * n<=s.size:=vO
 have O:=Hd hn;clear hn;have a2:=jfv (P:=Tryz.prog) w Tryz.uBytes hi Z a0 rfl .i64 .i64 n (by rw[a1];omega) (by unfold maxLen;omega);unfold vR vQ;go_in;go_wp2;clear hq a2;go_loopw [11] (fun i wr=>jw8 w s n i wr) (fun i _=>n - (intOf i).toNat)
 case atStart =>
  refine⟨0,cD _,rfl,?_⟩
  have h:=ORow.lit (T:=5) (sz:=1) (List.replicate n (.int .u8 0)).toArray (n:=n) (ExtR w) (by unfold maxLen;omega) (by simp);have e:jcH s 0=List.replicate n (.int .u8 0):=by simp[jcH,jaK,O.o]
  rw[e];simpa using h
 case round =>
  obtain⟨k,hk,rfl,hR⟩:=hrel
  have X:=Hd hR;clear hR
  by_cases hlt:k < n
  ·have b1:2 * k < s.size:=vO
   have b2:2 * k+1 < s.size:=vO
   have c0:(0:Int)<=2 * (k:Int):=vO
   have c1:2 * (k:Int) < (s.size:Int):=vO
   have c2:(0:Int)<=2 * (k:Int)+1:=vO
   have c3:2 * (k:Int)+1 < (s.size:Int):=vO
   go_wp2;refine jay [0,1,2,3,4,5,6,7,8,9,10,11,12,13,14] [14] Ext ExtR ExtT vY vY vY ?_;iterate 14 refine vP ?_
   refine qH _ rfl (fun w1 J K hK=>?_);have E:=Hd (X.o.mono ((jai wr).trans J));clear J X;have A:=E.o.own.cellAt k vO;rw[bA (by rw[jk2 _ _ (by have:=O.o;omega)];have:=O.o;omega)]at A;have a3:=E.o.own.frozenAt k;go_simp;refine hK _ _ ?_;clear hK K A a3;have H:=E.o.set k (.int .u8 ((s[2 * k] <<< 4 ||| s[2 * k+1]).toNat:Int));rw[jk3 s k (by have:=O.o;omega)]at H;have Q:=Hd H;clear H E;refine qE (fun w2 J=>?_);rw[jx9]at J;have a4:=Hd (Q.o.mono J);clear J Q;go_wp2;go_roundw
   case rel=>exact⟨k+1,by omega,by go_num,a4.o⟩
   case measure=>exact vJ
  ·have a6:=jbB wr Tryz.uBytes Tryz.uU8 Tryz.uStr (l:=jcC s.data.toList) (n:=n) (by have:=X.o.own;rw[show k=s.size / 2 from by have:=O.o;omega,jk1]at this;exact this)
   go_wp2;go_ret
   exact⟨rfl,X.o.ext⟩
def jbc(a b:vB):Bool:=Op.bytesLess a.toList b.toList
theorem Tryz.sBytes:jdv Tryz.prog 120 5 1 1:=jdv.mk' Tryz.uBytes Tryz.infoU8 rfl vI
def revK(l:vN)(k:Nat):vN:=(List.range l.length).map fun i=>if i < k\/l.length - 1 - k < i then l.getD (l.length - 1 - i) 0 else l.getD i 0
@[simp] theorem revK_len (l:vN) (k:Nat):(revK l k).length=l.length:=by simp[revK]
theorem jtI(l:vN):revK l 0=l:=by
 apply List.ext_getElem (by simp);intro i o e;simp only[revK,List.getElem_map,List.getElem_range];rw[if_neg vO];simp[e]
theorem jv4(l:vN)(k:Nat)(h:l.length<=2 * k+1):revK l k=l.reverse:=by
 apply List.ext_getElem (by simp);intro i e o;simp at e;simp only[revK,List.getElem_map,List.getElem_range,List.getElem_reverse]
 by_cases hc:i < k\/l.length - 1 - k < i
 ·rw[if_pos hc];simp[show l.length - 1 - i < l.length by omega]
 ·rw[if_neg hc]
  have:i=l.length - 1 - i:=vO
  simp only[bH,bA e,Option.getD_some]
  congr 1
theorem jpM(l:vN)(k i:Nat)(hi:i < l.length)(h1:k<=i)(h2:i<=l.length - 1 - k):(revK l k)[i]?=some l[i]:=by
 simp only[revK,bX,dW hi,gQ];rw[if_neg vO];simp[hi]
theorem jtH(l:vN)(k:Nat)(h:2 * k+1 < l.length):((revK l k).set k (l[l.length - 1 - k]'(by omega))).set (l.length - 1 - k) (l[k]'(by omega))=revK l (k+1):=by
 apply List.ext_getElem (by simp);intro i o e;simp at e;simp only[List.getElem_set,revK,List.getElem_map,List.getElem_range]
 by_cases e1:l.length - 1 - k=i
 ·subst e1
  rw[if_pos rfl,if_pos vO]
  have:l.length - 1 - (l.length - 1 - k)=k:=vO
  rw[this];simp[show k < l.length by omega]
 ·rw[if_neg e1]
  by_cases e2:k=i
  ·subst e2
   rw[if_pos rfl,if_pos vO];simp[show l.length - 1 - k < l.length by omega]
  ·rw[if_neg e2]
   by_cases c:i < k\/l.length - 1 - k < i
   ·rw[if_pos c,if_pos vO]
   ·rw[if_neg c,if_neg vO]
def jze(w:vW)(g n c:Nat)(l:vN)(i j:vV)(wr:vW):Prop:=∃ k:Nat,k<=n/\i=.int .i64 k/\j=.int .i64 ((n:Int) - 1 - k)/\wr.ownsRow 0 5 1 (.slice (some ⟨g,0,none⟩) n c) n (jaK (revK l k))/\jae (fun b=>b=g) w wr
def jxa(w:vW)(v:vV)(n:Nat)(l:vN)(e:Ending)(w':vW):Prop:=(∃ r,e=.returned r)/\w'.ownsRow 0 5 1 v n (jaK l.reverse)/\jae (fun b=>v.ownBlock=some b) w w'
theorem jtJ(w:vW)(v:vV)(n:Nat)(l:vN)(hs:n<=1000000)(hr:w.ownsRow 0 5 1 v n (jaK l)):vQ 147 #[v] w (jxa w v n l):=by
 have Z:l.length=n:=by have:=hr.1;simp at this;exact this
 have H:=Hd Z;clear Z;have HR:=Hd hr
 obtain⟨_,⟨rfl,h2⟩ |⟨g,c,a7,rfl,_⟩⟩:=hr
 ·have hl:l=[]:=bE (by have:=H.o;omega)
  subst hl;unfold vQ;go_in;go_wp2;refine wp_loop_once ?_;go_wp2;go_end0
  exact⟨⟨_,rfl⟩,HR.o,jae.refl _ _⟩
 ·unfold vQ;go_in
  go_wp2;go_loopw [2,3] (fun i j wr=>jze w g n c l i j wr) (fun i _ _=>n - (intOf i).toNat)
  case atStart=>exact⟨0,cD _,rfl,by go_num,by rw[jtI];exact HR.o,jae.refl _ _⟩
  case round =>
   obtain⟨k,hk,rfl,rfl,hR,J⟩:=hrel
   have A:=Hd hR;have HK:=Hd J;clear hR J
   by_cases hlt:2 * k+1 < n
   ·have O:decide ((k:Int) < (n:Int) - 1 - k)=true:=by simp;omega
    have a8:k < n:=vO
    have e0:((n:Int) - 1 - k)=((n - 1 - k:Nat):Int):=vO
    have HE:=Hd e0;have c1:=A.o.cellAt k vO;have c2:=A.o.cellAt (n - 1 - k) vO;have f1:=A.o.frozenAt k;have f2:=A.o.frozenAt (n - 1 - k);have lk:k < l.length:=by have:=H.o;omega
    have a2:n - 1 - k < l.length:=by have:=H.o;omega
    rw[jaK,bX,jpM l k k lk (bL _) (by have:=H.o;omega)]at c1;rw[jaK,bX,jpM l k (n - 1 - k) a2 vO (by have:=H.o;omega)]at c2;simp only[gQ]at c1 c2;have a0:=Hd c1;have a3:=Hd c2;have a4:=Hd f1;have a9:=Hd f2;clear c1 c2 f1 f2;rw[e0]at O;go_wp2;rw[e0];clear e0;have d1:(0:Int)<=((n - 1 - k:Nat):Int):=vO
    have d2:((n - 1 - k:Nat):Int) < (n:Int):=vO
    refine jay [0,1,2,3,4,5,6,7,8,9,10,11,12,13,14,15] [13,15] Ext ExtR ExtT vY vY vY ?_;iterate 7 refine vP ?_
    refine qL ⟨g,n - 1 - k,none⟩ _ rfl (fun w1 h1=>jab Tryz.uU8 rfl (jaa (by exact a3.o) h1)) ?_;refine vS ?_;iterate 3 refine vP ?_
    refine qL ⟨g,k,none⟩ _ rfl (fun w1 h1=>jab Tryz.uU8 rfl (jaa (by exact a0.o) h1)) ?_;refine vS ?_
    refine vP ?_
    refine qH _ rfl (fun w1 E K J=>?_);have Q:=jbq A.o ((jai wr).trans E);have K1:=HK.o.trans' ((jai wr).trans E) (fun _ _ h=>h.elim);have q1:=jaa a0.o ((jai wr).trans E);have q2:=a4.o;have q2:w1.frozen? ⟨g,k,none⟩=false:=Q.frozenAt k;have X:=(Q.stored k (.int .u8 (l[n - 1 - k].toNat:Int))).1;have K2:=Hd (K1.setCell (p:=⟨g,k,none⟩) (.inl rfl) (.int .u8 (l[n - 1 - k].toNat:Int)));have a5:=Hd X;clear Q K1 X E;go_simp;refine J _ _ ?_;clear J K q1 q2
    refine vP ?_
    refine qH _ rfl (fun w2 E K J=>?_);have Q:=jbq a5.o E;have K1:=K2.o.trans' E (fun _ _ h=>h.elim)
    obtain⟨old,q1⟩:=jvO Q (n - 1 - k) vO
    have q2:=Q.frozenAt (n - 1 - k);have X:=(Q.stored (n - 1 - k) (.int .u8 (l[k].toNat:Int))).1;have K3:=Hd (K1.setCell (p:=⟨g,n - 1 - k,none⟩) (.inl rfl) (.int .u8 (l[k].toNat:Int)));have e:((jaK (revK l k)).set k (.int .u8 (l[n - 1 - k].toNat:Int))).set (n - 1 - k) (.int .u8 (l[k].toNat:Int))=jaK (revK l (k+1)):=by
     have hh:=jtH l k (by have:=H.o;omega);rw[<-hh];simp only[jaK,iB];simp only[H.o]
    rw[e]at X;have a1:=Hd X;clear Q K1 X E e;go_simp;refine J _ _ ?_;clear J K q1 q2;refine qE (fun w3 E=>?_);have a6:=Hd (jbq a1.o E);have K4:=Hd (K3.o.trans' E (fun _ _ h=>h.elim));clear E a1 K3;go_wp2;go_roundw
    case rel=>exact⟨k+1,by omega,by go_num,by have:=HE.o;go_num,a6.o,K4.o⟩
    case measure=>exact vJ
   ·have O:decide ((k:Int) < (n:Int) - 1 - k)=false:=by simp;omega
    go_wp2;go_end0
    refine⟨⟨_,rfl⟩,?_,HK.o.mono (fun _ _ e=>by rw[e];rfl)⟩
    have:=A.o
    rwa [jv4 l k (by have:=H.o;omega)]at this
def leF:Nat->Nat->vN
 | 0,_=>[]
 | f+1,n=>if n=0 then []else UInt8.ofNat n :: leF f (n / 256)
theorem jhp:∀ (f n:Nat),(leF f n).length<=f
 | 0,_=>bL _
 | f+1,n=>by
  simp only[leF];split
  ·simp
  ·simp;exact jhp f _
def jcY(n:Nat):vB:=⟨(leF 8 n).reverse.toArray⟩
def jyW(w:vW)(n:Nat)(m b:vV)(wr:vW):Prop:=∃ (k:Nat) (acc:vN),m=.int .u64 k/\acc.length<=8/\k < 256 ^ (8 - acc.length)/\leF 8 n=acc++leF (8 - acc.length) k/\BRow w wr b acc.length acc
theorem ju4(w:vW)(n:Nat)(hn:n < 18446744073709551616):vR 117 #[.int .u64 n] w (.string (jcY n)):=by
 unfold vR vQ;go_in;go_wp2;go_loopw [0,3] (fun m b wr=>jyW w n m b wr) (fun m _ _=>(intOf m).toNat)
 case atStart=>exact⟨n,[],rfl,by simp,by simpa using hn,rfl,ORow.nil _ _ (ExtR w)⟩
 case round =>
  obtain⟨k,A,rfl,a1,hk,H,O⟩:=hrel
  obtain⟨a,c,rfl⟩:=O.sl
  have J:=Hd O;have HA:=Hd H;have HK:=Hd hk;clear O H hk
  by_cases h0:0 < k
  ·have a2:A.length < 8:=by
    rcases fQ A.length 8 with h | h
    ·exact h
    ·have:=HK.o;rw[show 8 - A.length=0 by omega]at this;omega
   go_wp2_with (at_builtin;refine jaO Tryz.sBytes (J.o.mono ((ExtR wr).alloc _)) (.tmp 8) (.tmp 11) rfl rfl rfl (jaJ (Blk.new wr _)) (news:=[.int .u8 (k % 256)]) (by intro u hu;simp at hu;rw[hu];rfl) rfl rfl ?c1 ?c2 (fun v' w' Q r2 r3=>?_))
   case c1=>unfold maxLen;omega
   case c2=>omega
   have e2:jaK A++[.int .u8 ((k:Int) % 256)]=jaK (A++[UInt8.ofNat k]):=by
    rw[jdw];simp only[jaK,bS,iC];rw[<-jh3]
   rw[e2]at Q;have E:leF (8 - A.length) k=UInt8.ofNat k :: leF (8 - (A.length+1)) (k / 256):=by
    rw[show 8 - A.length=(8 - (A.length+1))+1 by omega];simp only[leF];rw[if_neg vO]
   have K:k / 256 < 256 ^ (8 - (A.length+1)):=by
    have:=HK.o
    rw[show 8 - A.length=(8 - (A.length+1))+1 by omega,Nat.pow_succ]at this;omega
   have HS:=Hd E;have X:=Hd K;have Z:=Hd Q;clear E K Q r2 r3 e2 J;go_wp2;go_roundw
   case rel=>exact⟨k / 256,A++[UInt8.ofNat k],by go_num,by simp;omega,by simpa using X.o,by rw[HA.o,HS.o];simp,by simpa using Z.o⟩
   case measure=>exact vJ
  ·have a0:k=0:=vO
   subst a0;have e:leF 8 n=A:=by rw[HA.o];cases 8 - A.length <;> simp[leF]
   have HE:=Hd e;clear e;go_wp2_with fail
   refine (jtJ wr _ A.length A vO J.o.own).mono ?_;rintro e w1 ⟨⟨r,rfl⟩,R1,K1⟩;have a3:=jbB w1 Tryz.uBytes Tryz.uU8 Tryz.uStr R1;have HX:=Hd (jhc J.o.ext J.o.new K1);clear R1 K1;go_wp2;go_ret
   exact⟨by unfold jcY;rw[HE.o];rfl,HX.o⟩
def jb9(base:vU)(n:Nat):vB:=
 if n<=55 then ⟨#[base+UInt8.ofNat n]⟩else ⟨#[base+55+UInt8.ofNat (jcY n).size]⟩++jcY n
theorem jrO(w:vW)(b:vU):(w.alloc (.cells #[.int .u8 (b.toNat:Int)] 5)).ownsRow 0 5 1 (.slice (some ⟨w.heap.size,0,none⟩) 1 1) 1 (jaK [b]):=
 World.ownsRow_lit w _ 1 (cD _) vI rfl
theorem jrn(a b:vU):((a.toNat:Int)+(b.toNat:Int)) % (256:Int)=((a+b).toNat:Int):=by
 rw[iY];omega
theorem jb8(w:vW)(b:vU):(convert 120 9 (.slice (some ⟨w.heap.size,0,none⟩) 1 1)).run Tryz.prog (w.alloc (.cells #[.int .u8 (b.toNat:Int)] 5))=.ok (.string ⟨#[b]⟩) (w.alloc (.cells #[.int .u8 (b.toNat:Int)] 5)):=
 jbB _ Tryz.uBytes Tryz.uU8 Tryz.uStr (jrO w b)
theorem jst(w:vW)(base:vU)(n:Nat)(hn:n<=1000000000):vR 87 #[.int .u8 base.toNat,.int .i64 n] w (.string (jb9 base n)):=by
 by_cases h:n<=55
 ·obtain⟨x,A⟩:=vE (base+UInt8.ofNat n)
  have e:((base.toNat:Int)+(n:Int)) % (256:Int)=(x.toNat:Int):=by rw[A, <-jrn, <-jh3];omega
  have H:=jb8 w x;have J:=Hd (show jb9 base n=⟨#[x]⟩ by unfold jb9;rw[if_pos h,A]);clear A;unfold vR vQ;go_in;go_wp2;go_ret
  exact⟨by rw[J.o];rfl,(ExtR w).alloc _⟩
 ·have J:=Hd (show jb9 base n=⟨#[base+55+UInt8.ofNat (jcY n).size]⟩++jcY n by unfold jb9;rw[if_neg h])
  unfold vR vQ;go_in;go_wp2_with fail
  refine vC (ju4 w n vO) fun w1 K=>?_
  obtain⟨d,E⟩:=vE (jcY n)
  have O:d.size<=8:=by rw[E];have:=jhp 8 n;simpa [jcY,ByteArray.size]using this
  obtain⟨x,A⟩:=vE (base+55+UInt8.ofNat d.size)
  have Z:(((base.toNat:Int)+55) % (256:Int)+(d.size:Int)) % (256:Int)=(x.toNat:Int):=by
   rw[A, <-jrn, <-jrn, <-jh3];show (((base.toNat:Int)+55) % (256:Int)+(d.size:Int)) % (256:Int)=((((base.toNat:Int)+55) % (256:Int))+(d.size:Int) % (256:Int)) % (256:Int);omega
  have H:=jb8 w1 x;have Q:=Hd E;have X:=Hd A;rw[<-E];clear A E;go_wp2;go_ret
  exact⟨by rw[J.o, <-Q.o, <-X.o];rfl,K.alloc _⟩
def jao(b:vB):vB:=if b.size=1/\b.data.toList.headD 255 < 128 then b else jb9 128 b.size++b
theorem jer(base:vU)(n:Nat):(jb9 base n).size<=9:=by
 have:=jhp 8 n
 unfold jb9;split
 ·exact (by decide:1<=9)
 ·rw[bV]
  have e:(⟨#[base+55+UInt8.ofNat (jcY n).size]⟩:vB).size=1:=rfl;have o:(jcY n).size=(leF 8 n).length:=by simp[jcY,ByteArray.size]
  omega
theorem jea(w:vW)(b:vB)(hn:b.size<=1000000000):vR 50 #[.string b] w (.string (jao b)):=by
 by_cases h1:b.size=1
 ·obtain⟨x,rfl⟩:∃ x,b=⟨#[x]⟩:=by
   obtain⟨⟨l⟩⟩:=b
   have E:l.length=1:=h1
   match l,E with
   | [x],_=>exact⟨x,rfl⟩
  by_cases hx:x < 128
  ·have A:=Hd (show jao ⟨#[x]⟩=⟨#[x]⟩ by unfold jao;rw[if_pos ⟨rfl,hx⟩])
   have K:(((⟨#[x]⟩:vB)[0]'(iZ)).toNat:Int) < 128:=by show (x.toNat:Int) < 128;have:=dE.1 hx;have e:(128:vU).toNat=128:=rfl;omega
   clear hx h1;unfold vR vQ;go_in;go_wp2_with fail
   all_goals first |(go_ret;exact⟨by rw[A.o];rfl,ExtR w⟩) |(exfalso;omega)
  ·have A:=Hd (show jao ⟨#[x]⟩=jb9 128 1++⟨#[x]⟩ by unfold jao;rw[if_neg (fun h=>hx h.2)];rfl)
   have K:¬(((⟨#[x]⟩:vB)[0]'(iZ)).toNat:Int) < 128:=by show ¬(x.toNat:Int) < 128;have e:(128:vU).toNat=128:=rfl;have O:¬ x.toNat < (128:vU).toNat:=fun h=>hx (dE.2 h);omega
   clear hx h1;unfold vR vQ;go_in;go_wp2_with fail
   refine (jst w 128 1 vO).mono ?_;rintro e w' ⟨rfl,H⟩;have J:=jer 128 1;go_wp2;go_ret
   exact⟨by rw[A.o];rfl,H⟩
 ·have Q:((b.size:Int) == 1)=false:=by simp;omega
  have A:=Hd (show jao b=jb9 128 b.size++b by unfold jao;rw[if_neg (fun h=>h1 h.1)]);clear h1;unfold vR vQ;go_in;go_wp2_with fail
  refine (jst w 128 b.size hn).mono ?_;rintro e w' ⟨rfl,H⟩;have J:=jer 128 b.size;go_wp2;go_ret
  exact⟨by rw[A.o];rfl,H⟩
