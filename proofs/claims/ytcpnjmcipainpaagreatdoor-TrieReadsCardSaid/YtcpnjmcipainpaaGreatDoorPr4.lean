/- Lemmas; each is under no condition but those that it states. -/
import Derived.Test.YtcpnjmcipainpaaGreatDoorPr3
namespace Go.Proofs.YtcpnjmcipainpaaGreatDoor
set_option linter.unusedSimpArgs false
set_option linter.unusedVariables false
set_option maxRecDepth 100000
set_option maxHeartbeats 16000000
open Go Go.RowKit
def jcp(l:List UInt8):List UInt8:=l.flatMap fun(b:UInt8)=>[b >>> 4,b &&& 15]
def ja5(s:vB):vB:=⟨(jcp s.data.toList).toArray⟩
theorem Tryz.uBytes:Tryz.prog.underlying 92=some (.slice 5):=by kernel_rfl
theorem Tryz.uU8:Tryz.prog.underlying 5=some (.int .u8):=by kernel_rfl
theorem Tryz.uStr:Tryz.prog.underlying 9=some .string:=by kernel_rfl
theorem Tryz.infoU8:(Tryz.prog.info? 5).map (fun i=>(i.zero,i.size,i.bytes))=some (some (.int .u8 0),1,1):=by kernel_rfl
abbrev BRow(w0 w:World)(v:Value)(n:Nat)(l:List UInt8):Prop:=ORow 5 1 w0 w v n (jaE l)
def juJ(w:World)(s:vB)(v i:Value)(wr:World):Prop:=∃ k:Nat,k<=s.size/\i=.int .i64 k/\BRow w wr v (2 * k) (jcp (s.data.toList.take k))
theorem jlh(s:vB){k:Nat}(h:k < s.size):jcp (s.data.toList.take (k+1))=jcp (s.data.toList.take k)++[s[k] >>> 4,s[k] &&& 15]:=by
 have hl:k < s.data.toList.length:=by simpa using h
 rw[List.take_succ_eq_append_getElem hl];simp only[jcp,List.flatMap_append,List.flatMap_cons,List.flatMap_nil,List.append_nil];rfl
theorem jqW(b:UInt8):([.int .u8 (b.toNat / 16),.int .u8 (bits BinOp.and .u8 b.toNat 15)]:List Value)=jaE [b >>> 4,b &&& 15]:=by
 have h:∀ b:Fin 256,((b.1:Int) / (16:Int)=((UInt8.ofNat b.1 >>> 4).toNat:Int))/\bits BinOp.and .u8 b.1 15=((UInt8.ofNat b.1 &&& 15).toNat:Int):=by decide +kernel
 have:=h ⟨b.toNat,b.toNat_lt⟩
 simp only[UInt8.ofNat_toNat]at this;simp only[jaE,List.map_cons,List.map_nil,this.1,this.2]
theorem ji0(w:World)(s:vB)(hs:s.size<=1000000):vR 90 #[.string s] w (.string (ja5 s)):=by
 obtain⟨i0,hi,hz0,hz1,hz2⟩:=info_parts Tryz.infoU8
 obtain⟨w1,hmk0,hown,hgr⟩:=run_make_own (P:=Tryz.prog) (w:=w) w.heap.size 92 5 i0 _ 1 Tryz.uBytes hi hz0 hz1 .i64 .i64 (2 * s.size) (by rw[hz2];omega) (by unfold maxLen;omega) (Nat.le_refl _)
 have hmk:(Instr.makeSlice 92 (.int .i64 0) (.int .i64 (2 * (s.size:Int)))).run Tryz.prog w=.ok (.slice (some ⟨w.heap.size,0,none⟩) 0 (2 * s.size)) w1:=by rw[<-hmk0];congr 3
 have HO:=Hd hown;have HG:=Hd hgr;clear hown hgr hmk0;go_enter Tryz.func90,Tryz.ntmps90;go_wp2;go_loopw [3,11] (fun v i wr=>juJ w s v i wr) (fun _ i _=>s.size - (intOf i).toNat)
 case atStart=>exact⟨0,Nat.zero_le _,rfl,ORow.made w HO.o HG.o⟩
 case round =>
  obtain⟨k,hk,rfl,hR⟩:=hrel
  obtain⟨a,c,rfl⟩:=hR.sl
  have HR:=Hd hR;clear hR
  by_cases hlt:k < s.size
  ·go_wp2
   refine jau [0,1,2,3,4,5,6,7,8,9,10,11] [9,10] Ext ExtR ExtT vY vY vY ?_;iterate 9 refine vP ?_
   refine qH _ rfl (fun w1 he K hK=>?_);go_simp;refine hK _ _ ?_;clear hK K;have HR1:=Hd ((HR.o.mono (jaj wr)).mono he);clear he HR;refine qH _ rfl (fun w2 he2 K hK=>?_);have hn:∀ j u,([.int .u8 (s[k].toNat / 16),.int .u8 (bits BinOp.and .u8 s[k].toNat 15)]:List Value)[j]?=some u->w2.cell? ((⟨w1.heap.size,0,none⟩:Addr).add j)=some u:=fun j u hj=>jaa (jtn w1 5 _ j u hj) he2;have HR2:=HR1.o.mono (((ExtR w1).alloc _).trans he2);refine jdj w2 (.tmp 14) (.tmp 23) 92 rfl 5 i0 _ 1 1 Tryz.uBytes hi hz0 hz1 hz2 rfl vI _ (2 * k) _ rfl HR2.own ⟨w1.heap.size,0,none⟩ 2 2 _ rfl rfl hn (by intro u hu;simp at hu;rcases hu with rfl | rfl <;> rfl) (by unfold maxLen;omega) vO (fun v' w3 r1 r2 r3=>hK _ _ ?_);clear hK K hn;have e2:([.int .u8 (s[k].toNat / 16),.int .u8 (bits BinOp.and .u8 s[k].toNat 15)]:List Value)=jaE [s[k] >>> 4,s[k] &&& 15]:=by
    exact jqW s[k]
   rw[e2]at r1;have HR3:Hid (BRow w w3 v' (2 * k+2) (jcp (s.data.toList.take k)++[s[k] >>> 4,s[k] &&& 15])):=Hd (by unfold BRow;rw[jdf];exact HR2.step r1 r2 r3);clear r1 r2 r3 HR2 he2 HR1 e2;refine vS ?_;refine vP ?_;refine qE (fun w4 he4=>?_);have HR4:=Hd (HR3.o.mono he4);clear he4 HR3;go_wp2;go_roundw
   case rel=>exact⟨k+1,by omega,by go_num,by rw[jlh s hlt];exact HR4.o⟩
   case measure=>simp[intOf];omega
  ·have hcv:=jbl wr Tryz.uBytes Tryz.uU8 Tryz.uStr HR.o.own
   have e:(⟨(jcp (s.data.toList.take k)).toArray⟩:vB)=ja5 s:=by unfold ja5;rw[List.take_of_length_le (by simp;omega)]
   rw[e]at hcv;clear e;go_wp2;go_ret
   exact⟨rfl,HR.o.ext⟩
def jck:List UInt8->List UInt8
 | x :: y :: r=>(x <<< 4 ||| y) :: jck r
 | _=>[]
def jbr(s:vB):vB:=⟨(jck s.data.toList).toArray⟩
theorem jdy:∀ (l:List UInt8),(jck l).length=l.length / 2
 | []=>rfl
 | [_]=>by simp[jck]
 | _ :: _ :: r=>by simp only[jck,List.length_cons,jdy r];omega
theorem jh0:∀ (l:List UInt8) (j:Nat) (h:2 * j+1 < l.length),(jck l)[j]?=some (l[2 * j] <<< 4 ||| l[2 * j+1])
 | [],_,h=>by simp at h
 | [_],_,h=>by simp at h
 | x :: y :: r,0,_=>by simp[jck]
 | x :: y :: r,j+1,h=>by
  have:=jh0 r j (by simp at h;omega)
  simp only[jck,List.getElem?_cons_succ,this,Nat.mul_add,Nat.mul_one]
  congr 1
def jco(s:vB)(k:Nat):List Value:=jaE ((jck s.data.toList).take k)++List.replicate (s.size / 2 - k) (.int .u8 0)
theorem jjR(s:vB)(k:Nat)(h:k<=s.size / 2):(jco s k).length=s.size / 2:=by
 have:=jdy s.data.toList
 simp at this;simp[jco,this];omega
theorem jjS(s:vB)(k:Nat)(h:k < s.size / 2):(jco s k).set k (.int .u8 (((s[2 * k]'(by omega)) <<< 4 |||(s[2 * k+1]'(by omega))).toNat:Int))=jco s (k+1):=by
 have hl:=jdy s.data.toList;simp at hl;have h1:(jaE ((jck s.data.toList).take k)).length=k:=by simp[hl];omega
 have h2:s.size / 2 - k=(s.size / 2 - (k+1))+1:=by omega
 have h3:=jh0 s.data.toList k (by simp;omega);have h4:k < (jck s.data.toList).length:=by omega
 rw[List.getElem?_eq_getElem h4]at h3;have h5:=Option.some.inj h3;unfold jco;rw[h2,List.replicate_succ,List.set_append_right _ _ vO,h1,Nat.sub_self,List.set_cons_zero,List.take_succ_eq_append_getElem h4,jdf,List.append_assoc]
 congr 1
 simp only[jaE,List.map_cons,List.map_nil,List.cons_append,List.nil_append,h5];rfl
theorem jjQ(s:vB):jco s (s.size / 2)=jaE (jck s.data.toList):=by
 have hl:=jdy s.data.toList;simp at hl;unfold jco;rw[List.take_of_length_le vO];simp
def juI(w:World)(s:vB)(n:Nat)(i:Value)(wr:World):Prop:=∃ k:Nat,k<=n/\i=.int .i64 k/\ORow 5 1 w wr (.slice (some ⟨w.heap.size,0,none⟩) n n) n (jco s k)
theorem jmx(w:World)(s:vB)(hs:s.size<=1000000):vR 204 #[.string s] w (.string (jbr s)):=by
 obtain⟨i0,hi,hz0,hz1,hz2⟩:=info_parts Tryz.infoU8
 obtain⟨n,hn⟩:=vE (s.size / 2)
 have hq:(s.size:Int) / 2=(n:Int):=by omega
 have hle:2 * n<=s.size:=by omega
 have HN:=Hd hn;clear hn;have hmk:=je3 (P:=Tryz.prog) w Tryz.uBytes hi hz0 hz1 rfl .i64 .i64 n (by rw[hz2];omega) (by unfold maxLen;omega);go_enter Tryz.func204,Tryz.ntmps204;go_wp2;clear hq hmk;go_loopw [11] (fun i wr=>juI w s n i wr) (fun i _=>n - (intOf i).toNat)
 case atStart =>
  refine⟨0,Nat.zero_le _,rfl,?_⟩
  have h:=ORow.lit (T:=5) (sz:=1) (List.replicate n (.int .u8 0)).toArray (n:=n) (ExtR w) (by unfold maxLen;omega) (by simp);have e:jco s 0=List.replicate n (.int .u8 0):=by simp[jco,jaE,HN.o]
  rw[e];simpa using h
 case round =>
  obtain⟨k,hk,rfl,hR⟩:=hrel
  have HR:=Hd hR;clear hR
  by_cases hlt:k < n
  ·have b1:2 * k < s.size:=by omega
   have b2:2 * k+1 < s.size:=by omega
   have c0:(0:Int)<=2 * (k:Int):=by omega
   have c1:2 * (k:Int) < (s.size:Int):=by omega
   have c2:(0:Int)<=2 * (k:Int)+1:=by omega
   have c3:2 * (k:Int)+1 < (s.size:Int):=by omega
   go_wp2;refine jau [0,1,2,3,4,5,6,7,8,9,10,11,12,13,14] [14] Ext ExtR ExtT vY vY vY ?_;iterate 14 refine vP ?_
   refine qH _ rfl (fun w1 he K hK=>?_);have HR1:=Hd (HR.o.mono ((jaj wr).trans he));clear he HR;have hcell:=HR1.o.own.cellAt k vO;rw[List.getElem?_eq_getElem (by rw[jjR _ _ (by have:=HN.o;omega)];have:=HN.o;omega)]at hcell;have hfr:=HR1.o.own.frozenAt k;go_simp;refine hK _ _ ?_;clear hK K hcell hfr;have HR2:=HR1.o.set k (.int .u8 ((s[2 * k] <<< 4 ||| s[2 * k+1]).toNat:Int));rw[jjS s k (by have:=HN.o;omega)]at HR2;have HR3:=Hd HR2;clear HR2 HR1;refine qE (fun w2 he=>?_);rw[jvI]at he;have HR4:=Hd (HR3.o.mono he);clear he HR3;go_wp2;go_roundw
   case rel=>exact⟨k+1,by omega,by go_num,HR4.o⟩
   case measure=>simp[intOf];omega
  ·have hcv:=jbl wr Tryz.uBytes Tryz.uU8 Tryz.uStr (l:=jck s.data.toList) (n:=n) (by have:=HR.o.own;rw[show k=s.size / 2 from by have:=HN.o;omega,jjQ]at this;exact this)
   go_wp2;go_ret
   exact⟨rfl,HR.o.ext⟩
def jdQ(a b:vB):Bool:=Op.bytesLess a.toList b.toList
theorem Tryz.sBytes:jeF Tryz.prog 92 5 1 1:=jeF.mk' Tryz.uBytes Tryz.infoU8 rfl vI
def revK(l:List UInt8)(k:Nat):List UInt8:=(List.range l.length).map fun i=>if i < k\/l.length - 1 - k < i then l.getD (l.length - 1 - i) 0 else l.getD i 0
@[simp] theorem revK_len (l:List UInt8) (k:Nat):(revK l k).length=l.length:=by simp[revK]
theorem jrv(l:List UInt8):revK l 0=l:=by
 apply List.ext_getElem (by simp);intro i h1 h2;simp only[revK,List.getElem_map,List.getElem_range];rw[if_neg vO];simp[h2]
theorem jtI(l:List UInt8)(k:Nat)(h:l.length<=2 * k+1):revK l k=l.reverse:=by
 apply List.ext_getElem (by simp);intro i h1 h2;simp at h1;simp only[revK,List.getElem_map,List.getElem_range,List.getElem_reverse]
 by_cases hc:i < k\/l.length - 1 - k < i
 ·rw[if_pos hc];simp[show l.length - 1 - i < l.length by omega]
 ·rw[if_neg hc]
  have:i=l.length - 1 - i:=by omega
  simp only[List.getD_eq_getElem?_getD,List.getElem?_eq_getElem h1,Option.getD_some]
  congr 1
theorem jnK(l:List UInt8)(k i:Nat)(hi:i < l.length)(h1:k<=i)(h2:i<=l.length - 1 - k):(revK l k)[i]?=some l[i]:=by
 simp only[revK,List.getElem?_map,List.getElem?_range hi,Option.map_some];rw[if_neg vO];simp[hi]
theorem jru(l:List UInt8)(k:Nat)(h:2 * k+1 < l.length):((revK l k).set k (l[l.length - 1 - k]'(by omega))).set (l.length - 1 - k) (l[k]'(by omega))=revK l (k+1):=by
 apply List.ext_getElem (by simp);intro i h1 h2;simp at h2;simp only[List.getElem_set,revK,List.getElem_map,List.getElem_range]
 by_cases e1:l.length - 1 - k=i
 ·subst e1
  rw[if_pos rfl,if_pos vO]
  have:l.length - 1 - (l.length - 1 - k)=k:=by omega
  rw[this];simp[show k < l.length by omega]
 ·rw[if_neg e1]
  by_cases e2:k=i
  ·subst e2
   rw[if_pos rfl,if_pos vO];simp[show l.length - 1 - k < l.length by omega]
  ·rw[if_neg e2]
   by_cases c:i < k\/l.length - 1 - k < i
   ·rw[if_pos c,if_pos vO]
   ·rw[if_neg c,if_neg vO]
def jwH(w:World)(g n c:Nat)(l:List UInt8)(i j:Value)(wr:World):Prop:=∃ k:Nat,k<=n/\i=.int .i64 k/\j=.int .i64 ((n:Int) - 1 - k)/\wr.ownsRow 0 5 1 (.slice (some ⟨g,0,none⟩) n c) n (jaE (revK l k))/\jae (fun b=>b=g) w wr
def juK(w:World)(v:Value)(n:Nat)(l:List UInt8)(e:Ending)(w':World):Prop:=(∃ r,e=.returned r)/\w'.ownsRow 0 5 1 v n (jaE l.reverse)/\jae (fun b=>v.ownBlock=some b) w w'
theorem jrw(w:World)(v:Value)(n:Nat)(l:List UInt8)(hs:n<=1000000)(hr:w.ownsRow 0 5 1 v n (jaE l)):vQ 252 #[v] w (juK w v n l):=by
 have hln:l.length=n:=by have:=hr.1;simp at this;exact this
 have HL:=Hd hln;clear hln;have HR:=Hd hr
 obtain⟨_,⟨rfl,h2⟩ |⟨g,c,cur,rfl,_⟩⟩:=hr
 ·have hl:l=[]:=List.eq_nil_of_length_eq_zero (by have:=HL.o;omega)
  subst hl;go_enter Tryz.func252,Tryz.ntmps252;go_wp2;refine wp_loop_once ?_;go_wp2;go_end0
  exact⟨⟨_,rfl⟩,HR.o,jae.refl _ _⟩
 ·go_enter Tryz.func252,Tryz.ntmps252
  go_wp2;go_loopw [2,3] (fun i j wr=>jwH w g n c l i j wr) (fun i _ _=>n - (intOf i).toNat)
  case atStart=>exact⟨0,Nat.zero_le _,rfl,by go_num,by rw[jrv];exact HR.o,jae.refl _ _⟩
  case round =>
   obtain⟨k,hk,rfl,rfl,hR,hK⟩:=hrel
   have HR1:=Hd hR;have HK:=Hd hK;clear hR hK
   by_cases hlt:2 * k+1 < n
   ·have hlt':decide ((k:Int) < (n:Int) - 1 - k)=true:=by simp;omega
    have hk1:k < n:=by omega
    have e0:((n:Int) - 1 - k)=((n - 1 - k:Nat):Int):=by omega
    have HE:=Hd e0;have c1:=HR1.o.cellAt k vO;have c2:=HR1.o.cellAt (n - 1 - k) vO;have f1:=HR1.o.frozenAt k;have f2:=HR1.o.frozenAt (n - 1 - k);have lk:k < l.length:=by have:=HL.o;omega
    have lk2:n - 1 - k < l.length:=by have:=HL.o;omega
    rw[jaE,List.getElem?_map,jnK l k k lk (Nat.le_refl _) (by have:=HL.o;omega)]at c1;rw[jaE,List.getElem?_map,jnK l k (n - 1 - k) lk2 vO (by have:=HL.o;omega)]at c2;simp only[Option.map_some]at c1 c2;have HC1:=Hd c1;have HC2:=Hd c2;have HF1:=Hd f1;have HF2:=Hd f2;clear c1 c2 f1 f2;rw[e0]at hlt';go_wp2;rw[e0];clear e0;have d1:(0:Int)<=((n - 1 - k:Nat):Int):=by omega
    have d2:((n - 1 - k:Nat):Int) < (n:Int):=by omega
    refine jau [0,1,2,3,4,5,6,7,8,9,10,11,12,13,14,15] [13,15] Ext ExtR ExtT vY vY vY ?_;iterate 7 refine vP ?_
    refine qL ⟨g,n - 1 - k,none⟩ _ rfl (fun w1 h1=>jab Tryz.uU8 rfl (jaa (by exact HC2.o) h1)) ?_;refine vS ?_;iterate 3 refine vP ?_
    refine qL ⟨g,k,none⟩ _ rfl (fun w1 h1=>jab Tryz.uU8 rfl (jaa (by exact HC1.o) h1)) ?_;refine vS ?_
    refine vP ?_
    refine qH _ rfl (fun w1 he K hK=>?_);have R1:=jbe HR1.o ((jaj wr).trans he);have K1:=HK.o.trans' ((jaj wr).trans he) (fun _ _ h=>h.elim);have q1:=jaa HC1.o ((jaj wr).trans he);have q2:=HF1.o;have q2:w1.frozen? ⟨g,k,none⟩=false:=R1.frozenAt k;have R2:=(R1.stored k (.int .u8 (l[n - 1 - k].toNat:Int))).1;have K2:=Hd (K1.setCell (p:=⟨g,k,none⟩) (.inl rfl) (.int .u8 (l[n - 1 - k].toNat:Int)));have HR2:=Hd R2;clear R1 K1 R2 he;go_simp;refine hK _ _ ?_;clear hK K q1 q2
    refine vP ?_
    refine qH _ rfl (fun w2 he K hK=>?_);have R1:=jbe HR2.o he;have K1:=K2.o.trans' he (fun _ _ h=>h.elim)
    obtain⟨old,q1⟩:=jtw R1 (n - 1 - k) vO
    have q2:=R1.frozenAt (n - 1 - k);have R2:=(R1.stored (n - 1 - k) (.int .u8 (l[k].toNat:Int))).1;have K3:=Hd (K1.setCell (p:=⟨g,n - 1 - k,none⟩) (.inl rfl) (.int .u8 (l[k].toNat:Int)));have e:((jaE (revK l k)).set k (.int .u8 (l[n - 1 - k].toNat:Int))).set (n - 1 - k) (.int .u8 (l[k].toNat:Int))=jaE (revK l (k+1)):=by
     have hh:=jru l k (by have:=HL.o;omega);rw[<-hh];simp only[jaE,List.map_set];simp only[HL.o]
    rw[e]at R2;have HR3:=Hd R2;clear R1 K1 R2 he e;go_simp;refine hK _ _ ?_;clear hK K q1 q2;refine qE (fun w3 he=>?_);have HR4:=Hd (jbe HR3.o he);have K4:=Hd (K3.o.trans' he (fun _ _ h=>h.elim));clear he HR3 K3;go_wp2;go_roundw
    case rel=>exact⟨k+1,by omega,by go_num,by have:=HE.o;go_num,HR4.o,K4.o⟩
    case measure=>simp[intOf];omega
   ·have hlt':decide ((k:Int) < (n:Int) - 1 - k)=false:=by simp;omega
    go_wp2;go_end0
    refine⟨⟨_,rfl⟩,?_,HK.o.mono (fun _ _ e=>by rw[e];rfl)⟩
    have:=HR1.o
    rwa [jtI l k (by have:=HL.o;omega)]at this
def leF:Nat->Nat->List UInt8
 | 0,_=>[]
 | f+1,n=>if n=0 then []else UInt8.ofNat n :: leF f (n / 256)
theorem jgI:∀ (f n:Nat),(leF f n).length<=f
 | 0,_=>Nat.le_refl _
 | f+1,n=>by
  simp only[leF];split
  ·simp
  ·simp;exact jgI f _
def jcJ(n:Nat):vB:=⟨(leF 8 n).reverse.toArray⟩
def jws(w:World)(n:Nat)(m b:Value)(wr:World):Prop:=∃ (k:Nat) (acc:List UInt8),m=.int .u64 k/\acc.length<=8/\k < 256 ^ (8 - acc.length)/\leF 8 n=acc++leF (8 - acc.length) k/\BRow w wr b acc.length acc
theorem jsI(w:World)(n:Nat)(hn:n < 18446744073709551616):vR 235 #[.int .u64 n] w (.string (jcJ n)):=by
 go_enter Tryz.func235,Tryz.ntmps235;go_wp2;go_loopw [0,3] (fun m b wr=>jws w n m b wr) (fun m _ _=>(intOf m).toNat)
 case atStart=>exact⟨n,[],rfl,by simp,by simpa using hn,rfl,ORow.nil _ _ (ExtR w)⟩
 case round =>
  obtain⟨k,acc,rfl,hl8,hk,hacc,hR⟩:=hrel
  obtain⟨a,c,rfl⟩:=hR.sl
  have HR:=Hd hR;have HA:=Hd hacc;have HK:=Hd hk;clear hR hacc hk
  by_cases h0:0 < k
  ·have hl7:acc.length < 8:=by
    rcases Nat.lt_or_ge acc.length 8 with h | h
    ·exact h
    ·have:=HK.o;rw[show 8 - acc.length=0 by omega]at this;omega
   go_wp2_with (at_builtin;refine jba Tryz.sBytes (HR.o.mono ((ExtR wr).alloc _)) (.tmp 8) (.tmp 11) rfl rfl rfl (jaS (Blk.new wr _)) (news:=[.int .u8 (k % 256)]) (by intro u hu;simp at hu;rw[hu];rfl) rfl rfl ?c1 ?c2 (fun v' w' r1 r2 r3=>?_))
   case c1=>unfold maxLen;omega
   case c2=>omega
   have e2:jaE acc++[.int .u8 ((k:Int) % 256)]=jaE (acc++[UInt8.ofNat k]):=by
    rw[jdf];simp only[jaE,List.map_cons,List.map_nil];rw[<-jhi]
   rw[e2]at r1;have hstep:leF (8 - acc.length) k=UInt8.ofNat k :: leF (8 - (acc.length+1)) (k / 256):=by
    rw[show 8 - acc.length=(8 - (acc.length+1))+1 by omega];simp only[leF];rw[if_neg vO]
   have hlt:k / 256 < 256 ^ (8 - (acc.length+1)):=by
    have:=HK.o
    rw[show 8 - acc.length=(8 - (acc.length+1))+1 by omega,Nat.pow_succ]at this;omega
   have HS:=Hd hstep;have HLT:=Hd hlt;have HR1:=Hd r1;clear hstep hlt r1 r2 r3 e2 HR;go_wp2;go_roundw
   case rel=>exact⟨k / 256,acc++[UInt8.ofNat k],by go_num,by simp;omega,by simpa using HLT.o,by rw[HA.o,HS.o];simp,by simpa using HR1.o⟩
   case measure=>simp[intOf];omega
  ·have hk0:k=0:=by omega
   subst hk0;have e:leF 8 n=acc:=by rw[HA.o];cases 8 - acc.length <;> simp[leF]
   have HE:=Hd e;clear e;go_wp2_with fail
   refine (jrw wr _ acc.length acc vO HR.o.own).mono ?_;rintro e w1 ⟨⟨r,rfl⟩,R1,K1⟩;have hcv:=jbl w1 Tryz.uBytes Tryz.uU8 Tryz.uStr R1;have HX:=Hd (jgw HR.o.ext HR.o.new K1);clear R1 K1;go_wp2;go_ret
   exact⟨by unfold jcJ;rw[HE.o];rfl,HX.o⟩
def jbZ(base:UInt8)(n:Nat):vB:=
 if n<=55 then ⟨#[base+UInt8.ofNat n]⟩else ⟨#[base+55+UInt8.ofNat (jcJ n).size]⟩++jcJ n
theorem jpL(w:World)(b:UInt8):(w.alloc (.cells #[.int .u8 (b.toNat:Int)] 5)).ownsRow 0 5 1 (.slice (some ⟨w.heap.size,0,none⟩) 1 1) 1 (jaE [b]):=
 World.ownsRow_lit w _ 1 (Nat.zero_le _) vI rfl
theorem jpk(a b:UInt8):((a.toNat:Int)+(b.toNat:Int)) % (256:Int)=((a+b).toNat:Int):=by
 rw[UInt8.toNat_add];omega
theorem jcr(w:World)(b:UInt8):(convert 92 9 (.slice (some ⟨w.heap.size,0,none⟩) 1 1)).run Tryz.prog (w.alloc (.cells #[.int .u8 (b.toNat:Int)] 5))=.ok (.string ⟨#[b]⟩) (w.alloc (.cells #[.int .u8 (b.toNat:Int)] 5)):=
 jbl _ Tryz.uBytes Tryz.uU8 Tryz.uStr (jpL w b)
theorem jqn(w:World)(base:UInt8)(n:Nat)(hn:n<=1000000000):vR 205 #[.int .u8 base.toNat,.int .i64 n] w (.string (jbZ base n)):=by
 by_cases h:n<=55
 ·obtain⟨x,hx⟩:=vE (base+UInt8.ofNat n)
  have e:((base.toNat:Int)+(n:Int)) % (256:Int)=(x.toNat:Int):=by rw[hx, <-jpk, <-jhi];omega
  have hcv:=jcr w x;have HB:=Hd (show jbZ base n=⟨#[x]⟩ by unfold jbZ;rw[if_pos h,hx]);clear hx;go_enter Tryz.func205,Tryz.ntmps205;go_wp2;go_ret
  exact⟨by rw[HB.o];rfl,(ExtR w).alloc _⟩
 ·have HB:=Hd (show jbZ base n=⟨#[base+55+UInt8.ofNat (jcJ n).size]⟩++jcJ n by unfold jbZ;rw[if_neg h])
  go_enter Tryz.func205,Tryz.ntmps205;go_wp2_with fail
  refine vC (jsI w n vO) fun w1 hE=>?_
  obtain⟨d,hd⟩:=vE (jcJ n)
  have hdl:d.size<=8:=by rw[hd];have:=jgI 8 n;simpa [jcJ,ByteArray.size]using this
  obtain⟨x,hx⟩:=vE (base+55+UInt8.ofNat d.size)
  have e2:(((base.toNat:Int)+55) % (256:Int)+(d.size:Int)) % (256:Int)=(x.toNat:Int):=by
   rw[hx, <-jpk, <-jpk, <-jhi];show (((base.toNat:Int)+55) % (256:Int)+(d.size:Int)) % (256:Int)=((((base.toNat:Int)+55) % (256:Int))+(d.size:Int) % (256:Int)) % (256:Int);omega
  have hcv:=jcr w1 x;have HD:=Hd hd;have HX:=Hd hx;rw[<-hd];clear hx hd;go_wp2;go_ret
  exact⟨by rw[HB.o, <-HD.o, <-HX.o];rfl,hE.alloc _⟩
def jao(b:vB):vB:=if b.size=1/\b.data.toList.headD 255 < 128 then b else jbZ 128 b.size++b
theorem jd2(base:UInt8)(n:Nat):(jbZ base n).size<=9:=by
 have:=jgI 8 n
 unfold jbZ;split
 ·exact (by decide:1<=9)
 ·rw[ByteArray.size_append]
  have h1:(⟨#[base+55+UInt8.ofNat (jcJ n).size]⟩:vB).size=1:=rfl;have h2:(jcJ n).size=(leF 8 n).length:=by simp[jcJ,ByteArray.size]
  omega
theorem jee(w:World)(b:vB)(hn:b.size<=1000000000):vR 160 #[.string b] w (.string (jao b)):=by
 by_cases h1:b.size=1
 ·obtain⟨x,rfl⟩:∃ x,b=⟨#[x]⟩:=by
   obtain⟨⟨l⟩⟩:=b
   have h1':l.length=1:=h1
   match l,h1' with
   | [x],_=>exact⟨x,rfl⟩
  by_cases hx:x < 128
  ·have HB:=Hd (show jao ⟨#[x]⟩=⟨#[x]⟩ by unfold jao;rw[if_pos ⟨rfl,hx⟩])
   have hd:(((⟨#[x]⟩:vB)[0]'(Nat.zero_lt_one)).toNat:Int) < 128:=by show (x.toNat:Int) < 128;have:=UInt8.lt_iff_toNat_lt.1 hx;have e:(128:UInt8).toNat=128:=rfl;omega
   clear hx h1;go_enter Tryz.func160,Tryz.ntmps160;go_wp2_with fail
   all_goals first |(go_ret;exact⟨by rw[HB.o];rfl,ExtR w⟩) |(exfalso;omega)
  ·have HB:=Hd (show jao ⟨#[x]⟩=jbZ 128 1++⟨#[x]⟩ by unfold jao;rw[if_neg (fun h=>hx h.2)];rfl)
   have hd:¬(((⟨#[x]⟩:vB)[0]'(Nat.zero_lt_one)).toNat:Int) < 128:=by show ¬(x.toNat:Int) < 128;have e:(128:UInt8).toNat=128:=rfl;have h2:¬ x.toNat < (128:UInt8).toNat:=fun h=>hx (UInt8.lt_iff_toNat_lt.2 h);omega
   clear hx h1;go_enter Tryz.func160,Tryz.ntmps160;go_wp2_with fail
   refine (jqn w 128 1 vO).mono ?_;rintro e w' ⟨rfl,hE⟩;have hsz:=jd2 128 1;go_wp2;go_ret
   exact⟨by rw[HB.o];rfl,hE⟩
 ·have c2:((b.size:Int) == 1)=false:=by simp;omega
  have HB:=Hd (show jao b=jbZ 128 b.size++b by unfold jao;rw[if_neg (fun h=>h1 h.1)]);clear h1;go_enter Tryz.func160,Tryz.ntmps160;go_wp2_with fail
  refine (jqn w 128 b.size hn).mono ?_;rintro e w' ⟨rfl,hE⟩;have hsz:=jd2 128 b.size;go_wp2;go_ret
  exact⟨by rw[HB.o];rfl,hE⟩
end Go.Proofs.YtcpnjmcipainpaaGreatDoor
