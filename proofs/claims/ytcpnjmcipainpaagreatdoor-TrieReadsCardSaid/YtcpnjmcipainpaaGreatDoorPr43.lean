/- Lemmas; each is under no condition but those that it states. -/
import Derived.Test.YtcpnjmcipainpaaGreatDoorPr42
namespace Go.Proofs.YtcpnjmcipainpaaGreatDoor
set_option linter.unusedSimpArgs false
set_option linter.unusedVariables false
set_option maxRecDepth 100000
set_option maxHeartbeats 16000000
open Go Go.RowKit
section
attribute [local go_sem] Oper.semAt_some
theorem jjy(a y:vB):(a++y).extract 0 a.size=a:=by
 apply ByteArray.ext;rw[ByteArray.data_extract,ByteArray.data_append]
 have:a.size=a.data.size:=rfl
 rw[this]
 simp
theorem jl3(a y:vB):(a++y).extract a.size (a++y).size=y:=by
 apply ByteArray.ext;rw[ByteArray.data_extract,ByteArray.data_append,ByteArray.size_append]
 obtain⟨⟨la⟩⟩:=a
 obtain⟨⟨ly⟩⟩:=y
 show (la.toArray++ly.toArray).extract la.length (la.length+ly.length)=ly.toArray
 simp
theorem jfJ(w:World)(b y:vB)(hb:b.size<=100000)(hs:(jao b++y).size<=1000000):vR 253 #[.string (jao b++y)] w (.tuple #[.bool false,.string b,.string y,.int .i64 0]):=by
 obtain⟨o,h1,h2,h3⟩:=jhy b y vO
 have HH:=Hd (jrB w (jao b++y) _ hs h1);have HT:=Hd (fun w1=>jdR w1 b vO);have hx0:(jao b++y).extract 0 (o+b.size)=jao b:=by rw[h2];exact jjy _ _
 have hx2:(jao b++y).extract (o+b.size) (jao b++y).size=y:=by rw[h2];exact jl3 _ _
 have hle:o+b.size<=(jao b++y).size:=by rw[h2,ByteArray.size_append];omega
 obtain⟨s,hsd⟩:=vE (jao b++y)
 rw[<-hsd]at hs HH h3 hx0 hx2 hle ⊢
 obtain⟨n,hn⟩:=vE b.size
 rw[<-hn]at HH h3 hx0 hx2 hle hb
 obtain⟨t,ht⟩:=vE (jao b)
 rw[<-ht]at HT hx0;have hbq:(t.toList != t.toList)=false:=by simp
 have d1:¬(1048576:Int) < (n:Int):=by omega
 have d2:¬(s.size:Int) < (o:Int)+(n:Int):=by omega
 have d3:((o:Int)+(n:Int)).toNat=o+n:=by omega
 have d4:(0:Int)<=(o:Int)+(n:Int):=by omega
 have d5:(o:Int)<=(o:Int)+(n:Int):=by omega
 have d6:(o:Int)+(n:Int)<=(s.size:Int):=by omega
 have d8:(o:Int)+(n:Int)<=9223372036854775807:=by omega
 have d9 : -9223372036854775808<=(o:Int)+(n:Int):=by omega
 clear h1 h2 hsd hn ht hle;unfold HdV at HH;go_enter Tryz.func253,Tryz.ntmps253;go_wp2_with fail
 refine HH.o.mono ?_;rintro e w1 ⟨rfl,hE⟩;have HE1:=Hd hE;clear hE;go_wp2_with fail
 refine vC (HT.o w1) fun w2 hE=>?_;have HE2:=Hd (HE1.o.trans hE);clear hE;go_wp2_with fail
 refine jai [0,1,2,3,4,5,6,7,8] Ext ExtR ExtT vY vY vY ?_;iterate 9 refine vK ?_
 refine qKE (fun w3 he=>?_);have HE3:=Hd (HE2.o.trans ((jaj w2).trans he));clear he;go_wp2_with fail
 exact bodyPost_ret (v:=.tuple #[.bool false,.string b,.string y,.int .i64 0]) vY rfl ⟨rfl,HE3.o⟩
theorem jie(w:World)(xs:List vB)(y:vB)(hb:(catB xs).size<=100000)(hs:(ja4 xs++y).size<=1000000):vR 253 #[.string (ja4 xs++y)] w (.tuple #[.bool true,.string (catB xs),.string y,.int .i64 0]):=by
 obtain⟨o,h1,h2,h3⟩:=jhv xs y vO
 have HH:=Hd (jrB w (ja4 xs++y) _ hs h1);have HT:=Hd (fun w1=>jdR w1 (catB xs) vO);have HLL:=Hd (fun w1=>jj3 (w1.alloc (.cells #[.string (catB xs)] 9)) (.slice (some ⟨w1.heap.size,0,none⟩) 1 1) [catB xs] (jdb w1 [catB xs] 9) (by simp) (by rw[jfR];omega));have hx0:(ja4 xs++y).extract 0 (o+(catB xs).size)=ja4 xs:=by rw[h2];exact jjy _ _
 have hx2:(ja4 xs++y).extract (o+(catB xs).size) (ja4 xs++y).size=y:=by rw[h2];exact jl3 _ _
 have hle:o+(catB xs).size<=(ja4 xs++y).size:=by rw[h2,ByteArray.size_append];omega
 obtain⟨b,hbd⟩:=vE (catB xs)
 have hlb:ja4 [b]=ja4 xs:=by unfold ja4;rw[hbd,jfR]
 rw[<-hbd]at hb HH HT HLL h3 hx0 hx2 hle h2 ⊢
 obtain⟨s,hsd⟩:=vE (ja4 xs++y)
 rw[<-hsd]at hs HH h3 hx0 hx2 hle ⊢
 obtain⟨n,hn⟩:=vE b.size
 rw[<-hn]at HH h3 hx0 hx2 hle hb
 obtain⟨t,ht⟩:=vE (ja4 xs)
 rw[hlb, <-ht]at HLL;rw[<-ht]at hx0;have hbq:(t.toList != t.toList)=false:=by simp
 have d1:¬(1048576:Int) < (n:Int):=by omega
 have d2:¬(s.size:Int) < (o:Int)+(n:Int):=by omega
 have d3:((o:Int)+(n:Int)).toNat=o+n:=by omega
 have d4:(0:Int)<=(o:Int)+(n:Int):=by omega
 have d5:(o:Int)<=(o:Int)+(n:Int):=by omega
 have d6:(o:Int)+(n:Int)<=(s.size:Int):=by omega
 have d8:(o:Int)+(n:Int)<=9223372036854775807:=by omega
 have d9 : -9223372036854775808<=(o:Int)+(n:Int):=by omega
 clear h1 h2 hsd hn ht hle hbd hlb;unfold HdV at HH;go_enter Tryz.func253,Tryz.ntmps253;go_wp2_with fail
 refine HH.o.mono ?_;rintro e w1 ⟨rfl,hE⟩;have HE1:=Hd hE;clear hE;go_wp2_with fail
 refine vC (HT.o w1) fun w2 hE=>?_;have HE2:=Hd (HE1.o.trans hE);clear hE;go_wp2_with fail
 refine (HLL.o w2).mono ?_;rintro e w2' ⟨rfl,hE⟩;have HE2:=Hd ((HE2.o.alloc _).trans hE);clear hE;go_wp2_with fail
 refine jai [0,1,2,3,4,5,6,7,8] Ext ExtR ExtT vY vY vY ?_;iterate 9 refine vK ?_
 refine qKE (fun w3 he=>?_);have HE3:=Hd (HE2.o.trans ((jaj w2').trans he));clear he;go_wp2_with fail
 exact bodyPost_ret (v:=.tuple #[.bool true,.string b,.string y,.int .i64 0]) vY rfl ⟨rfl,HE3.o⟩
theorem jfl(w:World)(s:vB)(hs:s.size<=1000000000):vQ 236 #[.string s] w fun e w'=>e=.returned (.bool (jat s))/\w'=w:=by
 go_enter Tryz.func236,Tryz.ntmps236;go_wp2;go_loop [3] (fun i=>∃ k:Nat,k<=s.size/\i=.int .i64 k/\(s.data.toList.take k).all (·<=15)=true) (fun i=>s.size - (intOf i).toNat)
 case atStart=>exact⟨0,Nat.zero_le _,rfl,rfl⟩
 case round =>
  obtain⟨k,hk,rfl,hall⟩:=hrel
  by_cases hlt:k < s.size
  ·have hall':=jmR s hlt (·<=15)
   rw[hall]at hall';have HN:=Hd hall';clear hall';go_wp2
   ·have hgt:15 < (s[k].toNat:Int):=by assumption
    go_ret
    refine⟨?_,rfl⟩
    have hf:decide (s[k]<=15)=false:=by
     simp only[decide_eq_false_iff_not,UInt8.le_iff_toNat_le]
     have:(15:UInt8).toNat=15:=rfl
     omega
    have h2:jat s=false:=by
     have h3:=HN.o;simp only[hf,Bool.and_false]at h3;unfold jat;rw[<-List.take_append_drop (k+1) s.data.toList,List.all_append,h3];rfl
    rw[h2];rfl
   ·have hle:(s[k].toNat:Int)<=15:=by assumption
    have ht:decide (s[k]<=15)=true:=by
     simp only[decide_eq_true_eq,UInt8.le_iff_toNat_le]
     have:(15:UInt8).toNat=15:=rfl
     omega
    have h3:=HN.o;simp only[ht,Bool.and_true]at h3;go_round
    case rel=>exact⟨k+1,by omega,by go_num,h3⟩
    case measure=>simp[intOf];omega
  ·have hks:k=s.size:=by omega
   have hv:jat s=true:=by
    unfold jat;rw[<-hall,hks,List.take_of_length_le]
    simp
   go_wp2;go_ret
   exact⟨rfl,rfl⟩
def jyr(w:World)(p:vB)(v i:Value)(wr:World):Prop:=∃ k:Nat,2 * k<=p.size/\i=.int .i64 (2 * (k:Int))/\v=.string ⟨((jck p.data.toList).take k).toArray⟩/\Ext w wr
theorem jyO(x y:UInt8)(hx:x.toNat<=15)(hy:y.toNat<=15):((x.toNat:Int) * (16:Int)+(y.toNat:Int)) % (256:Int)=((x <<< 4 ||| y).toNat:Int):=by
 have:∀ f g:Fin 16,((f.1:Int) * (16:Int)+(g.1:Int)) % (256:Int)=(((UInt8.ofNat f.1) <<< 4 |||(UInt8.ofNat g.1)).toNat:Int):=by decide +kernel
 have h:=this ⟨x.toNat,by omega⟩ ⟨y.toNat,by omega⟩;simpa using h
theorem jn2{p:vB}(h:jat p=true){k:Nat}(hk:k < p.size):p[k].toNat<=15:=by
 have:=List.all_eq_true.1 h p[k] (by
  have e:p[k]=p.data.toList[k]'hk:=rfl;rw[e];exact List.getElem_mem _)
 have:=of_decide_eq_true this
 exact UInt8.le_iff_toNat_le.1 this
theorem jj2(w:World)(p:vB)(hs:p.size<=1000000)(h2:p.size % 2=0)(hv:jat p=true):vR 239 #[.string p] w (.tuple #[.string (jbr p),.bool true]):=by
 have e1:(p.size:Int) % 2=0:=by omega
 have HV:=Hd hv;have HS2:=Hd h2
 obtain⟨R,hR⟩:=vE (jbr p)
 have HR:=Hd hR;rw[<-hR];clear hR hv h2;go_enter Tryz.func239,Tryz.ntmps239;go_wp2_with fail
 refine vC (jfl _ p vO) fun w1 hw1=>?_;rw[HV.o];subst hw1;go_wp2_with fail
 go_loopw [4,5] (fun v i wr=>jyr w1 p v i wr) (fun _ i _=>p.size - (intOf i).toNat)
 case atStart=>exact⟨0,by omega,rfl,rfl,ExtR w1⟩
 case round =>
  obtain⟨k,hk,rfl,rfl,hE⟩:=hrel
  have HE:=Hd hE;clear hE
  by_cases hlt:2 * k+1 < p.size
  ·have b1:2 * (k:Int)+1 < (p.size:Int):=by omega
   obtain⟨m,hm⟩:=vE (2 * k)
   have hmi:2 * (k:Int)=(m:Int):=by omega
   rw[hmi]at b1 ⊢;have hmk:m+1 < p.size:=by omega
   have b2':m < p.size:=by omega
   have b2:(m:Int) < (p.size:Int):=by omega
   have b3:(0:Int)<=(m:Int)+1:=by omega
   obtain⟨t,ht⟩:=vE ((jck p.data.toList).take k)
   rw[<-ht];have HT:=Hd ht;have HM:=Hd (And.intro hm hmi);have htl:t.length<=1000000:=by rw[ht,List.length_take,jdy];have:p.data.toList.length=p.size:=rfl;omega
   clear ht hm hmi;go_wp2_with fail
   refine jaD [0,1,2,3,4,5,6,7,8,9,10,11,12,13] [10] Ext Ext ExtR ExtT (fun x y z h k=>h.trans k) (fun x y h=>h) vY vY vY ?_;iterate 10 refine vD ?_
   refine qDH _ rfl (fun w2 he K hK=>?_);have HX2:=Hd (show Ext wr w2 from(jaj _).trans he);clear he;go_simp;refine hK _ _ ((ExtR w2).alloc _) ?_;clear hK K
   obtain⟨bb,hbb⟩:=vE (p[m] <<< 4 ||| p[m+1])
   have HBB:=Hd hbb;rw[jyO p[m] p[m+1] (jn2 HV.o b2') (jn2 HV.o hmk), <-hbb];clear hbb;refine qDV _ (.string ⟨[bb].toArray⟩) rfl (fun w3 h3=>jfd (n:=1) (xs:=[bb]) rfl vY h3 (fun f=>f) vI) ?_;refine vS ?_
   obtain⟨t2,ht2⟩:=vE ([bb])
   rw[<-ht2];have h2l:t2.length=1:=by rw[ht2];rfl
   have HT2:=Hd ht2;have b5:¬(9223372036854775807 < (⟨t.toArray⟩:vB).size+(⟨t2.toArray⟩:vB).size):=by show ¬(_ < t.length+t2.length);omega
   clear ht2;iterate 2 refine vD ?_
   refine qDE (fun w6 he=>?_);have HE6:=Hd (HE.o.trans ((HX2.o.alloc _).trans he));clear he;go_wp2_with fail
   go_roundw
   case rel =>
    refine⟨k+1,by omega,by have:=HM.o.2;simp only[Value.int.injEq,true_and];omega,?_,HE6.o⟩
    rw[jgT,HT.o,HT2.o,HBB.o,List.take_add_one];have hg:=jh0 p.data.toList k (by have:p.data.toList.length=p.size:=rfl;omega);rw[hg];have hm:=HM.o.1;subst hm;rfl
   case measure=>simp[intOf];omega
  ·have hks:2 * k=p.size:=by have:=HS2.o;omega
   have HF:=Hd (show (⟨((jck p.data.toList).take k).toArray⟩:vB)=R by
    rw[HR.o,List.take_of_length_le (by rw[jdy];have:p.data.toList.length=p.size:=rfl;omega)];rfl)
   rw[HF.o];have b1:¬ 2 * (k:Int)+1 < (p.size:Int):=by omega
   clear hks hlt;go_wp2_with fail
   go_ret2
   exact⟨rfl,HE.o⟩
theorem jv0(w:World)(s:vB)(hs:s.size<=1000000):vR 214 #[.string s] w (.string (refB s)):=by
 by_cases hlt:s.size < 32
 ·have hq:(s.size:Int) < 32:=by omega
  go_enter Tryz.func214,Tryz.ntmps214;go_wp2_with fail
  go_ret
  exact⟨by unfold refB;rw[if_pos hlt];rfl,ExtR w⟩
 ·have hq:¬(s.size:Int) < 32:=by omega
  have HO:=Hd (jyY w s hs);have HR:=Hd (show refB s=jao (shaB s) by unfold refB;rw[if_neg hlt]);rw[HR.o]
  obtain⟨h,hh⟩:=vE (shaB s)
  have HT:=Hd (fun w1=>jdR w1 h (by rw[hh,jbF];omega));rw[<-hh]at HO ⊢;clear hh;go_enter Tryz.func214,Tryz.ntmps214;go_wp2_with fail
  refine HO.o.mono ?_;rintro e w1 ⟨rfl,hE⟩;have HE:=Hd hE;clear hE;go_wp2_with fail
  refine vC (HT.o w1) fun w2 hE=>?_;have HE2:=Hd (HE.o.trans hE);clear hE;go_wp2_with fail
  go_ret
  exact⟨rfl,HE2.o⟩
theorem jrz(w:World)(r:vB)(hr:r.size < 32):vQ 238 #[.string r] w fun e w'=>e=.returned (.tuple #[.string ⟨#[]⟩,.bool false])/\w=w':=by
 have b0:((r.size:Int) == 33)=false:=beq_eq_false_iff_ne.2 vO;have b1:((r.size:Int) != 33)=true:=by rw[bne,b0];rfl
 have b2:¬(r.size:Int)=33:=by omega
 go_enter Tryz.func238,Tryz.ntmps238;go_wp2_with fail
 go_ret2
 exact⟨rfl,rfl⟩
theorem juy{h:vB}(hs:h.size=32):jao h=⟨#[160]⟩++h:=by
 unfold jao;rw[if_neg vO];unfold jbZ;rw[hs];rfl
theorem jtK(w:World)(h:vB)(hs:h.size=32):vQ 238 #[.string (jao h)] w fun e w'=>e=.returned (.tuple #[.string h,.bool true])/\w=w':=by
 rw[juy hs]
 obtain⟨r,hr⟩:∃ r:vB,r=⟨#[160]⟩++h:=⟨_,rfl⟩
 have hz:r.size=33:=by rw[hr,ByteArray.size_append,hs];rfl
 have h0:r[0]'(by omega)=160:=by
  subst hr;rfl
 have hx:r.extract 1 33=h:=by
  rw[hr]
  have:=jl3 (⟨#[160]⟩:vB) h
  rw[show (⟨#[160]⟩++h:vB).size=33 by rw[ByteArray.size_append,hs];rfl]at this;exact this
 rw[<-hr];have b0:(r.size:Int)=33:=by omega
 clear hr;go_enter Tryz.func238,Tryz.ntmps238;go_wp2_with fail
 go_ret2
 exact⟨rfl,rfl⟩
theorem jnM(w:World)(p:vB)(hs:p.size<=1000000):vQ 208 #[.string p] w fun e w'=>e=.returned (.bool (jat p && decide (p.size<=12)))/\w'=w:=by
 have HV:=Hd (jfl w p vO)
 obtain⟨b,hb⟩:=vE (jat p)
 rw[<-hb]at HV ⊢;clear hb;go_enter Tryz.func208,Tryz.ntmps208;go_wp2_with fail
 refine HV.o.mono ?_;rintro e w1 ⟨rfl,rfl⟩;cases b with
 | false =>
  go_wp2_with fail
  go_ret
  exact⟨rfl,rfl⟩
 | true =>
  by_cases h12:p.size<=12
  ·have c0:(p.size:Int)<=12:=by omega
   go_wp2_with fail
   go_ret
   exact⟨by simp[h12],rfl⟩
  ·have c0:¬(p.size:Int)<=12:=by omega
   go_wp2_with fail
   go_ret
   exact⟨by simp;omega,rfl⟩
theorem jhl(w:World)(b:vB)(hb:b.size<=100000):vR 256 #[.string (jao b)] w (.string b):=by
 have hz:=jaK b;have h0:jao b++(⟨#[]⟩:vB)=jao b:=ByteArray.append_empty;have HS:=Hd (jfJ w b ⟨#[]⟩ hb (by rw[h0];omega));rw[h0]at HS
 obtain⟨t,ht⟩:=vE (jao b)
 rw[<-ht]at HS ⊢;clear ht h0 hz;go_enter Tryz.func256,Tryz.ntmps256;go_wp2_with fail
 refine HS.o.mono ?_;rintro e w1 ⟨rfl,hE⟩;have HE:=Hd hE;clear hE;go_wp2_with fail
 go_ret
 exact⟨rfl,HE.o⟩
theorem jfn{b:UInt8}{p:vB}(hb:b<=15)(h:jat p=true):jat ((⟨#[b]⟩:vB)++p)=true:=by
 unfold jat at *;have e:((⟨#[b]⟩:vB)++p).data.toList=b :: p.data.toList:=by rw[ByteArray.data_append];simp
 rw[e,List.all_cons,h,Bool.and_true];exact decide_eq_true hb
theorem jvL{p:vB}{leaf:Bool}{fb:UInt8}(h:p.size % 2=1)(hf:fb=jdO leaf true):jbr ((⟨#[fb]⟩:vB)++p)=putB p leaf:=by
 have ho:oddB p=true:=by unfold oddB;rw[h];rfl
 unfold putB jb7;rw[ho, <-hf,if_pos rfl]
 congr 1
theorem jtC{p:vB}{leaf:Bool}{fb:UInt8}(h:p.size % 2=0)(hf:fb=jdO leaf false):jbr ((⟨#[fb]⟩:vB)++⟨#[0]⟩++p)=putB p leaf:=by
 have ho:oddB p=false:=by unfold oddB;rw[h];rfl
 unfold putB jb7;rw[ho, <-hf,if_neg vI]
 congr 1
theorem jlC(w:World)(p:vB)(leaf:Bool)(hs:p.size<=900000)(hv:jat p=true):vR 211 #[.string p,.bool leaf] w (.tuple #[.string (putB p leaf),.bool true]):=by
 have HV:=Hd hv;clear hv
 by_cases h2:p.size % 2=0
 ·have e1:(p.size:Int) % 2=0:=by omega
  obtain⟨fb,hfb⟩:∃ fb:UInt8,fb=jdO leaf false:=⟨_,rfl⟩
  have hp:=jtC (p:=p) h2 hfb;have hvv:=jfn (b:=fb) (by rw[hfb];cases leaf <;> decide) (jfn (b:=0) vI HV.o);have hss:((⟨#[fb]⟩:vB)++⟨#[0]⟩++p).size=p.size+2:=by rw[ByteArray.size_append,ByteArray.size_append];show 1+1+p.size=_;omega
  have HP:=Hd hp;have HVV:=Hd (show jat ((⟨#[fb]⟩:vB)++⟨#[0]⟩++p)=true by rw[ByteArray.append_assoc];exact hvv);have HSS:=Hd hss;have hcv:=Tryz.run_lit1 w fb;have hcv2:=Tryz.run_lit1 (w.alloc (.cells #[.int .u8 (fb.toNat:Int)] 5)) 0;rw[World.size_alloc,show (((0:UInt8).toNat:Nat):Int)=0 from rfl]at hcv2;have hfn:(fb.toNat:Int)=if leaf then 2 else 0:=by rw[hfb];cases leaf <;> decide
  have b5:¬(9223372036854775807 < ((⟨#[fb]⟩:vB)++⟨#[0]⟩).size+p.size):=by rw[ByteArray.size_append];show ¬(_ < 1+1+p.size);omega
  have b6:¬(9223372036854775807 < (⟨#[fb]⟩:vB).size+(⟨#[0]⟩:vB).size):=by show ¬(_ < 1+1);omega
  clear hp hvv hss h2 hfb;cases leaf with
  | true =>
   rw[if_pos rfl]at hfn;rw[hfn]at hcv hcv2;go_enter Tryz.func211,Tryz.ntmps211;go_wp2_with fail
   refine vC (jfl _ p vO) fun w1 hw1=>?_;rw[HV.o];subst hw1;go_wp2_with fail
   refine vC (jj2 _ _ (by rw[HSS.o];omega) (by rw[HSS.o];omega) HVV.o) fun w5 hE5=>?_;rw[HP.o];have HE5:=Hd ((((ExtR _).alloc _).alloc _).trans hE5);clear hE5;go_wp2_with fail
   go_ret2
   exact⟨rfl,HE5.o⟩
  | false =>
   rw[if_neg vI]at hfn;rw[hfn]at hcv hcv2;go_enter Tryz.func211,Tryz.ntmps211;go_wp2_with fail
   refine vC (jfl _ p vO) fun w1 hw1=>?_;rw[HV.o];subst hw1;go_wp2_with fail
   refine vC (jj2 _ _ (by rw[HSS.o];omega) (by rw[HSS.o];omega) HVV.o) fun w5 hE5=>?_;rw[HP.o];have HE5:=Hd ((((ExtR _).alloc _).alloc _).trans hE5);clear hE5;go_wp2_with fail
   go_ret2
   exact⟨rfl,HE5.o⟩
 ·have e1:(p.size:Int) % 2=1:=by omega
  have h1:p.size % 2=1:=by omega
  obtain⟨fb,hfb⟩:∃ fb:UInt8,fb=jdO leaf true:=⟨_,rfl⟩
  have hp:=jvL (p:=p) h1 hfb;have hvv:=jfn (b:=fb) (by rw[hfb];cases leaf <;> decide) HV.o;have hss:((⟨#[fb]⟩:vB)++p).size=p.size+1:=by rw[ByteArray.size_append];show 1+p.size=_;omega
  have HP:=Hd hp;have HVV:=Hd hvv;have HSS:=Hd hss;have hcv:=Tryz.run_lit1 w fb;have hfn:(fb.toNat:Int)=if leaf then 3 else 1:=by rw[hfb];cases leaf <;> decide
  have b5:¬(9223372036854775807 < (⟨#[fb]⟩:vB).size+p.size):=by show ¬(_ < 1+p.size);omega
  clear hp hvv hss h2 hfb h1;cases leaf with
  | true =>
   rw[if_pos rfl]at hfn;rw[hfn]at hcv;go_enter Tryz.func211,Tryz.ntmps211;go_wp2_with fail
   refine vC (jfl _ p vO) fun w1 hw1=>?_;rw[HV.o];subst hw1;go_wp2_with fail
   refine vC (jj2 _ _ (by rw[HSS.o];omega) (by rw[HSS.o];omega) HVV.o) fun w5 hE5=>?_;rw[HP.o];have HE5:=Hd (((ExtR _).alloc _).trans hE5);clear hE5;go_wp2_with fail
   go_ret2
   exact⟨rfl,HE5.o⟩
  | false =>
   rw[if_neg vI]at hfn;rw[hfn]at hcv;go_enter Tryz.func211,Tryz.ntmps211;go_wp2_with fail
   refine vC (jfl _ p vO) fun w1 hw1=>?_;rw[HV.o];subst hw1;go_wp2_with fail
   refine vC (jj2 _ _ (by rw[HSS.o];omega) (by rw[HSS.o];omega) HVV.o) fun w5 hE5=>?_;rw[HP.o];have HE5:=Hd (((ExtR _).alloc _).trans hE5);clear hE5;go_wp2_with fail
   go_ret2
   exact⟨rfl,HE5.o⟩
end
end Go.Proofs.YtcpnjmcipainpaaGreatDoor
