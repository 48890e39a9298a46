/- Parts of the proof, one behind the other: RefQe, RefPf, RefPg, RefPh, RefPi, RlpC, RefPj, ShaF, NodeA, NodeB, RefPb, RefPc, RefPd. Each is under no condition but those that it states. -/
import Derived.Test.YtcpnjmcipainpaaGreatDoorPb6
import Derived.Test.YtcpnjmcipainpaaGreatDoorPb12
import Derived.Test.YtcpnjmcipainpaaGreatDoorPb5
import Derived.Test.YtcpnjmcipainpaaGreatDoorPb8
import Derived.Test.YtcpnjmcipainpaaGreatDoorPb9
import Derived.Test.YtcpnjmcipainpaaGreatDoorPb11
namespace Go.Proofs.YtcpnjmcipainpaaGreatDoor
set_option linter.unusedSimpArgs false
set_option linter.unusedVariables false
set_option maxRecDepth 100000
set_option maxHeartbeats 16000000
section
open Go Go.RowKit
attribute [local go_sem] Oper.semAt_some
def Of3R(w:World)(P:List UInt8)(hv iv:Value)(wr:World):Prop:=∃ (j b c:Nat),64 * j≤P.length∧iv=.int .i64 ((64 * j:Nat):Int)∧hv=.slice (some ⟨b,0,none⟩) 8 c∧(∀ i u,((hBlk jfI P j).words.map wv)[i]?=some u→wr.cell? ⟨b,i,none⟩=some u)∧Ext w wr
def Of3S(w:World)(V:W8)(ov iv:Value)(wr:World):Prop:=∃ k:Nat,k≤8∧iv=.int .i64 k∧ov=.string ⟨(outL (V.words.take k)).toArray⟩∧Ext w wr
theorem jop(w:World)(s:ByteArray)(hs:s.size≤1000000):Calls Tryz.prog 92 #[.string s] w fun e w'=>e=.returned (.string (shaB s))∧Ext w w':=by
 have HS:=Hd hs
 obtain⟨P,hP⟩:∃ P,P=padL s.data.toList:=⟨_,rfl⟩
 have hl:s.data.toList.length=s.size:=rfl;have hp1:P.length % 64=0:=by rw[hP];exact jkc _
 have hp2:P.length≤1000100:=by rw[hP,jf5];have:=jhQ s.data.toList.length;omega
 have hp3:0 < P.length:=by rw[hP,jf5];omega
 have HP:=Hd (show shaB s=⟨(outL (hBlk jfI P (P.length / 64)).words).toArray⟩ by rw[hP];exact jnd _);have HPD:=Hd (And.intro hp1 (And.intro hp2 hp3));have hpad:=jl7 w s.data.toList hs;clear hs hl hp1 hp2 hp3;go_enter Tryz.func92,Tryz.ntmps92;go_wp2_with fail
 refine (jlT w).mono ?_;rintro e w1 ⟨b1,b2,rfl,h1,h2,hne,hE,hB1,hB2⟩;have HE1:=Hd hE;have HB1:=Hd hB1;have HB2:=Hd hB2;clear hE hB1 hB2 hpad;go_wp2_with fail
 refine (jl7 w1 s.data.toList HS.o).mono ?_;rintro e w2 ⟨rfl,hE⟩;have HE2:=Hd (HE1.o.trans hE);have HX2:=Hd hE;rw[show padZ s.data.toList (zPad s.data.toList.length)++lenL (UInt64.ofNat s.data.toList.length)=P from hP.symm]
 obtain⟨PB,hPB⟩:∃ PB:ByteArray,PB=⟨P.toArray⟩:=⟨_,rfl⟩
 have HPB:=Hd (And.intro (show PB.size=P.length by rw[hPB];rfl) hPB);rw[←hPB];clear hP hPB hE;go_wp2_with fail
 go_loopw [3,6] (fun hv iv wr=>Of3R w2 P hv iv wr) (fun _ iv _=>P.length+64 - (intOf iv).toNat)
 case atStart=>exact⟨0,b1,8,by omega,rfl,rfl,fun i u hi=>jab (HB1.o.cellL hi) HX2.o,ExtR w2⟩
 case round =>
  obtain⟨j,b,c,hj,rfl,rfl,hcell,hE⟩:=hrel
  have HCELL:=Hd hcell;have HE:=Hd hE;clear hcell hE
  obtain⟨m,hm⟩:∃ m,m=64 * j:=⟨_,rfl⟩
  have HM:=Hd hm;rw[←hm]at hj ⊢;have hsz:=HPB.o.1;have hmod:=HPD.o.1;have hbd:=HPD.o.2.1
  by_cases hlt:m < P.length
  ·have b0:(m:Int) < (PB.size:Int):=by omega
   have hw64:wrap64 ((m:Int)+64)=((m+64:Nat):Int):=by unfold wrap64;omega
   have b5:m+64≤PB.size:=by omega
   have hx:(PB.extract m (m+64)).data.toList=(P.drop (64 * j)).take 64:=by
    rw[HPB.o.2, ←hm,ByteArray.data_extract,Array.toList_extract,List.extract_eq_take_drop]
    congr 1;omega
   have hxs:(PB.extract m (m+64)).size=64:=by rw[ByteArray.size_extract];omega
   have HX:=Hd (And.intro hx hxs);clear hm hsz hmod hbd hx hxs;go_wp2_with fail
   obtain⟨sb,hsb⟩:∃ sb,sb=PB.extract m (m+64):=⟨_,rfl⟩
   rw[←hsb]at HX ⊢;clear hsb;refine (jlD wr b b2 c (hBlk jfI P j) sb HX.o.2 HCELL.o (HB2.o.keeps (HX2.o.trans HE.o) (fun h=>h))).mono ?_;rintro e w5 ⟨g,c',rfl,_,hc5,hE5⟩;rw[HX.o.1]at hc5;have HC5:=Hd hc5;have HE5:=Hd (HE.o.trans hE5);clear hc5 hE5;go_wp2_with fail
   go_roundw
   case rel=>exact⟨j+1,g,c',by have:=HM.o;have:=HPD.o;omega,by have:=HM.o;rw[show 64 * (j+1)=m+64 by omega,hw64],rfl,HC5.o,HE5.o⟩
   case measure =>
    rw[hw64];show P.length+64 - ((m+64:Nat):Int).toNat < P.length+64 - (m:Int).toNat;omega
  ·have hjn:P.length / 64=j:=by have:=HM.o;omega
   have HR:=Hd HP.o;rw[hjn]at HR
   obtain⟨V,hV⟩:∃ V,V=hBlk jfI P j:=⟨_,rfl⟩
   rw[←hV]at HR HCELL;have HWX:=Hd (HE2.o.trans HE.o);clear hV hjn hm hsz hmod hbd;have b0:¬(m:Int) < (PB.size:Int):=by have:=HPB.o.1;omega
   go_wp2_with fail
   obtain⟨W2,rfl⟩:∃ W2,W2=wr:=⟨_,rfl⟩
   go_loopw [7,8] (fun ov iv wr=>Of3S W2 V ov iv wr) (fun _ iv _=>8 - (intOf iv).toNat)
   case atStart=>exact⟨0,by omega,rfl,rfl,ExtR W2⟩
   case round =>
    obtain⟨k,hk,rfl,rfl,hE⟩:=hrel
    have HE8:=Hd hE;clear hE
    by_cases hlt:k < 8
    ·have b1:(k:Int) < 8:=by omega
     obtain⟨x,hx⟩:∃ x,V.words[k]?=some x:=⟨_,List.getElem?_eq_getElem hlt⟩
     have Q1:=Hd (show wr.cell? ⟨b,k,none⟩=some (wv x)from jab (HCELL.o k (wv x) (by rw[List.getElem?_map,hx];rfl)) HE8.o);have HTK:=Hd (show outL (V.words.take (k+1))=outL (V.words.take k)++jdV x by
      rw[List.take_add_one,hx];unfold outL;simp)
     have hS24:∀ (p:UInt32) (w:World),(binOp .shr 206 (wv p) (.int .u64 24)).run Tryz.prog w=.ok (wv (shrW p 24)) w:=fun _ _=>jbT 24 (by decide) .u64;have hS16:∀ (p:UInt32) (w:World),(binOp .shr 206 (wv p) (.int .u64 16)).run Tryz.prog w=.ok (wv (shrW p 16)) w:=fun _ _=>jbT 16 (by decide) .u64;have hS8:∀ (p:UInt32) (w:World),(binOp .shr 206 (wv p) (.int .u64 8)).run Tryz.prog w=.ok (wv (shrW p 8)) w:=fun _ _=>jbT 8 (by decide) .u64;have hBW:∀ (p:UInt32) (w:World),(convert 206 5 (wv p)).run Tryz.prog w=.ok (.int .u8 ((jhm p).toNat:Int)) w:=fun p w=>Tryz.run_byteW p w
     obtain⟨T,hT⟩:∃ T,T=outL (V.words.take k):=⟨_,rfl⟩
     have hTl:T.length≤28:=by
      have:∀ W:List UInt32,(outL W).length=4 * W.length:=fun W=>by
       induction W with
       | nil=>rfl
       | cons y r ih=>show (jdV y++outL r).length=_;rw[List.length_append,ih];show 4+_=4 * (r.length+1);omega
      rw[hT,this,List.length_take];omega
     rw[←hT]at HTK ⊢;clear hx hT;go_wp2_with fail
     refine jaG [0,1,2,3,4,5,6,7,8,9,10,11,12,13,14,15,16,17,18,19,20,21,22,23,24,25,26,27] [24] Ext Ext ExtR ExtT ExtT (fun _ _ h=>h) (by kernel_rfl) (by kernel_rfl) (by kernel_rfl) ?_
     (refine jao _ rfl (by kernel_rfl) rfl rfl (fun K hK=>?_);go_big_quiet_op;refine hK _ ?_;clear hK K)
     iterate 3 (refine jao _ rfl (by kernel_rfl) rfl rfl (fun K hK=>?_);go_big_quiet_op;refine hK _ ?_;clear hK K)
     refine jaP ⟨b,k,none⟩ _ rfl (by kernel_rfl) rfl rfl (fun w1 h1=>jaa Tryz.uU32 rfl (jab Q1.o ((jaj wr).trans h1))) ?_;simp only[Act.put,sA,sB,sC];iterate 2 (refine jao _ rfl (by kernel_rfl) rfl rfl (fun K hK=>?_);go_big_quiet_op;refine hK _ ?_;clear hK K)
     iterate 3 (refine jao _ rfl (by kernel_rfl) rfl rfl (fun K hK=>?_);go_big_quiet_op;refine hK _ ?_;clear hK K)
     refine jaP ⟨b,k,none⟩ _ rfl (by kernel_rfl) rfl rfl (fun w1 h1=>jaa Tryz.uU32 rfl (jab Q1.o ((jaj wr).trans h1))) ?_;simp only[Act.put,sA,sB,sC];iterate 2 (refine jao _ rfl (by kernel_rfl) rfl rfl (fun K hK=>?_);go_big_quiet_op;refine hK _ ?_;clear hK K)
     iterate 3 (refine jao _ rfl (by kernel_rfl) rfl rfl (fun K hK=>?_);go_big_quiet_op;refine hK _ ?_;clear hK K)
     refine jaP ⟨b,k,none⟩ _ rfl (by kernel_rfl) rfl rfl (fun w1 h1=>jaa Tryz.uU32 rfl (jab Q1.o ((jaj wr).trans h1))) ?_;simp only[Act.put,sA,sB,sC];iterate 2 (refine jao _ rfl (by kernel_rfl) rfl rfl (fun K hK=>?_);go_big_quiet_op;refine hK _ ?_;clear hK K)
     iterate 3 (refine jao _ rfl (by kernel_rfl) rfl rfl (fun K hK=>?_);go_big_quiet_op;refine hK _ ?_;clear hK K)
     refine jaP ⟨b,k,none⟩ _ rfl (by kernel_rfl) rfl rfl (fun w1 h1=>jaa Tryz.uU32 rfl (jab Q1.o ((jaj wr).trans h1))) ?_;simp only[Act.put,sA,sB,sC]
     (refine jao _ rfl (by kernel_rfl) rfl rfl (fun K hK=>?_);go_big_quiet_op;refine hK _ ?_;clear hK K)
     refine jaK _ rfl (by kernel_rfl) rfl (fun w2 he K hK=>?_);have HX2:=Hd (show Ext wr w2 from(jaj _).trans he);clear he;go_simp;refine hK _ _ ((ExtR w2).alloc _) ?_;clear hK K;refine jdO _ (.string ⟨(jdV x).toArray⟩) rfl (by kernel_rfl) rfl (fun w3 h3=>jdc (n:=4) (xs:=jdV x) rfl (by kernel_rfl) h3 (fun f=>f) (by decide)) ?_;simp only[Act.put,sA,sB,sC]
     obtain⟨t2,ht2⟩:∃ t2,t2=jdV x:=⟨_,rfl⟩
     have h2l:t2.length=4:=by rw[ht2];rfl
     have HT2:=Hd ht2;rw[←ht2]at HTK ⊢;have b5:¬(9223372036854775807 < (⟨T.toArray⟩:ByteArray).size+(⟨t2.toArray⟩:ByteArray).size):=by show ¬(_ < T.length+t2.length);omega
     clear ht2;iterate 2 (refine jao _ rfl (by kernel_rfl) rfl rfl (fun K hK=>?_);go_big_quiet_op;refine hK _ ?_;clear hK K)
     refine jbt (by kernel_rfl) (fun w6 he=>?_);have HE6:=Hd (HE8.o.trans ((HX2.o.alloc _).trans he));clear he;go_wp2_with fail
     go_roundw
     case rel=>exact⟨k+1,by omega,by go_num,by rw[jek,HTK.o],HE6.o⟩
     case measure=>simp[intOf];omega
    ·have hk8:k=8:=by omega
     subst hk8;have HRV:=Hd (show (⟨(outL (V.words.take 8)).toArray⟩:ByteArray)=shaB s from HR.o.symm);rw[HRV.o]
     obtain⟨z,hz⟩:∃ z,z=shaB s:=⟨_,rfl⟩
     rw[←hz];go_wp2_with fail
     go_ret
     exact⟨congrArg (fun q=>Ending.returned (Value.string q)) hz,HWX.o.trans HE8.o⟩
theorem Tryz.enterBytes02:∀ args w,(callFunc 257 args).run Tryz.prog w=.ok (.enter 257 args) w:=fun _ _=>by kernel_rfl
theorem jn5(n:Nat):(n:Int) % (256:Int)=((UInt8.ofNat n).toNat:Int):=by
 rw[UInt8.toNat_ofNat'];omega
def leB(k n:Nat):ByteArray:=⟨(leF k n).reverse.toArray⟩
theorem jlE:∀ (k:Nat) (w:World) (n:Nat),k≤8→n < 256 ^ k→Calls Tryz.prog 257 #[.int .u64 n] w fun e w'=>e=.returned (.string (leB k n))∧Ext w w':=by
 intro k;induction k with
 | zero =>
  intro w n _ hn;have h0:n=0:=by simpa using hn
  subst h0;go_enter Tryz.func257,Tryz.ntmps257;go_wp2_with fail
  go_ret
  exact⟨rfl,ExtR w⟩
 | succ k ih =>
  intro w n hk hn
  by_cases h0:n=0
  ·subst h0
   go_enter Tryz.func257,Tryz.ntmps257;go_wp2_with fail
   go_ret
   exact⟨by unfold leB leF;simp,ExtR w⟩
  have hz:((n:Int) == 0)=false:=by simpa using h0
  have hb:n < 18446744073709551616:=Nat.lt_of_lt_of_le hn (Nat.le_trans (Nat.pow_le_pow_right (by decide) (by omega:k+1≤8)) (by decide));have HIH:=Hd (fun w1=>ih w1 (n / 256) (by omega) (by rw[Nat.pow_succ]at hn;omega));rw[show ((n / 256:Nat):Int)=(n:Int) / (256:Int)from rfl]at HIH
  obtain⟨r,hr⟩:∃ r,r=leB k (n / 256):=⟨_,rfl⟩
  have HR:=Hd (show leB (k+1) n=⟨(r.data.toList++[UInt8.ofNat n]).toArray⟩ by
   rw[hr];unfold leB;rw[leF,if_neg h0];simp)
  rw[←hr]at HIH;rw[HR.o];have hrs:r.size≤8:=by rw[hr];unfold leB;show (leF k (n / 256)).reverse.length≤8;rw[List.length_reverse];have:=jec k (n / 256);omega
  clear ih hr h0 hn;go_enter Tryz.func257,Tryz.ntmps257;go_wp2_with fail
  refine jaG [0,1,2,3,4,5,6,7,8,9] [6] Ext Ext ExtR ExtT (fun x y z h k=>h.trans k) (fun x y h=>h) (by kernel_rfl) (by kernel_rfl) (by kernel_rfl) ?_;iterate 2 (refine jao _ rfl (by kernel_rfl) rfl rfl (fun K hK=>?_);go_big_quiet_op;refine hK _ ?_;clear hK K)
  refine jeV _ 257 #[.int .u64 ((n:Int) / (256:Int))] (.string r) rfl (by kernel_rfl) rfl (fun w1=>jan Tryz.enterBytes02 (by kernel_rfl)) (fun w1 _=>HIH.o w1) ?_;simp only[Act.put,sA,sB,sC];iterate 3 (refine jao _ rfl (by kernel_rfl) rfl rfl (fun K hK=>?_);go_big_quiet_op;refine hK _ ?_;clear hK K)
  refine jaK _ rfl (by kernel_rfl) rfl (fun w2 he K hK=>?_);have HX2:=Hd (show Ext w w2 from(jaj _).trans he);clear he;go_simp;refine hK _ _ ((ExtR w2).alloc _) ?_;clear hK K;rw[jn5]
  obtain⟨t2,ht2⟩:∃ t2,t2=[UInt8.ofNat n]:=⟨_,rfl⟩
  refine jdO _ (.string ⟨[UInt8.ofNat n].toArray⟩) rfl (by kernel_rfl) rfl (fun w3 h3=>jdc (n:=1) (xs:=[UInt8.ofNat n]) rfl (by kernel_rfl) h3 (fun f=>f) (by decide)) ?_;simp only[Act.put,sA,sB,sC];rw[←ht2];have h2l:t2.length=1:=by rw[ht2];rfl
  have b5:¬(9223372036854775807 < r.size+(⟨t2.toArray⟩:ByteArray).size):=by show ¬(_ < r.size+t2.length);omega
  have HT2:=Hd ht2;clear ht2;iterate 2 (refine jao _ rfl (by kernel_rfl) rfl rfl (fun K hK=>?_);go_big_quiet_op;refine hK _ ?_;clear hK K)
  refine jbt (by kernel_rfl) (fun w6 he=>?_);have HE6:=Hd ((HX2.o.alloc _).trans he);clear he;go_wp2_with fail
  go_ret;have hba:r++(⟨t2.toArray⟩:ByteArray)=⟨(r.data.toList++[UInt8.ofNat n]).toArray⟩:=(jek r.data.toList t2).trans (by rw[HT2.o])
  exact⟨congrArg (fun s=>Ending.returned (Value.string s)) hba,HE6.o⟩
theorem jhL(w:World)(b:ByteArray)(B:Nat)(hB:B=128∨B=192)(hs:b.size≤1000000):Calls Tryz.prog 240 #[.string b,.int .i64 B] w fun e w'=>e=.returned (.string (jbp (UInt8.ofNat B) b.size++b))∧Ext w w':=by
 have hw1 : -9223372036854775808≤(B:Int)+(b.size:Int):=by omega
 have hw2:(B:Int)+(b.size:Int)≤9223372036854775807:=by omega
 by_cases h55:b.size≤55
 ·have c1:(b.size:Int)≤55:=by omega
  obtain⟨fb,hfb⟩:∃ fb:UInt8,fb=UInt8.ofNat B+UInt8.ofNat b.size:=⟨_,rfl⟩
  have hh:jbp (UInt8.ofNat B) b.size=⟨#[fb]⟩:=by unfold jbp;rw[if_pos h55,hfb]
  rw[hh];have hfn:((B:Int)+(b.size:Int))=(fb.toNat:Int):=by
   rw[hfb,UInt8.toNat_add,UInt8.toNat_ofNat',UInt8.toNat_ofNat'];omega
  have hcv:=jbo w fb;rw[←hfn]at hcv;have b5:¬(9223372036854775807 < (⟨#[fb]⟩:ByteArray).size+b.size):=by show ¬(_ < 1+b.size);omega
  clear h55 hfb hh hfn;go_enter Tryz.func240,Tryz.ntmps240;go_wp2_with fail
  go_ret
  exact⟨rfl,(ExtR w).alloc _⟩
 ·have c1:¬(b.size:Int)≤55:=by omega
  obtain⟨d,hd⟩:∃ d,d=jbK b.size:=⟨_,rfl⟩
  have hdl:d.size≤8:=by rw[hd];show (leF 8 b.size).reverse.length≤8;rw[List.length_reverse];exact jec 8 b.size
  obtain⟨fb,hfb⟩:∃ fb:UInt8,fb=UInt8.ofNat B+55+UInt8.ofNat d.size:=⟨_,rfl⟩
  have hh:jbp (UInt8.ofNat B) b.size=⟨#[fb]⟩++d:=by unfold jbp;rw[if_neg h55,hfb,hd]
  rw[hh];have hfn:((B:Int)+55+(d.size:Int))=(fb.toNat:Int):=by
   rw[hfb,UInt8.toNat_add,UInt8.toNat_add,UInt8.toNat_ofNat',UInt8.toNat_ofNat',show (55:UInt8).toNat=55 from rfl];omega
  have HBY:=Hd (show ∀ w1,Calls Tryz.prog 257 #[.int .u64 (b.size:Int)] w1 fun e w'=>e=.returned (.string d)∧Ext w1 w' from fun w1=>by rw[hd];exact jlE 8 w1 b.size (Nat.le_refl _) (Nat.lt_of_le_of_lt hs (by decide)));have hw3 : -9223372036854775808≤(B:Int)+55:=by omega
  have hw4:(B:Int)+55≤9223372036854775807:=by omega
  have hw5 : -9223372036854775808≤(B:Int)+55+(d.size:Int):=by omega
  have hw6:(B:Int)+55+(d.size:Int)≤9223372036854775807:=by omega
  have b5:¬(9223372036854775807 < (⟨#[fb]⟩:ByteArray).size+d.size):=by show ¬(_ < 1+d.size);omega
  have b6:¬(9223372036854775807 < ((⟨#[fb]⟩:ByteArray)++d).size+b.size):=by rw[ByteArray.size_append];show ¬(_ < 1+d.size+b.size);omega
  have HFN:=Hd hfn;clear h55 hfb hh hd hfn;go_enter Tryz.func240,Tryz.ntmps240;go_wp2_with fail
  refine (HBY.o w).mono ?_;rintro e w1 ⟨rfl,hE⟩;have hcv:=jbo w1 fb;rw[←HFN.o]at hcv;have HE:=Hd (hE.alloc (.cells #[.int .u8 ((B:Int)+55+(d.size:Int))] 5));clear hE;go_wp2_with fail
  go_ret
  exact⟨rfl,HE.o⟩
theorem jct(w:World)(b:ByteArray)(hs:b.size≤1000000):Calls Tryz.prog 212 #[.string b] w fun e w'=>e=.returned (.string (jam b))∧Ext w w':=by
 by_cases h1:b.size=1
 ·have l1:0 < b.size:=by omega
  have b1:(0:Int) < (b.size:Int):=by omega
  have c1:((b.size:Int) == 1)=true:=by rw[h1];rfl
  have hd:b.data.toList.headD 255=b[0]:=by
   obtain⟨⟨l⟩⟩:=b
   cases l with
   | nil=>cases l1
   | cons x r=>rfl
  by_cases h2:b[0] < 128
  ·have b2:(b[0].toNat:Int) < 128:=by have:=UInt8.lt_iff_toNat_lt.1 h2;have:(128:UInt8).toNat=128:=rfl;omega
   rw[show jam b=b by unfold jam;rw[if_pos ⟨h1,by rw[hd];exact h2⟩]];clear h1 h2 hd;go_enter Tryz.func212,Tryz.ntmps212;go_wp2_with fail
   go_ret
   exact⟨rfl,ExtR w⟩
  ·have b2:¬(b[0].toNat:Int) < 128:=by have:¬ b[0].toNat < (128:UInt8).toNat:=fun h=>h2 (UInt8.lt_iff_toNat_lt.2 h);have:(128:UInt8).toNat=128:=rfl;omega
   have HW:=Hd (jhL w b 128 (.inl rfl) hs);have HT:=Hd (show jam b=jbp (UInt8.ofNat 128) b.size++b by unfold jam;rw[if_neg (fun h=>h2 (by rw[←hd];exact h.2))];rfl);rw[HT.o];clear h1 h2 hd;go_enter Tryz.func212,Tryz.ntmps212;go_wp2_with fail
   refine HW.o.mono ?_;rintro e w1 ⟨rfl,hE⟩;have HE:=Hd hE;clear hE;go_wp2_with fail
   go_ret
   exact⟨rfl,HE.o⟩
 ·have c1:((b.size:Int) == 1)=false:=beq_eq_false_iff_ne.2 (by omega)
  have HW:=Hd (jhL w b 128 (.inl rfl) hs);have HT:=Hd (show jam b=jbp (UInt8.ofNat 128) b.size++b by unfold jam;rw[if_neg (fun h=>h1 h.1)];rfl);rw[HT.o];clear h1;go_enter Tryz.func212,Tryz.ntmps212;go_wp2_with fail
  refine HW.o.mono ?_;rintro e w1 ⟨rfl,hE⟩;have HE:=Hd hE;clear hE;go_wp2_with fail
  go_ret
  exact⟨rfl,HE.o⟩
theorem jdJ(A B:List ByteArray):catB (A++B)=catB A++catB B:=by
 unfold catB;rw[List.map_append,List.flatten_append,jek]
theorem jdI(x:ByteArray):catB [x]=x:=by
 unfold catB;apply ByteArray.ext
 simp
theorem jiF{xs:List ByteArray}{k:Nat}{x:ByteArray}(hx:xs[k]?=some x):catB (xs.take (k+1))=catB (xs.take k)++x:=by
 rw[List.take_add_one,hx];show catB (xs.take k++[x])=_;rw[jdJ,jdI]
theorem jk4(xs:List ByteArray)(k:Nat):(catB (xs.take k)).size≤(catB xs).size:=by
 have:=jdJ (xs.take k) (xs.drop k)
 rw[List.take_append_drop]at this;rw[this,ByteArray.size_append];omega
def joH(w:World)(xs:List ByteArray)(v i:Value)(wr:World):Prop:=∃ k:Nat,k≤xs.length∧i=.int .i64 k∧v=.string (catB (xs.take k))∧Ext w wr
theorem jm6(w:World)(v:Value)(xs:List ByteArray)(hv:RdS w v xs)(hn:xs.length≤1000000)(hl:(catB xs).size≤1000000):Calls Tryz.prog 241 #[v] w fun e w'=>e=.returned (.string (catB xs))∧Ext w w':=by
 have HV:=Hd hv
 obtain⟨a,c,hsl,_⟩:=hv.slice
 subst hsl;clear hv
 obtain⟨R,hR⟩:∃ R,R=catB xs:=⟨_,rfl⟩
 rw[←hR]at hl ⊢;have HR:=Hd hR;clear hR;go_enter Tryz.func241,Tryz.ntmps241;go_wp2_with fail
 go_loopw [3,4] (fun v i wr=>joH w xs v i wr) (fun _ i _=>xs.length - (intOf i).toNat)
 case atStart=>exact⟨0,Nat.zero_le _,rfl,rfl,ExtR w⟩
 case round =>
  obtain⟨k,hk,rfl,rfl,hE⟩:=hrel
  have HE:=Hd hE;clear hE
  by_cases hlt:k < xs.length
  ·have b1:(k:Int) < (xs.length:Int):=by omega
   obtain⟨x,hx⟩:∃ x,xs[k]?=some x:=⟨_,List.getElem?_eq_getElem hlt⟩
   obtain⟨a7,c7,hhh,hcx⟩:=HV.o.slice
   obtain⟨bx,ox,hax,hcx0⟩:=hcx k x hx
   obtain⟨e1,_,e3⟩:=Value.slice.inj hhh
   rw[hax]at e1;subst e1;have q1:=jab hcx0 HE.o;have hst:=jiF hx;have hle:=jk4 xs (k+1);rw[hst, ←HR.o,ByteArray.size_append]at hle
   obtain⟨t,ht⟩:∃ t,t=catB (xs.take k):=⟨_,rfl⟩
   rw[←ht]at hst hle ⊢;have HST:=Hd hst;have b5:¬(9223372036854775807 < t.size+x.size):=by omega
   clear hhh hcx hcx0 hax e3 hst ht hx hle;go_wp2_with fail
   go_roundw
   case rel=>exact⟨k+1,by omega,by go_num,by rw[HST.o],HE.o⟩
   case measure=>simp[intOf];omega
  ·have HF:=Hd (show catB (xs.take k)=R by rw[HR.o,List.take_of_length_le (by omega)])
   rw[HF.o];go_wp2_with fail
   go_ret
   exact⟨rfl,HE.o⟩
theorem jgd(w:World)(v:Value)(xs:List ByteArray)(hv:RdS w v xs)(hn:xs.length≤1000000)(hl:(catB xs).size≤1000000):Calls Tryz.prog 213 #[v] w fun e w'=>e=.returned (.string (jaR xs))∧Ext w w':=by
 have HJ:=Hd (jm6 w v xs hv hn hl);have HW:=Hd (fun w1=>jhL w1 (catB xs) 192 (.inr rfl) hl);have HB:=Hd (show jaR xs=jbp (UInt8.ofNat 192) (catB xs).size++catB xs from rfl);rw[HB.o]
 obtain⟨a,c,hsl,_⟩:=hv.slice
 subst hsl;clear hv;go_enter Tryz.func213,Tryz.ntmps213;go_wp2_with fail
 refine HJ.o.mono ?_;rintro e w1 ⟨rfl,hE⟩;have HE1:=Hd hE;clear hE;go_wp2_with fail
 refine (HW.o w1).mono ?_;rintro e w2 ⟨rfl,hE⟩;have HE2:=Hd (HE1.o.trans hE);clear hE;go_wp2_with fail
 go_ret
 exact⟨rfl,HE2.o⟩
def beL(l:List UInt8):Nat:=l.foldl (fun a b=>a * 256+b.toNat) 0
theorem jkX(l:List UInt8)(b:UInt8):beL (l++[b])=beL l * 256+b.toNat:=by unfold beL;rw[List.foldl_append];rfl
theorem jnG:∀ (l:List UInt8),beL l < 256 ^ l.length:=fun l=>by
 suffices h:∀ (l:List UInt8) (a k:Nat),a < 256 ^ k→l.foldl (fun a b=>a * 256+b.toNat) a < 256 ^ (k+l.length)from by
  have:=h l 0 0 (by decide)
  rwa [Nat.zero_add]at this
 intro l;induction l with
 | nil=>intro a k h;simpa using h
 | cons x r ih =>
  intro a k h;have hx:=x.toNat_lt
  have:=ih (a * 256+x.toNat) (k+1) (by rw[Nat.pow_succ];omega)
  rw[List.foldl_cons,List.length_cons,show k+(r.length+1)=k+1+r.length by omega];exact this
def RNum(w:World)(s:ByteArray)(v i:Value)(wr:World):Prop:=∃ k:Nat,k≤s.size∧i=.int .i64 k∧v=.int .u64 (beL (s.data.toList.take k))∧Ext w wr
theorem jg3(w:World)(s:ByteArray)(hs:s.size≤8):Calls Tryz.prog 270 #[.string s] w fun e w'=>e=.returned (.int .u64 (beL s.data.toList))∧Ext w w':=by
 obtain⟨R,hR⟩:∃ R,R=beL s.data.toList:=⟨_,rfl⟩
 rw[←hR];have HR:=Hd hR;clear hR;go_enter Tryz.func270,Tryz.ntmps270;go_wp2_with fail
 go_loopw [3,4] (fun v i wr=>RNum w s v i wr) (fun _ i _=>s.size - (intOf i).toNat)
 case atStart=>exact⟨0,Nat.zero_le _,rfl,rfl,ExtR w⟩
 case round =>
  obtain⟨k,hk,rfl,rfl,hE⟩:=hrel
  have HE:=Hd hE;clear hE
  by_cases hlt:k < s.size
  ·have b1:(k:Int) < (s.size:Int):=by omega
   have hst:beL (s.data.toList.take (k+1))=beL (s.data.toList.take k) * 256+s[k].toNat:=by
    have e:s.data.toList[k]?=some s[k]:=by rw[List.getElem?_eq_getElem (by exact hlt)];rfl
    rw[List.take_add_one,e, ←jkX];rfl
   have hlt2:=jnG (s.data.toList.take k);rw[List.length_take]at hlt2;have hlt3:beL (s.data.toList.take k) < 72057594037927936:=Nat.lt_of_lt_of_le hlt2 (Nat.le_trans (Nat.pow_le_pow_right (by decide) (by omega:min k s.data.toList.length≤7)) (by decide));have hxb:=s[k].toNat_lt
   obtain⟨n,hn⟩:∃ n,n=beL (s.data.toList.take k):=⟨_,rfl⟩
   rw[←hn]at hst hlt3 ⊢;have HST:=Hd hst;have w1:(n:Int) * 256 < 18446744073709551616:=by omega
   have w2:(0:Int)≤(n:Int) * 256:=by omega
   have w3:(n:Int) * 256+(s[k].toNat:Int) < 18446744073709551616:=by omega
   have w4:((n:Int) * 256) % 18446744073709551616=(n:Int) * 256:=by omega
   have w5:((n:Int) * 256+(s[k].toNat:Int)) % 18446744073709551616=(n:Int) * 256+(s[k].toNat:Int):=by omega
   clear hlt2 hst hn;go_wp2_with fail
   go_roundw
   case rel=>exact⟨k+1,by omega,by go_num,by rw[HST.o];push_cast;rfl,HE.o⟩
   case measure=>simp[intOf];omega
  ·have HF:=Hd (show beL (s.data.toList.take k)=R by rw[HR.o,List.take_of_length_le (by have:s.data.toList.length=s.size:=rfl;omega)])
   rw[HF.o];go_wp2_with fail
   go_ret
   exact⟨rfl,HE.o⟩
end
section
open Go Go.RowKit
def cutN(s:ByteArray):Option (Bool × Nat × Nat):=
 if h:0 < s.size then
  let b:=s[0].toNat
  if b < 128 then some (false,0,1)
  else
   let (l,m):=if b < 192 then (false,b - 128)else (true,b - 192)
   if m≤55 then
    if 1+m≤s.size∧(l=true∨m≠1∨128≤(s.data.toList.getD 1 0).toNat)then some (l,1,m)else none
   else match lenB s (1+(m - 55))with
    | some n=>if 1+(m - 55)+n≤s.size then some (l,1+(m - 55),n)else none
    | none=>none
 else none
theorem jnJ(w:World)(s:ByteArray)(r:Bool × Nat × Nat)(hs:s.size≤1000000000)(h:cutN s=some r):Calls Tryz.prog 225 #[.string s] w fun e w'=>e=.returned (jb8 s r)∧Ext w w':=by
 unfold cutN at h
 by_cases h0:0 < s.size
 ·rw[dif_pos h0]at h
  simp only at h;have hb:=s[0].toNat_lt
  by_cases h1:s[0].toNat < 128
  ·rw[if_pos h1]at h
   cases h;exact jjI w s hs h0 (by omega)
  ·rw[if_neg h1]at h
   by_cases h2:s[0].toNat < 192
   ·rw[if_pos h2]at h
    simp only at h
    by_cases h3:s[0].toNat - 128≤55
    ·rw[if_pos h3]at h
     split at h
     ·rename_i hc
      cases h;refine jla w s (s[0].toNat - 128) hs h0 (by omega) h3 hc.1 ?_;rcases hc.2 with hc | hc | hc
      ·cases hc
      ·exact .inl hc
      ·have h5:1 < s.size:=by
        rcases Nat.lt_or_ge 1 s.size with h | h
        ·exact h
        ·rw[List.getD_eq_getElem?_getD,List.getElem?_eq_none (by simpa using h)]at hc
         exact absurd hc (by decide)
       refine .inr ⟨h5,?_⟩;rw[List.getD_eq_getElem?_getD,List.getElem?_eq_getElem (by simpa using h5)]at hc;have h6:128≤(s[1]'h5).toNat:=hc;omega
     ·cases h
    ·rw[if_neg h3]at h
     split at h
     ·rename_i n hl
      split at h
      ·rename_i hc
       cases h;exact jjJ w s (s[0].toNat - 128 - 55) n hs h0 (by omega) (by omega) (by omega) hl hc
      ·cases h
     ·cases h
   ·rw[if_neg h2]at h
    simp only at h
    by_cases h3:s[0].toNat - 192≤55
    ·rw[if_pos h3]at h
     split at h
     ·rename_i hc
      cases h;exact jk8 w s (s[0].toNat - 192) hs h0 (by omega) h3 hc.1
     ·cases h
    ·rw[if_neg h3]at h
     split at h
     ·rename_i n hl
      split at h
      ·rename_i hc
       cases h;exact jjH w s (s[0].toNat - 192 - 55) n hs h0 (by omega) (by omega) (by omega) hl hc
      ·cases h
     ·cases h
 ·rw[dif_neg h0]at h;cases h
theorem jn0(w:World):Calls Tryz.prog 107 #[.nilIface,.iface 27 (.int .i64 2)] w fun e w'=>e=.returned (.bool false)∧w=w':=by
 have hq:∀ w,(binOp .eql 162 .nilIface (.iface 27 (.int .i64 2))).run Tryz.prog w=.ok (.bool false) w:=fun w=>by kernel_rfl
 go_enter Tryz.func107,Tryz.ntmps107;go_wp2_with fail
 go_ret
 exact⟨rfl,rfl⟩
theorem jhN(w:World)(s:ByteArray)(r:Bool × Nat × Nat)(hs:s.size≤1000000000)(h:cutN s=some r):Calls Tryz.prog 187 #[.string s] w fun e w'=>e=.returned (.tuple #[.bool r.1,.string (s.extract r.2.1 (r.2.1+r.2.2)),.string (s.extract (r.2.1+r.2.2) s.size),.int .i64 0])∧Ext w w':=by
 go_enter Tryz.func187,Tryz.ntmps187;go_wp2_with fail
 refine (jnJ w s r hs h).mono ?_;rintro e w1 ⟨rfl,hE⟩;unfold jb8
 obtain⟨x,hx⟩:∃ x,x=s.extract r.2.1 (r.2.1+r.2.2):=⟨_,rfl⟩
 obtain⟨y,hy⟩:∃ x,x=s.extract (r.2.1+r.2.2) s.size:=⟨_,rfl⟩
 rw[←hx, ←hy]
 obtain⟨l,p⟩:=r
 have HE:=Hd hE;have HX:=Hd hx;have HY:=Hd hy;clear hE h hx hy hs;simp only;go_wp2_with fail
 refine (jn0 w1).mono ?_;rintro e w2 ⟨rfl,rfl⟩;go_wp2_with fail
 exact bodyPost_ret (v:=.tuple #[.bool l,.string x,.string y,.int .i64 0]) (by kernel_rfl) rfl ⟨by rw[HX.o,HY.o],HE.o⟩
end
section
open Go Go.RowKit
attribute [local go_sem] Oper.semAt_some
theorem jfP(s:ByteArray)(k:Nat):(s.extract 1 (1+k)).data.toList=(s.data.toList.take (1+k)).drop 1:=by
 rw[ByteArray.data_extract]
 obtain⟨⟨l⟩⟩:=s
 cases l with
 | nil=>simp
 | cons x r=>rw[Nat.add_comm 1 k];simp
theorem jnF(l:List UInt8):beL l=beN l:=rfl
def HdV(r:Bool × Nat × Nat):Value:=.tuple #[.bool r.1,.int .i64 (r.2.1:Int),.int .u64 (r.2.2:Int),.bool true]
theorem jkt(w:World)(s:ByteArray)(r:Bool × Nat × Nat)(hs:s.size≤1000000)(h:cutN s=some r):Calls Tryz.prog 265 #[.string s] w fun e w'=>e=.returned (HdV r)∧Ext w w':=by
 unfold cutN at h;split at h
 case isFalse=>cases h
 rename_i h0
 have hne:s.toList.isEmpty=false:=ja8 h0;have b1:(0:Int) < (s.size:Int):=by omega
 have hcl:=s[0].toNat_lt
 obtain⟨c,hc⟩:∃ c,c=s[0].toNat:=⟨_,rfl⟩
 have hci:(s[0].toNat:Int)=(c:Int):=by rw[hc]
 rw[←hc]at h hcl;simp only at h
 by_cases h1:c < 128
 ·rw[if_pos h1]at h
  obtain rfl:=Option.some.inj h;have d1:(c:Int) < 128:=by omega
  have d2:¬(192:Int)≤(c:Int):=by omega
  clear h hc h1;go_enter Tryz.func265,Tryz.ntmps265;go_wp2_with fail
  exact bodyPost_ret (v:=HdV (false,0,1)) (by kernel_rfl) rfl ⟨rfl,ExtR w⟩
 rw[if_neg h1]at h;have d1:¬(c:Int) < 128:=by omega
 by_cases h2:c < 192
 ·rw[if_pos h2]at h
  simp only at h;have d2:¬(192:Int)≤(c:Int):=by omega
  by_cases h3:c - 128≤55
  ·rw[if_pos h3]at h
   split at h
   case isFalse=>cases h
   obtain rfl:=Option.some.inj h;have d3:(c:Int)≤128+55:=by omega
   have d3':(c:Int)≤183:=by omega
   have hcs:(((c - 128:Nat)):Int)=(c:Int) - 128:=by omega
   have hw1:(0:Int)≤(c:Int) - 128:=by omega
   have hw2:(c:Int) - 128 < 18446744073709551616:=by omega
   have hw3:((c:Int) - 128) % 18446744073709551616=(c:Int) - 128:=by omega
   have HV:=Hd (show HdV (false,1,c - 128)=.tuple #[.bool false,.int .i64 1,.int .u64 ((c:Int) - 128),.bool true] by unfold HdV;rw[hcs];rfl);rw[HV.o];clear h hc h1 h2 h3 hcs;go_enter Tryz.func265,Tryz.ntmps265;go_wp2_with fail
   exact bodyPost_ret (v:=.tuple #[.bool false,.int .i64 1,.int .u64 ((c:Int) - 128),.bool true]) (by kernel_rfl) rfl ⟨rfl,ExtR w⟩
  ·rw[if_neg h3]at h
   obtain⟨k,hk⟩:∃ k,k=c - 128 - 55:=⟨_,rfl⟩
   rw[←hk]at h;cases hL:lenB s (1+k)with
   | none=>rw[hL]at h;cases h
   | some n =>
   rw[hL]at h;simp only at h;split at h
   case isFalse=>cases h
   obtain rfl:=Option.some.inj h
   obtain⟨hl1,_,hl3,_,hl5⟩:=jcZ hL
   have hk8:k≤8:=by omega
   have HNB:=Hd (fun w1=>jg3 w1 (s.extract 1 (1+k)) (by rw[ByteArray.size_extract];omega));rw[jfP,jnF,hl3]at HNB;have d3:¬(c:Int)≤128+55:=by omega
   have d3':¬(c:Int)≤183:=by omega
   have hck:(c:Int)=(k:Int)+183:=by omega
   have d4:¬(s.size:Int) < 1+(k:Int):=by omega
   have hcc:(c:Int) - 128 - 55=(k:Int):=by omega
   have d5:(1:Int)≤1+(k:Int):=by omega
   have d6:1+(k:Int)≤(s.size:Int):=by omega
   have d7:(1+(k:Int)).toNat=1+k:=by omega
   have d8:(0:Int)≤1+(k:Int):=by omega
   have HV:=Hd (show HdV (false,1+k,n)=.tuple #[.bool false,.int .i64 (1+(k:Int)),.int .u64 (n:Int),.bool true] by unfold HdV;simp);rw[HV.o];clear h hc h1 h2 h3 hk hL hl1 hl3 hck;go_enter Tryz.func265,Tryz.ntmps265;go_wp2_with fail
   refine (HNB.o _).mono ?_;rintro e w1 ⟨rfl,hE⟩;have HE:=Hd hE;clear hE;go_wp2_with fail
   exact bodyPost_ret (v:=.tuple #[.bool false,.int .i64 (1+(k:Int)),.int .u64 (n:Int),.bool true]) (by kernel_rfl) rfl ⟨rfl,HE.o⟩
 ·rw[if_neg h2]at h
  simp only at h;have d2:(192:Int)≤(c:Int):=by omega
  by_cases h3:c - 192≤55
  ·rw[if_pos h3]at h
   split at h
   case isFalse=>cases h
   obtain rfl:=Option.some.inj h;have d3:(c:Int)≤192+55:=by omega
   have d3':(c:Int)≤247:=by omega
   have hcs:(((c - 192:Nat)):Int)=(c:Int) - 192:=by omega
   have hw1:(0:Int)≤(c:Int) - 192:=by omega
   have hw2:(c:Int) - 192 < 18446744073709551616:=by omega
   have hw3:((c:Int) - 192) % 18446744073709551616=(c:Int) - 192:=by omega
   have HV:=Hd (show HdV (true,1,c - 192)=.tuple #[.bool true,.int .i64 1,.int .u64 ((c:Int) - 192),.bool true] by unfold HdV;rw[hcs];rfl);rw[HV.o];clear h hc h1 h2 h3 hcs;go_enter Tryz.func265,Tryz.ntmps265;go_wp2_with fail
   exact bodyPost_ret (v:=.tuple #[.bool true,.int .i64 1,.int .u64 ((c:Int) - 192),.bool true]) (by kernel_rfl) rfl ⟨rfl,ExtR w⟩
  ·rw[if_neg h3]at h
   obtain⟨k,hk⟩:∃ k,k=c - 192 - 55:=⟨_,rfl⟩
   rw[←hk]at h;cases hL:lenB s (1+k)with
   | none=>rw[hL]at h;cases h
   | some n =>
   rw[hL]at h;simp only at h;split at h
   case isFalse=>cases h
   obtain rfl:=Option.some.inj h
   obtain⟨hl1,_,hl3,_,hl5⟩:=jcZ hL
   have hk8:k≤8:=by omega
   have HNB:=Hd (fun w1=>jg3 w1 (s.extract 1 (1+k)) (by rw[ByteArray.size_extract];omega));rw[jfP,jnF,hl3]at HNB;have d3:¬(c:Int)≤192+55:=by omega
   have d3':¬(c:Int)≤247:=by omega
   have hck:(c:Int)=(k:Int)+247:=by omega
   have d4:¬(s.size:Int) < 1+(k:Int):=by omega
   have hcc:(c:Int) - 192 - 55=(k:Int):=by omega
   have d5:(1:Int)≤1+(k:Int):=by omega
   have d6:1+(k:Int)≤(s.size:Int):=by omega
   have d7:(1+(k:Int)).toNat=1+k:=by omega
   have d8:(0:Int)≤1+(k:Int):=by omega
   have HV:=Hd (show HdV (true,1+k,n)=.tuple #[.bool true,.int .i64 (1+(k:Int)),.int .u64 (n:Int),.bool true] by unfold HdV;simp);rw[HV.o];clear h hc h1 h2 h3 hk hL hl1 hl3 hck;go_enter Tryz.func265,Tryz.ntmps265;go_wp2_with fail
   refine (HNB.o _).mono ?_;rintro e w1 ⟨rfl,hE⟩;have HE:=Hd hE;clear hE;go_wp2_with fail
   exact bodyPost_ret (v:=.tuple #[.bool true,.int .i64 (1+(k:Int)),.int .u64 (n:Int),.bool true]) (by kernel_rfl) rfl ⟨rfl,HE.o⟩
end
section
open Go Go.RowKit
theorem jb7{a b:ByteArray}(h:a.toList=b.toList):a=b:=by
 rw[ByteArray.toList_eq,ByteArray.toList_eq]at h
 obtain⟨⟨l⟩⟩:=a;obtain⟨⟨m⟩⟩:=b
 simp at h;rw[h]
theorem jb1(a:ByteArray):catB [a]=a:=by
 obtain⟨⟨l⟩⟩:=a;simp[catB]
theorem jhE{W w':World}{x:ByteArray}{T:TypeId}(h:Ext (W.alloc (.cells #[.string x] T)) w'):RdS w' (.slice (some ⟨W.heap.size,0,none⟩) 1 1) [x]:=by
 have hB:Blk w' W.heap.size (.cells #[.string x] T):=(Blk.new W _).keeps h (fun h=>h);exact .inr ⟨W.heap.size,0,1,rfl,hB.lt,Nat.le_refl _,fun j y hy=>by
  rcases j with _ | j
  ·cases hy;exact hB.cell (by rfl)
  ·simp at hy⟩
theorem jlz(ws:List UInt32):(outL ws).length=4 * ws.length:=by
 unfold outL;induction ws with
 | nil=>rfl
 | cons x r ih=>rw[List.flatMap_cons,List.length_append,ih];simp[jdV];omega
theorem jkC(s:HSt)(sz:UInt64):(sumB s sz).size=32:=by
 rw[Lib.size_eq];unfold sumB;rw[List.toList_toArray,jlz];rfl
theorem jcl(s:ByteArray):(shaB s).size=32:=jkC _ _
def refB(s:ByteArray):ByteArray:=if s.size < 32 then s else jam (shaB s)
theorem jo3(w:World)(s:ByteArray)(hc:jbU w):Calls Tryz.prog 170 #[.string s] w fun e w'=>e=.returned (.string (refB s))∧Ext w w':=by
 have HC:=Hd hc;clear hc
 by_cases hlt:s.size < 32
 ·have hq:(s.size:Int) < 32:=by omega
  go_enter Tryz.func170,Tryz.ntmps170;go_wp2_with fail
  go_ret
  exact⟨by unfold refB;rw[if_pos hlt];rfl,ExtR w⟩
 ·have hq:¬(s.size:Int) < 32:=by omega
  go_enter Tryz.func170,Tryz.ntmps170;go_wp2_with fail
  refine (of_t _ _ [s] (by simp) (jhE (ExtR _)) (HC.o.ext ((ExtR w).alloc _))).mono ?_;rintro e w1 ⟨rfl,hE1⟩;rw[jb1];have HE1:Hid (Ext w w1):=Hd (((ExtR w).alloc _).trans hE1);clear hE1
  obtain⟨h,hh⟩:∃ h,h=shaB s:=⟨_,rfl⟩
  have hhs:h.size≤1000000000:=by rw[hh,jcl];omega
  rw[←hh];have HH:=Hd hh;clear hh;go_wp2_with fail
  refine (jcP w1 h hhs).mono ?_;rintro e w2 ⟨rfl,hE2⟩;have HE2:=Hd (HE1.o.trans hE2);clear hE2 hhs;go_wp2_with fail
  go_ret
  exact⟨by unfold refB;rw[if_neg hlt, ←HH.o];rfl,HE2.o⟩
def jdo(s:ByteArray)(r:Bool × Nat × Nat):Option ByteArray:=if r.1=false∧r.2.1+r.2.2=s.size then some (s.extract r.2.1 (r.2.1+r.2.2))else none
def optV:Option ByteArray→Value
 | some x=>.tuple #[.string x,.bool true]
 | none=>.tuple #[.string ⟨#[]⟩,.bool false]
theorem jmr{s:ByteArray}{r:Bool × Nat × Nat}(h:cutN s=some r):r.2.1+r.2.2≤s.size:=by
 unfold cutN at h
 by_cases h0:0 < s.size
 ·rw[dif_pos h0]at h
  simp only at h
  by_cases h1:s[0].toNat < 128
  ·rw[if_pos h1]at h
   obtain rfl:=Option.some.inj h;simp only;omega
  ·rw[if_neg h1]at h
   obtain⟨lm,hlm⟩:∃ lm:Bool × Nat,lm=if s[0].toNat < 192 then (false,s[0].toNat - 128)else (true,s[0].toNat - 192):=⟨_,rfl⟩
   rw[←hlm]at h;clear hlm
   obtain⟨l,m⟩:=lm
   simp only at h
   by_cases h3:m≤55
   ·rw[if_pos h3]at h
    split at h
    ·rename_i hc;obtain rfl:=Option.some.inj h;exact hc.1
    ·cases h
   ·rw[if_neg h3]at h
    split at h
    ·split at h
     ·rename_i hc;obtain rfl:=Option.some.inj h;exact hc
     ·cases h
    ·cases h
 ·rw[dif_neg h0]at h;cases h
theorem je2(w:World)(s:ByteArray)(r:Bool × Nat × Nat)(hs:s.size≤1000000000)(h:cutN s=some r):Calls Tryz.prog 164 #[.string s] w fun e w'=>e=.returned (optV (jdo s r))∧Ext w w':=by
 have hle:=jmr h;go_enter Tryz.func164,Tryz.ntmps164;go_wp2_with fail
 refine (jhN w s r hs h).mono ?_;rintro e w1 ⟨rfl,hE⟩
 obtain⟨x,hx⟩:∃ x,x=s.extract r.2.1 (r.2.1+r.2.2):=⟨_,rfl⟩
 obtain⟨y,hy⟩:∃ x,x=s.extract (r.2.1+r.2.2) s.size:=⟨_,rfl⟩
 have hys:y.size=s.size - (r.2.1+r.2.2):=by rw[hy];simp[ByteArray.size_extract]
 rw[←hx, ←hy]
 obtain⟨l,p⟩:=r
 simp only at hys hle;have HE:=Hd hE;have HX:=Hd hx;clear hE h hx hy hs;simp only;cases l with
 | true =>
  go_wp2_with fail
  exact bodyPost_ret (v:=optV none) (by kernel_rfl) rfl ⟨by unfold jdo;rw[if_neg (by simp)],HE.o⟩
 | false =>
  by_cases he:p.1+p.2=s.size
  ·have hy0:y=⟨#[]⟩:=by
    have:y.size=0:=by omega
    obtain⟨⟨l⟩⟩:=y
    cases l with
    | nil=>rfl
    | cons x y=>exact absurd this (Nat.succ_ne_zero _)
   subst hy0;clear hys;go_wp2_with fail
   exact bodyPost_ret (v:=optV (some x)) (by kernel_rfl) rfl ⟨by unfold jdo;rw[if_pos ⟨rfl,he⟩,HX.o],HE.o⟩
  ·have hne:=ja8 (s:=y) (by omega)
   clear hys;go_wp2_with fail
   exact bodyPost_ret (v:=optV none) (by kernel_rfl) rfl ⟨by unfold jdo;rw[if_neg (by simp[he])],HE.o⟩
def jf0(s:ByteArray)(r:Bool × Nat × Nat):Option ByteArray:=(jdo s r).filter (fun x=>x.size=32)
theorem jfH(w:World)(s:ByteArray)(r:Bool × Nat × Nat)(hs:s.size≤1000000000)(h:cutN s=some r):Calls Tryz.prog 118 #[.string s] w fun e w'=>e=.returned (optV (jf0 s r))∧Ext w w':=by
 go_enter Tryz.func118,Tryz.ntmps118;go_wp2_with fail
 refine (je2 w s r hs h).mono ?_;rintro e w1 ⟨rfl,hE⟩;have HE:=Hd hE;have hb:jf0 s r=(jdo s r).filter (fun x=>x.size=32):=rfl
 obtain⟨o,ho⟩:∃ o,o=jdo s r:=⟨_,rfl⟩
 rw[←ho]at hb ⊢;have HB:=Hd hb;clear hE h hs ho hb;cases o with
 | none =>
  unfold optV;simp only;go_wp2_with fail
  exact bodyPost_ret (v:=optV none) (by kernel_rfl) rfl ⟨by rw[HB.o];rfl,HE.o⟩
 | some x =>
  unfold optV;simp only
  by_cases hx:x.size=32
  ·have hq:((x.size:Int) == 32)=true:=by simp;omega
   have hq':(x.size:Int)=32:=by omega
   go_wp2_with fail
   exact bodyPost_ret (v:=optV (some x)) (by kernel_rfl) rfl ⟨by rw[HB.o];simp[Option.filter,hx],HE.o⟩
  ·have hq:((x.size:Int) == 32)=false:=by simp;omega
   have hq':¬(x.size:Int)=32:=by omega
   go_wp2_with fail
   exact bodyPost_ret (v:=optV none) (by kernel_rfl) rfl ⟨by rw[HB.o];simp[Option.filter,hx],HE.o⟩
structure jae where
 kind:Nat
 path:ByteArray
 value:ByteArray
 refs:List ByteArray
def jae.cells(n:jae):List Value:=.int .i64 (n.kind:Int) :: .string n.path :: .string n.value :: n.refs.map Value.string
def jae.V(n:jae):Value:=.agg n.cells.toArray
def jae.pathOk(n:jae)(least:Nat):Bool:=decide (least≤n.path.size) && decide (n.path.size≤12) && jaO n.path
theorem jae.cells_len(n:jae)(h:n.refs.length=16):n.cells.length=19:=by simp[jae.cells,h]
theorem jj8(w:World)(n:jae)(hr:n.refs.length=16)(least:Nat)(hs:n.path.size≤1000000):Calls Tryz.prog 229 #[n.V,.int .i64 least] w fun e w'=>e=.returned (.bool (n.pathOk least))∧Ext w w':=by
 obtain⟨k,p,v,rs⟩:=n
 have hl:(jae.cells ⟨k,p,v,rs⟩).length=19:=jae.cells_len _ hr;simp only at hr hs;have HL:=Hd hl;clear hl;unfold jae.V;have e1:(jae.cells ⟨k,p,v,rs⟩)[1]?=some (.string p):=rfl;have hres:∀ b:Bool,b=(jae.pathOk ⟨k,p,v,rs⟩ least)→Ending.returned (.bool b)=Ending.returned (.bool (jae.pathOk ⟨k,p,v,rs⟩ least)):=fun b h=>by rw[h]
 by_cases h1:least≤p.size
 ·have c1:(least:Int)≤(p.size:Int):=by omega
  by_cases h2:p.size≤12
  ·have c2:(p.size:Int)≤12:=by omega
   go_enter Tryz.func229,Tryz.ntmps229;go_wp2_with fail
   refine (jkM _ p (by omega)).mono ?_;rintro e w1 ⟨rfl,hw1⟩;have HE:Hid (Ext w w1):=Hd (by rw[hw1];exact (ExtR w).alloc _);clear hw1;go_wp2_with fail
   go_ret
   exact⟨hres _ (by simp[jae.pathOk,h1,h2]),HE.o⟩
  ·have c2:¬(p.size:Int)≤12:=by omega
   go_enter Tryz.func229,Tryz.ntmps229;go_wp2_with fail
   go_ret
   exact⟨hres false (by simp[jae.pathOk,h2]),(ExtR w).alloc _⟩
 ·have c1:¬(least:Int)≤(p.size:Int):=by omega
  go_enter Tryz.func229,Tryz.ntmps229;go_wp2_with fail
  go_ret
  exact⟨hres false (by simp[jae.pathOk,h1]),(ExtR w).alloc _⟩
end
section
open Go Go.RowKit
attribute [local go_sem] Oper.semAt_some
theorem jde(w:World)(s:ByteArray)(hs:s.size≤1000000000):Calls Tryz.prog 236 #[.string s] w fun e w'=>e=.returned (.bool (jaO s))∧w'=w:=by
 go_enter Tryz.func236,Tryz.ntmps236;go_wp2;go_loop [3] (fun i=>∃ k:Nat,k≤s.size∧i=.int .i64 k∧(s.data.toList.take k).all (·≤15)=true) (fun i=>s.size - (intOf i).toNat)
 case atStart=>exact⟨0,Nat.zero_le _,rfl,rfl⟩
 case round =>
  obtain⟨k,hk,rfl,hall⟩:=hrel
  by_cases hlt:k < s.size
  ·have hall':=jhR s hlt (·≤15)
   rw[hall]at hall';have HN:=Hd hall';clear hall';go_wp2
   ·have hgt:15 < (s[k].toNat:Int):=by assumption
    go_ret
    refine⟨?_,rfl⟩
    have hf:decide (s[k]≤15)=false:=by
     simp only[decide_eq_false_iff_not,UInt8.le_iff_toNat_le]
     have:(15:UInt8).toNat=15:=rfl
     omega
    have h2:jaO s=false:=by
     have h3:=HN.o;simp only[hf,Bool.and_false]at h3;unfold jaO;rw[←List.take_append_drop (k+1) s.data.toList,List.all_append,h3];rfl
    rw[h2];rfl
   ·have hle:(s[k].toNat:Int)≤15:=by assumption
    have ht:decide (s[k]≤15)=true:=by
     simp only[decide_eq_true_eq,UInt8.le_iff_toNat_le]
     have:(15:UInt8).toNat=15:=rfl
     omega
    have h3:=HN.o;simp only[ht,Bool.and_true]at h3;go_round
    case rel=>exact⟨k+1,by omega,by go_num,h3⟩
    case measure=>simp[intOf];omega
  ·have hks:k=s.size:=by omega
   have hv:jaO s=true:=by
    unfold jaO;rw[←hall,hks,List.take_of_length_le]
    simp
   go_wp2;go_ret
   exact⟨rfl,rfl⟩
def joI(w:World)(p:ByteArray)(v i:Value)(wr:World):Prop:=∃ k:Nat,2 * k≤p.size∧i=.int .i64 (2 * (k:Int))∧v=.string ⟨((jbL p.data.toList).take k).toArray⟩∧Ext w wr
theorem joX(x y:UInt8)(hx:x.toNat≤15)(hy:y.toNat≤15):((x.toNat:Int) * (16:Int)+(y.toNat:Int)) % (256:Int)=((x <<< 4 ||| y).toNat:Int):=by
 have:∀ f g:Fin 16,((f.1:Int) * (16:Int)+(g.1:Int)) % (256:Int)=(((UInt8.ofNat f.1) <<< 4 |||(UInt8.ofNat g.1)).toNat:Int):=by decide +kernel
 have h:=this ⟨x.toNat,by omega⟩ ⟨y.toNat,by omega⟩;simpa using h
theorem jiu{p:ByteArray}(h:jaO p=true){k:Nat}(hk:k < p.size):p[k].toNat≤15:=by
 have:=List.all_eq_true.1 h p[k] (by
  have e:p[k]=p.data.toList[k]'hk:=rfl;rw[e];exact List.getElem_mem _)
 have:=of_decide_eq_true this
 exact UInt8.le_iff_toNat_le.1 this
theorem jgc(w:World)(p:ByteArray)(hs:p.size≤1000000)(h2:p.size % 2=0)(hv:jaO p=true):Calls Tryz.prog 239 #[.string p] w fun e w'=>e=.returned (.tuple #[.string (jdn p),.bool true])∧Ext w w':=by
 have e1:(p.size:Int) % 2=0:=by omega
 have HV:=Hd hv;have HS2:=Hd h2
 obtain⟨R,hR⟩:∃ R,R=jdn p:=⟨_,rfl⟩
 have HR:=Hd hR;rw[←hR];clear hR hv h2;go_enter Tryz.func239,Tryz.ntmps239;go_wp2_with fail
 refine (jde _ p (by omega)).mono ?_;rintro e w1 ⟨rfl,hw1⟩;rw[HV.o];subst hw1;go_wp2_with fail
 go_loopw [4,5] (fun v i wr=>joI w1 p v i wr) (fun _ i _=>p.size - (intOf i).toNat)
 case atStart=>exact⟨0,by omega,rfl,rfl,ExtR w1⟩
 case round =>
  obtain⟨k,hk,rfl,rfl,hE⟩:=hrel
  have HE:=Hd hE;clear hE
  by_cases hlt:2 * k+1 < p.size
  ·have b1:2 * (k:Int)+1 < (p.size:Int):=by omega
   obtain⟨m,hm⟩:∃ m,m=2 * k:=⟨_,rfl⟩
   have hmi:2 * (k:Int)=(m:Int):=by omega
   rw[hmi]at b1 ⊢;have hmk:m+1 < p.size:=by omega
   have b2':m < p.size:=by omega
   have b2:(m:Int) < (p.size:Int):=by omega
   have b3:(0:Int)≤(m:Int)+1:=by omega
   obtain⟨t,ht⟩:∃ t,t=(jbL p.data.toList).take k:=⟨_,rfl⟩
   rw[←ht];have HT:=Hd ht;have HM:=Hd (And.intro hm hmi);have htl:t.length≤1000000:=by rw[ht,List.length_take,jcf];have:p.data.toList.length=p.size:=rfl;omega
   clear ht hm hmi;go_wp2_with fail
   refine jaG [0,1,2,3,4,5,6,7,8,9,10,11,12,13] [10] Ext Ext ExtR ExtT (fun x y z h k=>h.trans k) (fun x y h=>h) (by kernel_rfl) (by kernel_rfl) (by kernel_rfl) ?_;iterate 10 (refine jao _ rfl (by kernel_rfl) rfl rfl (fun K hK=>?_);go_big_quiet_op;refine hK _ ?_;clear hK K)
   refine jaK _ rfl (by kernel_rfl) rfl (fun w2 he K hK=>?_);have HX2:=Hd (show Ext wr w2 from(jaj _).trans he);clear he;go_simp;refine hK _ _ ((ExtR w2).alloc _) ?_;clear hK K
   obtain⟨bb,hbb⟩:∃ bb,bb=p[m] <<< 4 ||| p[m+1]:=⟨_,rfl⟩
   have HBB:=Hd hbb;rw[joX p[m] p[m+1] (jiu HV.o b2') (jiu HV.o hmk), ←hbb];clear hbb;refine jdO _ (.string ⟨[bb].toArray⟩) rfl (by kernel_rfl) rfl (fun w3 h3=>jdc (n:=1) (xs:=[bb]) rfl (by kernel_rfl) h3 (fun f=>f) (by decide)) ?_;simp only[Act.put,sA,sB,sC]
   obtain⟨t2,ht2⟩:∃ t2,t2=[bb]:=⟨_,rfl⟩
   rw[←ht2];have h2l:t2.length=1:=by rw[ht2];rfl
   have HT2:=Hd ht2;have b5:¬(9223372036854775807 < (⟨t.toArray⟩:ByteArray).size+(⟨t2.toArray⟩:ByteArray).size):=by show ¬(_ < t.length+t2.length);omega
   clear ht2;iterate 2 (refine jao _ rfl (by kernel_rfl) rfl rfl (fun K hK=>?_);go_big_quiet_op;refine hK _ ?_;clear hK K)
   refine jbt (by kernel_rfl) (fun w6 he=>?_);have HE6:=Hd (HE.o.trans ((HX2.o.alloc _).trans he));clear he;go_wp2_with fail
   go_roundw
   case rel =>
    refine⟨k+1,by omega,by have:=HM.o.2;simp only[Value.int.injEq,true_and];omega,?_,HE6.o⟩
    rw[jek,HT.o,HT2.o,HBB.o,List.take_add_one];have hg:=je0 p.data.toList k (by have:p.data.toList.length=p.size:=rfl;omega);rw[hg];have hm:=HM.o.1;subst hm;rfl
   case measure=>simp[intOf];omega
  ·have hks:2 * k=p.size:=by have:=HS2.o;omega
   have HF:=Hd (show (⟨((jbL p.data.toList).take k).toArray⟩:ByteArray)=R by
    rw[HR.o,List.take_of_length_le (by rw[jcf];have:p.data.toList.length=p.size:=rfl;omega)];rfl)
   rw[HF.o];have b1:¬ 2 * (k:Int)+1 < (p.size:Int):=by omega
   clear hks hlt;go_wp2_with fail
   go_ret2
   exact⟨rfl,HE.o⟩
theorem jdf{b:UInt8}{p:ByteArray}(hb:b≤15)(h:jaO p=true):jaO ((⟨#[b]⟩:ByteArray)++p)=true:=by
 unfold jaO at *;have e:((⟨#[b]⟩:ByteArray)++p).data.toList=b :: p.data.toList:=by rw[ByteArray.data_append];simp
 rw[e,List.all_cons,h,Bool.and_true];exact decide_eq_true hb
theorem jmU{p:ByteArray}{leaf:Bool}{fb:UInt8}(h:p.size % 2=1)(hf:fb=jcr leaf true):jdn ((⟨#[fb]⟩:ByteArray)++p)=putB p leaf:=by
 have ho:oddB p=true:=by unfold oddB;rw[h];rfl
 unfold putB jbv;rw[ho, ←hf,if_pos rfl]
 congr 1
theorem jlC{p:ByteArray}{leaf:Bool}{fb:UInt8}(h:p.size % 2=0)(hf:fb=jcr leaf false):jdn ((⟨#[fb]⟩:ByteArray)++⟨#[0]⟩++p)=putB p leaf:=by
 have ho:oddB p=false:=by unfold oddB;rw[h];rfl
 unfold putB jbv;rw[ho, ←hf,if_neg (by decide)]
 congr 1
theorem jg6(w:World)(p:ByteArray)(leaf:Bool)(hs:p.size≤900000)(hv:jaO p=true):Calls Tryz.prog 211 #[.string p,.bool leaf] w fun e w'=>e=.returned (.tuple #[.string (putB p leaf),.bool true])∧Ext w w':=by
 have HV:=Hd hv;clear hv
 by_cases h2:p.size % 2=0
 ·have e1:(p.size:Int) % 2=0:=by omega
  obtain⟨fb,hfb⟩:∃ fb:UInt8,fb=jcr leaf false:=⟨_,rfl⟩
  have hp:=jlC (p:=p) h2 hfb;have hvv:=jdf (b:=fb) (by rw[hfb];cases leaf <;> decide) (jdf (b:=0) (by decide) HV.o);have hss:((⟨#[fb]⟩:ByteArray)++⟨#[0]⟩++p).size=p.size+2:=by rw[ByteArray.size_append,ByteArray.size_append];show 1+1+p.size=_;omega
  have HP:=Hd hp;have HVV:=Hd (show jaO ((⟨#[fb]⟩:ByteArray)++⟨#[0]⟩++p)=true by rw[ByteArray.append_assoc];exact hvv);have HSS:=Hd hss;have hcv:=Tryz.run_lit1 w fb;have hcv2:=Tryz.run_lit1 (w.alloc (.cells #[.int .u8 (fb.toNat:Int)] 5)) 0;rw[World.size_alloc,show (((0:UInt8).toNat:Nat):Int)=0 from rfl]at hcv2;have hfn:(fb.toNat:Int)=if leaf then 2 else 0:=by rw[hfb];cases leaf <;> decide
  have b5:¬(9223372036854775807 < ((⟨#[fb]⟩:ByteArray)++⟨#[0]⟩).size+p.size):=by rw[ByteArray.size_append];show ¬(_ < 1+1+p.size);omega
  have b6:¬(9223372036854775807 < (⟨#[fb]⟩:ByteArray).size+(⟨#[0]⟩:ByteArray).size):=by show ¬(_ < 1+1);omega
  clear hp hvv hss h2 hfb;cases leaf with
  | true =>
   rw[if_pos rfl]at hfn;rw[hfn]at hcv hcv2;go_enter Tryz.func211,Tryz.ntmps211;go_wp2_with fail
   refine (jde _ p (by omega)).mono ?_;rintro e w1 ⟨rfl,hw1⟩;rw[HV.o];subst hw1;go_wp2_with fail
   refine (jgc _ _ (by rw[HSS.o];omega) (by rw[HSS.o];omega) HVV.o).mono ?_;rintro e w5 ⟨rfl,hE5⟩;rw[HP.o];have HE5:=Hd ((((ExtR _).alloc _).alloc _).trans hE5);clear hE5;go_wp2_with fail
   go_ret2
   exact⟨rfl,HE5.o⟩
  | false =>
   rw[if_neg (by decide)]at hfn;rw[hfn]at hcv hcv2;go_enter Tryz.func211,Tryz.ntmps211;go_wp2_with fail
   refine (jde _ p (by omega)).mono ?_;rintro e w1 ⟨rfl,hw1⟩;rw[HV.o];subst hw1;go_wp2_with fail
   refine (jgc _ _ (by rw[HSS.o];omega) (by rw[HSS.o];omega) HVV.o).mono ?_;rintro e w5 ⟨rfl,hE5⟩;rw[HP.o];have HE5:=Hd ((((ExtR _).alloc _).alloc _).trans hE5);clear hE5;go_wp2_with fail
   go_ret2
   exact⟨rfl,HE5.o⟩
 ·have e1:(p.size:Int) % 2=1:=by omega
  have h1:p.size % 2=1:=by omega
  obtain⟨fb,hfb⟩:∃ fb:UInt8,fb=jcr leaf true:=⟨_,rfl⟩
  have hp:=jmU (p:=p) h1 hfb;have hvv:=jdf (b:=fb) (by rw[hfb];cases leaf <;> decide) HV.o;have hss:((⟨#[fb]⟩:ByteArray)++p).size=p.size+1:=by rw[ByteArray.size_append];show 1+p.size=_;omega
  have HP:=Hd hp;have HVV:=Hd hvv;have HSS:=Hd hss;have hcv:=Tryz.run_lit1 w fb;have hfn:(fb.toNat:Int)=if leaf then 3 else 1:=by rw[hfb];cases leaf <;> decide
  have b5:¬(9223372036854775807 < (⟨#[fb]⟩:ByteArray).size+p.size):=by show ¬(_ < 1+p.size);omega
  clear hp hvv hss h2 hfb h1;cases leaf with
  | true =>
   rw[if_pos rfl]at hfn;rw[hfn]at hcv;go_enter Tryz.func211,Tryz.ntmps211;go_wp2_with fail
   refine (jde _ p (by omega)).mono ?_;rintro e w1 ⟨rfl,hw1⟩;rw[HV.o];subst hw1;go_wp2_with fail
   refine (jgc _ _ (by rw[HSS.o];omega) (by rw[HSS.o];omega) HVV.o).mono ?_;rintro e w5 ⟨rfl,hE5⟩;rw[HP.o];have HE5:=Hd (((ExtR _).alloc _).trans hE5);clear hE5;go_wp2_with fail
   go_ret2
   exact⟨rfl,HE5.o⟩
  | false =>
   rw[if_neg (by decide)]at hfn;rw[hfn]at hcv;go_enter Tryz.func211,Tryz.ntmps211;go_wp2_with fail
   refine (jde _ p (by omega)).mono ?_;rintro e w1 ⟨rfl,hw1⟩;rw[HV.o];subst hw1;go_wp2_with fail
   refine (jgc _ _ (by rw[HSS.o];omega) (by rw[HSS.o];omega) HVV.o).mono ?_;rintro e w5 ⟨rfl,hE5⟩;rw[HP.o];have HE5:=Hd (((ExtR _).alloc _).trans hE5);clear hE5;go_wp2_with fail
   go_ret2
   exact⟨rfl,HE5.o⟩
theorem jfU{s:ByteArray}(h:s.size=0):s=⟨#[]⟩:=by
 obtain⟨⟨l⟩⟩:=s
 cases l with
 | nil=>rfl
 | cons x r=>cases h
theorem jhj{s:ByteArray}(h:s.size≠0):s.toList.isEmpty=false:=by
 rw[ByteArray.toList_eq]
 obtain⟨⟨l⟩⟩:=s
 cases l with
 | nil=>exact absurd rfl h
 | cons x r=>rfl
theorem Tryz.enterCommon01:∀ args w,(callFunc 123 args).run Tryz.prog w=.ok (.enter 123 args) w:=fun _ _=>by kernel_rfl
theorem je4(w:World)(b:ByteArray):Calls Tryz.prog 123 #[.string ⟨#[]⟩,.string b] w fun e w'=>e=.returned (.int .i64 (jaQ ⟨#[]⟩ b))∧Ext w w':=by
  rw[show jaQ ⟨#[]⟩ b=0 from jd5 _ _ (.inl rfl)];go_enter Tryz.func123,Tryz.ntmps123;go_wp2_with fail
  refine jad [0,1,2,3,4,5,6,7,8,9,10,11,12] Ext ExtR ExtT (by kernel_rfl) (by kernel_rfl) (by kernel_rfl) ?_;iterate 3 (refine jac _ rfl (by kernel_rfl) rfl rfl (fun K hK=>?_);go_big_quiet_op;refine hK _ ?_;clear hK K)
  iterate 2 (refine jaU _ rfl (by kernel_rfl) rfl ?_;simp only[Act.put,sA,sB,sC])
  iterate 2 (refine jac _ rfl (by kernel_rfl) rfl rfl (fun K hK=>?_);go_big_quiet_op;refine hK _ ?_;clear hK K)
  iterate 5 (refine jaU _ rfl (by kernel_rfl) rfl ?_;simp only[Act.put,sA,sB,sC])
  (refine jac _ rfl (by kernel_rfl) rfl rfl (fun K hK=>?_);go_big_quiet_op;refine hK _ ?_;clear hK K)
  refine jas (by kernel_rfl) (fun w1 he=>?_);have HE:=Hd ((jaj w).trans he);clear he;go_wp2_with fail
  go_ret
  exact⟨rfl,HE.o⟩
theorem jgW(w:World)(a:ByteArray)(ha:a.size≠0):Calls Tryz.prog 123 #[.string a,.string ⟨#[]⟩] w fun e w'=>e=.returned (.int .i64 (jaQ a ⟨#[]⟩))∧Ext w w':=by
  have hna:=jhj ha;rw[show jaQ a ⟨#[]⟩=0 from jd5 _ _ (.inr rfl)];go_enter Tryz.func123,Tryz.ntmps123;go_wp2_with fail
  refine jad [0,1,2,3,4,5,6,7,8,9,10,11,12] Ext ExtR ExtT (by kernel_rfl) (by kernel_rfl) (by kernel_rfl) ?_;iterate 7 (refine jac _ rfl (by kernel_rfl) rfl rfl (fun K hK=>?_);go_big_quiet_op;refine hK _ ?_;clear hK K)
  iterate 5 (refine jaU _ rfl (by kernel_rfl) rfl ?_;simp only[Act.put,sA,sB,sC])
  (refine jac _ rfl (by kernel_rfl) rfl rfl (fun K hK=>?_);go_big_quiet_op;refine hK _ ?_;clear hK K)
  refine jas (by kernel_rfl) (fun w1 he=>?_);have HE:=Hd ((jaj w).trans he);clear he;go_wp2_with fail
  go_ret
  exact⟨rfl,HE.o⟩
theorem jhp{a b:ByteArray}(ha:0 < a.size)(hb:0 < b.size)(h:a[0]=b[0]):jaQ a b=1+jaQ (a.extract 1 a.size) (b.extract 1 b.size):=by
 have e:∀ {s:ByteArray} (hs:0 < s.size),s.data.toList=s[0] ::(s.extract 1 s.size).data.toList:=fun {s} hs=>by
  have:=jfY s hs
  rw[List.drop_zero]at this;rw[this]
  congr 1
  rw[ByteArray.data_extract]
  simp
  rw[List.take_of_length_le (by rw[List.length_tail];exact Nat.le_refl _)]
 unfold jaQ;rw[e ha,e hb];show (if a[0]=b[0]then _ else 0)=_;rw[if_pos h];omega
theorem jd4:∀ a b:List UInt8,jaX a b≤a.length
 | [],_=>by simp[jaX]
 | x :: r,[]=>by simp[jaX]
 | x :: r,y :: t=>by
  have:=jd4 r t
  show (if x=y then jaX r t+1 else 0)≤_;rw[List.length_cons];split <;> omega
theorem jiV(a b:ByteArray):jaQ a b≤a.size:=jd4 _ _
theorem jhr{a b:ByteArray}(ha:0 < a.size)(hb:0 < b.size)(h:a[0]≠b[0]):jaQ a b=0:=by
 have e:∀ {s:ByteArray} (hs:0 < s.size),s.data.toList=s[0] :: s.data.toList.drop 1:=fun {s} hs=>by
  have:=jfY s hs
  rwa [List.drop_zero]at this
 unfold jaQ;rw[e ha,e hb];show (if a[0]=b[0]then _ else 0)=_;rw[if_neg h]
theorem jkk:∀ (n:Nat) (w:World) (a b:ByteArray),a.size≤n→n≤1000000→b.size≤1000000→Calls Tryz.prog 123 #[.string a,.string b] w fun e w'=>e=.returned (.int .i64 (jaQ a b))∧Ext w w':=by
 intro n;induction n with
 | zero =>
  intro w a b ha hn hb;have h0:=jfU (s:=a) (by omega);subst h0;exact je4 w b
 | succ n ih =>
  intro w a b ha hn hb
  by_cases ha0:a.size=0
  ·have h0:=jfU ha0
   subst h0;exact je4 w b
  by_cases hb0:b.size=0
  ·have h0:=jfU hb0
   subst h0;exact jgW w a ha0
  have hna:=jhj ha0;have hnb:=jhj hb0;have l1:0 < a.size:=by omega
  have l2:0 < b.size:=by omega
  have b1:(0:Int) < (a.size:Int):=by omega
  have b2:(0:Int) < (b.size:Int):=by omega
  by_cases heq:a[0]=b[0]
  ·rw[jhp l1 l2 heq]
   have hh:((a[0].toNat:Int) !=(b[0].toNat:Int))=false:=by rw[heq];simp
   have b3:(1:Int)≤(a.size:Int):=by omega
   have b4:(1:Int)≤(b.size:Int):=by omega
   have HIH:=Hd (fun w1=>ih w1 (a.extract 1 a.size) (b.extract 1 b.size) (by rw[ByteArray.size_extract];omega) (by omega) (by rw[ByteArray.size_extract];omega))
   obtain⟨c,hc⟩:∃ c,c=jaQ (a.extract 1 a.size) (b.extract 1 b.size):=⟨_,rfl⟩
   have hcl:c≤1000000:=by have:=jiV (a.extract 1 a.size) (b.extract 1 b.size);rw[ByteArray.size_extract]at this;omega
   rw[←hc]at HIH ⊢;clear ih heq hc;go_enter Tryz.func123,Tryz.ntmps123;go_wp2_with fail
   refine jad [0,1,2,3,4,5,6,7,8,9,10,11,12] Ext ExtR ExtT (by kernel_rfl) (by kernel_rfl) (by kernel_rfl) ?_;iterate 13 (refine jac _ rfl (by kernel_rfl) rfl rfl (fun K hK=>?_);go_big_quiet_op;refine hK _ ?_;clear hK K)
   refine jas (by kernel_rfl) (fun w1 he=>?_);have HE:=Hd ((jaj w).trans he);clear he;go_wp2_with fail
   refine jad [0,1,2,3,4,5,6] Ext ExtR ExtT (by kernel_rfl) (by kernel_rfl) (by kernel_rfl) ?_;iterate 4 (refine jac _ rfl (by kernel_rfl) rfl rfl (fun K hK=>?_);go_big_quiet_op;refine hK _ ?_;clear hK K)
   refine jav _ 123 #[.string (a.extract 1 a.size),.string (b.extract 1 b.size)] (.int .i64 c) rfl (by kernel_rfl) rfl (fun w2=>jan Tryz.enterCommon01 (by kernel_rfl)) (fun w2 _=>HIH.o w2) ?_;simp only[Act.put,sA,sB,sC];iterate 2 (refine jac _ rfl (by kernel_rfl) rfl rfl (fun K hK=>?_);go_big_quiet_op;refine hK _ ?_;clear hK K)
   refine jas (by kernel_rfl) (fun w3 he=>?_);have HE3:=Hd (HE.o.trans ((jaj w1).trans he));clear he;go_wp2_with fail
   go_ret
   exact⟨by simp,HE3.o⟩
  ·rw[jhr l1 l2 heq]
   have hh:((a[0].toNat:Int) !=(b[0].toNat:Int))=true:=by
    have:a[0].toNat≠b[0].toNat:=fun e=>heq (UInt8.toNat_inj.1 e)
    simp;omega
   clear ih heq;go_enter Tryz.func123,Tryz.ntmps123;go_wp2_with fail
   refine jad [0,1,2,3,4,5,6,7,8,9,10,11,12] Ext ExtR ExtT (by kernel_rfl) (by kernel_rfl) (by kernel_rfl) ?_;iterate 13 (refine jac _ rfl (by kernel_rfl) rfl rfl (fun K hK=>?_);go_big_quiet_op;refine hK _ ?_;clear hK K)
   refine jas (by kernel_rfl) (fun w1 he=>?_);have HE:=Hd ((jaj w).trans he);clear he;go_wp2_with fail
   go_ret
   exact⟨rfl,HE.o⟩
end
end Go.Proofs.YtcpnjmcipainpaaGreatDoor
