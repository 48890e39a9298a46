/- Lemmas; each is under no condition but those that it states. -/
import Derived.Test.YtcpnjmcipainpaaGreatDoorPr41
namespace Go.Proofs.YtcpnjmcipainpaaGreatDoor
set_option linter.unusedSimpArgs false
set_option linter.unusedVariables false
set_option maxRecDepth 100000
set_option maxHeartbeats 16000000
open Go Go.RowKit
section
attribute [local go_sem] Oper.semAt_some
def Of3R(w:World)(P:List UInt8)(hv iv:Value)(wr:World):Prop:=∃ (j b c:Nat),64 * j<=P.length/\iv=.int .i64 ((64 * j:Nat):Int)/\hv=.slice (some ⟨b,0,none⟩) 8 c/\(∀ i u,((hBlk jiS P j).words.map wv)[i]?=some u->wr.cell? ⟨b,i,none⟩=some u)/\Ext w wr
def Of3S(w:World)(V:W8)(ov iv:Value)(wr:World):Prop:=∃ k:Nat,k<=8/\iv=.int .i64 k/\ov=.string ⟨(outL (V.words.take k)).toArray⟩/\Ext w wr
theorem jyY(w:World)(s:vB)(hs:s.size<=1000000):vR 92 #[.string s] w (.string (shaB s)):=by
 have HS:=Hd hs
 obtain⟨P,hP⟩:=vE (padL s.data.toList)
 have hl:s.data.toList.length=s.size:=rfl;have hp1:P.length % 64=0:=by rw[hP];exact jra _
 have hp2:P.length<=1000100:=by rw[hP,jjN];have:=jmO s.data.toList.length;omega
 have hp3:0 < P.length:=by rw[hP,jjN];omega
 have HP:=Hd (show shaB s=⟨(outL (hBlk jiS P (P.length / 64)).words).toArray⟩ by rw[hP];exact jv4 _);have HPD:=Hd (And.intro hp1 (And.intro hp2 hp3));have hpad:=juv w s.data.toList hs;clear hs hl hp1 hp2 hp3;go_enter Tryz.func92,Tryz.ntmps92;go_wp2_with fail
 refine (jt0 w).mono ?_;rintro e w1 ⟨b1,b2,rfl,h1,h2,hne,hE,hB1,hB2⟩;have HE1:=Hd hE;have HB1:=Hd hB1;have HB2:=Hd hB2;clear hE hB1 hB2 hpad;go_wp2_with fail
 refine vC (juv w1 s.data.toList HS.o) fun w2 hE=>?_;have HE2:=Hd (HE1.o.trans hE);have HX2:=Hd hE;rw[show padZ s.data.toList (zPad s.data.toList.length)++lenL (UInt64.ofNat s.data.toList.length)=P from hP.symm]
 obtain⟨PB,hPB⟩:∃ PB:vB,PB=⟨P.toArray⟩:=⟨_,rfl⟩
 have HPB:=Hd (And.intro (show PB.size=P.length by rw[hPB];rfl) hPB);rw[<-hPB];clear hP hPB hE;go_wp2_with fail
 go_loopw [3,6] (fun hv iv wr=>Of3R w2 P hv iv wr) (fun _ iv _=>P.length+64 - (intOf iv).toNat)
 case atStart=>exact⟨0,b1,8,by omega,rfl,rfl,fun i u hi=>jaa (HB1.o.cellL hi) HX2.o,ExtR w2⟩
 case round =>
  obtain⟨j,b,c,hj,rfl,rfl,hcell,hE⟩:=hrel
  have HCELL:=Hd hcell;have HE:=Hd hE;clear hcell hE
  obtain⟨m,hm⟩:=vE (64 * j)
  have HM:=Hd hm;rw[<-hm]at hj ⊢;have hsz:=HPB.o.1;have hmod:=HPD.o.1;have hbd:=HPD.o.2.1
  by_cases hlt:m < P.length
  ·have b0:(m:Int) < (PB.size:Int):=by omega
   have hw64:wrap64 ((m:Int)+64)=((m+64:Nat):Int):=by unfold wrap64;omega
   have b5:m+64<=PB.size:=by omega
   have hx:(PB.extract m (m+64)).data.toList=(P.drop (64 * j)).take 64:=by
    rw[HPB.o.2, <-hm,ByteArray.data_extract,Array.toList_extract,List.extract_eq_take_drop]
    congr 1;omega
   have hxs:(PB.extract m (m+64)).size=64:=by rw[ByteArray.size_extract];omega
   have HX:=Hd (And.intro hx hxs);clear hm hsz hmod hbd hx hxs;go_wp2_with fail
   obtain⟨sb,hsb⟩:=vE (PB.extract m (m+64))
   rw[<-hsb]at HX ⊢;clear hsb;refine (jtD wr b b2 c (hBlk jiS P j) sb HX.o.2 HCELL.o (HB2.o.keeps (HX2.o.trans HE.o) (fun h=>h))).mono ?_;rintro e w5 ⟨g,c',rfl,_,hc5,hE5⟩;rw[HX.o.1]at hc5;have HC5:=Hd hc5;have HE5:=Hd (HE.o.trans hE5);clear hc5 hE5;go_wp2_with fail
   go_roundw
   case rel=>exact⟨j+1,g,c',by have:=HM.o;have:=HPD.o;omega,by have:=HM.o;rw[show 64 * (j+1)=m+64 by omega,hw64],rfl,HC5.o,HE5.o⟩
   case measure =>
    rw[hw64];show P.length+64 - ((m+64:Nat):Int).toNat < P.length+64 - (m:Int).toNat;omega
  ·have hjn:P.length / 64=j:=by have:=HM.o;omega
   have HR:=Hd HP.o;rw[hjn]at HR
   obtain⟨V,hV⟩:=vE (hBlk jiS P j)
   rw[<-hV]at HR HCELL;have HWX:=Hd (HE2.o.trans HE.o);clear hV hjn hm hsz hmod hbd;have b0:¬(m:Int) < (PB.size:Int):=by have:=HPB.o.1;omega
   go_wp2_with fail
   obtain⟨W2,rfl⟩:=vE wr
   go_loopw [7,8] (fun ov iv wr=>Of3S W2 V ov iv wr) (fun _ iv _=>8 - (intOf iv).toNat)
   case atStart=>exact⟨0,by omega,rfl,rfl,ExtR W2⟩
   case round =>
    obtain⟨k,hk,rfl,rfl,hE⟩:=hrel
    have HE8:=Hd hE;clear hE
    by_cases hlt:k < 8
    ·have b1:(k:Int) < 8:=by omega
     obtain⟨x,hx⟩:∃ x,V.words[k]?=some x:=⟨_,List.getElem?_eq_getElem hlt⟩
     have Q1:=Hd (show wr.cell? ⟨b,k,none⟩=some (wv x)from jaa (HCELL.o k (wv x) (by rw[List.getElem?_map,hx];rfl)) HE8.o);have HTK:=Hd (show outL (V.words.take (k+1))=outL (V.words.take k)++jgh x by
      rw[List.take_add_one,hx];unfold outL;simp)
     have hS24:∀ (p:UInt32) (w:World),(binOp .shr 206 (wv p) (.int .u64 24)).run Tryz.prog w=.ok (wv (shrW p 24)) w:=fun _ _=>jc0 24 vI .u64;have hS16:∀ (p:UInt32) (w:World),(binOp .shr 206 (wv p) (.int .u64 16)).run Tryz.prog w=.ok (wv (shrW p 16)) w:=fun _ _=>jc0 16 vI .u64;have hS8:∀ (p:UInt32) (w:World),(binOp .shr 206 (wv p) (.int .u64 8)).run Tryz.prog w=.ok (wv (shrW p 8)) w:=fun _ _=>jc0 8 vI .u64;have hBW:∀ (p:UInt32) (w:World),(convert 206 5 (wv p)).run Tryz.prog w=.ok (.int .u8 ((jl4 p).toNat:Int)) w:=fun p w=>Tryz.run_byteW p w
     obtain⟨T,hT⟩:=vE (outL (V.words.take k))
     have hTl:T.length<=28:=by
      have:∀ W:List UInt32,(outL W).length=4 * W.length:=fun W=>by
       induction W with
       | nil=>rfl
       | cons y r ih=>show (jgh y++outL r).length=_;rw[List.length_append,ih];show 4+_=4 * (r.length+1);omega
      rw[hT,this,List.length_take];omega
     rw[<-hT]at HTK ⊢;clear hx hT;go_wp2_with fail
     refine jaD [0,1,2,3,4,5,6,7,8,9,10,11,12,13,14,15,16,17,18,19,20,21,22,23,24,25,26,27] [24] Ext Ext ExtR ExtT ExtT (fun _ _ h=>h) vY vY vY ?_
     refine vD ?_
     iterate 3 refine vD ?_
     refine qDL ⟨b,k,none⟩ _ rfl (fun w1 h1=>jab Tryz.uU32 rfl (jaa Q1.o ((jaj wr).trans h1))) ?_;refine vS ?_;iterate 2 refine vD ?_
     iterate 3 refine vD ?_
     refine qDL ⟨b,k,none⟩ _ rfl (fun w1 h1=>jab Tryz.uU32 rfl (jaa Q1.o ((jaj wr).trans h1))) ?_;refine vS ?_;iterate 2 refine vD ?_
     iterate 3 refine vD ?_
     refine qDL ⟨b,k,none⟩ _ rfl (fun w1 h1=>jab Tryz.uU32 rfl (jaa Q1.o ((jaj wr).trans h1))) ?_;refine vS ?_;iterate 2 refine vD ?_
     iterate 3 refine vD ?_
     refine qDL ⟨b,k,none⟩ _ rfl (fun w1 h1=>jab Tryz.uU32 rfl (jaa Q1.o ((jaj wr).trans h1))) ?_;refine vS ?_
     refine vD ?_
     refine qDH _ rfl (fun w2 he K hK=>?_);have HX2:=Hd (show Ext wr w2 from(jaj _).trans he);clear he;go_simp;refine hK _ _ ((ExtR w2).alloc _) ?_;clear hK K;refine qDV _ (.string ⟨(jgh x).toArray⟩) rfl (fun w3 h3=>jfd (n:=4) (xs:=jgh x) rfl vY h3 (fun f=>f) vI) ?_;refine vS ?_
     obtain⟨t2,ht2⟩:=vE (jgh x)
     have h2l:t2.length=4:=by rw[ht2];rfl
     have HT2:=Hd ht2;rw[<-ht2]at HTK ⊢;have b5:¬(9223372036854775807 < (⟨T.toArray⟩:vB).size+(⟨t2.toArray⟩:vB).size):=by show ¬(_ < T.length+t2.length);omega
     clear ht2;iterate 2 refine vD ?_
     refine qDE (fun w6 he=>?_);have HE6:=Hd (HE8.o.trans ((HX2.o.alloc _).trans he));clear he;go_wp2_with fail
     go_roundw
     case rel=>exact⟨k+1,by omega,by go_num,by rw[jgT,HTK.o],HE6.o⟩
     case measure=>simp[intOf];omega
    ·have hk8:k=8:=by omega
     subst hk8;have HRV:Hid ((⟨(outL (V.words.take 8)).toArray⟩:vB)=shaB s):=HR.o.symm;rw[HRV.o]
     obtain⟨z,hz⟩:=vE (shaB s)
     rw[<-hz];go_wp2_with fail
     go_ret
     exact⟨congrArg (fun q=>Ending.returned (Value.string q)) hz,HWX.o.trans HE8.o⟩
theorem jxy(n:Nat):(n:Int) % (256:Int)=((UInt8.ofNat n).toNat:Int):=by
 rw[UInt8.toNat_ofNat'];omega
def leB(k n:Nat):vB:=⟨(leF k n).reverse.toArray⟩
theorem jtE:∀ (k:Nat) (w:World) (n:Nat),k<=8->n < 256 ^ k->vR 257 #[.int .u64 n] w (.string (leB k n)):=by
 intro k;induction k with
 | zero =>
  intro w n _ hn;have h0:n=0:=by simpa using hn
  subst h0;go_enter Tryz.func257,Tryz.ntmps257;go_wp2_with fail
  go_ret
  exact⟨rfl,ExtR w⟩
 | succ k ih =>
  intro w n hk hn
  by_cases h0:n=0
  ·subst h0
   go_enter Tryz.func257,Tryz.ntmps257;go_wp2_with fail
   go_ret
   exact⟨by unfold leB leF;simp,ExtR w⟩
  have hz:((n:Int) == 0)=false:=by simpa using h0
  have hb:n < 18446744073709551616:=Nat.lt_of_lt_of_le hn (Nat.le_trans (Nat.pow_le_pow_right vI (by omega:k+1<=8)) vI);have HIH:=Hd (fun w1=>ih w1 (n / 256) vO (by rw[Nat.pow_succ]at hn;omega));rw[show ((n / 256:Nat):Int)=(n:Int) / (256:Int)from rfl]at HIH
  obtain⟨r,hr⟩:=vE (leB k (n / 256))
  have HR:=Hd (show leB (k+1) n=⟨(r.data.toList++[UInt8.ofNat n]).toArray⟩ by
   rw[hr];unfold leB;rw[leF,if_neg h0];simp)
  rw[<-hr]at HIH;rw[HR.o];have hrs:r.size<=8:=by rw[hr];unfold leB;show (leF k (n / 256)).reverse.length<=8;rw[List.length_reverse];have:=jgI k (n / 256);omega
  clear ih hr h0 hn;go_enter Tryz.func257,Tryz.ntmps257;go_wp2_with fail
  refine jaD [0,1,2,3,4,5,6,7,8,9] [6] Ext Ext ExtR ExtT (fun x y z h k=>h.trans k) (fun x y h=>h) vY vY vY ?_;iterate 2 refine vD ?_
  refine jhW _ 257 #[.int .u64 ((n:Int) / (256:Int))] (.string r) rfl vY rfl (fun w1=>jay (vX 257) vY) (fun w1 _=>HIH.o w1) ?_;refine vS ?_;iterate 3 refine vD ?_
  refine qDH _ rfl (fun w2 he K hK=>?_);have HX2:=Hd (show Ext w w2 from(jaj _).trans he);clear he;go_simp;refine hK _ _ ((ExtR w2).alloc _) ?_;clear hK K;rw[jxy]
  obtain⟨t2,ht2⟩:=vE ([UInt8.ofNat n])
  refine qDV _ (.string ⟨[UInt8.ofNat n].toArray⟩) rfl (fun w3 h3=>jfd (n:=1) (xs:=[UInt8.ofNat n]) rfl vY h3 (fun f=>f) vI) ?_;refine vS ?_;rw[<-ht2];have h2l:t2.length=1:=by rw[ht2];rfl
  have b5:¬(9223372036854775807 < r.size+(⟨t2.toArray⟩:vB).size):=by show ¬(_ < r.size+t2.length);omega
  have HT2:=Hd ht2;clear ht2;iterate 2 refine vD ?_
  refine qDE (fun w6 he=>?_);have HE6:=Hd ((HX2.o.alloc _).trans he);clear he;go_wp2_with fail
  go_ret;have hba:r++(⟨t2.toArray⟩:vB)=⟨(r.data.toList++[UInt8.ofNat n]).toArray⟩:=(jgT r.data.toList t2).trans (by rw[HT2.o])
  exact⟨congrArg (fun s=>Ending.returned (Value.string s)) hba,HE6.o⟩
theorem jmH(w:World)(b:vB)(B:Nat)(hB:B=128\/B=192)(hs:b.size<=1000000):vR 240 #[.string b,.int .i64 B] w (.string (jbZ (UInt8.ofNat B) b.size++b)):=by
 have hw1 : -9223372036854775808<=(B:Int)+(b.size:Int):=by omega
 have hw2:(B:Int)+(b.size:Int)<=9223372036854775807:=by omega
 by_cases h55:b.size<=55
 ·have c1:(b.size:Int)<=55:=by omega
  obtain⟨fb,hfb⟩:∃ fb:UInt8,fb=UInt8.ofNat B+UInt8.ofNat b.size:=⟨_,rfl⟩
  have hh:jbZ (UInt8.ofNat B) b.size=⟨#[fb]⟩:=by unfold jbZ;rw[if_pos h55,hfb]
  rw[hh];have hfn:((B:Int)+(b.size:Int))=(fb.toNat:Int):=by
   rw[hfb,UInt8.toNat_add,UInt8.toNat_ofNat',UInt8.toNat_ofNat'];omega
  have hcv:=jcr w fb;rw[<-hfn]at hcv;have b5:¬(9223372036854775807 < (⟨#[fb]⟩:vB).size+b.size):=by show ¬(_ < 1+b.size);omega
  clear h55 hfb hh hfn;go_enter Tryz.func240,Tryz.ntmps240;go_wp2_with fail
  go_ret
  exact⟨rfl,(ExtR w).alloc _⟩
 ·have c1:¬(b.size:Int)<=55:=by omega
  obtain⟨d,hd⟩:=vE (jcJ b.size)
  have hdl:d.size<=8:=by rw[hd];show (leF 8 b.size).reverse.length<=8;rw[List.length_reverse];exact jgI 8 b.size
  obtain⟨fb,hfb⟩:∃ fb:UInt8,fb=UInt8.ofNat B+55+UInt8.ofNat d.size:=⟨_,rfl⟩
  have hh:jbZ (UInt8.ofNat B) b.size=⟨#[fb]⟩++d:=by unfold jbZ;rw[if_neg h55,hfb,hd]
  rw[hh];have hfn:((B:Int)+55+(d.size:Int))=(fb.toNat:Int):=by
   rw[hfb,UInt8.toNat_add,UInt8.toNat_add,UInt8.toNat_ofNat',UInt8.toNat_ofNat',show (55:UInt8).toNat=55 from rfl];omega
  have HBY:Hid (∀ w1,vQ 257 #[.int .u64 (b.size:Int)] w1 fun e w'=>e=.returned (.string d)/\Ext w1 w'):=(fun w1=>by rw[hd];exact jtE 8 w1 b.size (Nat.le_refl _) (Nat.lt_of_le_of_lt hs vI));have hw3 : -9223372036854775808<=(B:Int)+55:=by omega
  have hw4:(B:Int)+55<=9223372036854775807:=by omega
  have hw5 : -9223372036854775808<=(B:Int)+55+(d.size:Int):=by omega
  have hw6:(B:Int)+55+(d.size:Int)<=9223372036854775807:=by omega
  have b5:¬(9223372036854775807 < (⟨#[fb]⟩:vB).size+d.size):=by show ¬(_ < 1+d.size);omega
  have b6:¬(9223372036854775807 < ((⟨#[fb]⟩:vB)++d).size+b.size):=by rw[ByteArray.size_append];show ¬(_ < 1+d.size+b.size);omega
  have HFN:=Hd hfn;clear h55 hfb hh hd hfn;go_enter Tryz.func240,Tryz.ntmps240;go_wp2_with fail
  refine vC (HBY.o w) fun w1 hE=>?_;have hcv:=jcr w1 fb;rw[<-HFN.o]at hcv;have HE:=Hd (hE.alloc (.cells #[.int .u8 ((B:Int)+55+(d.size:Int))] 5));clear hE;go_wp2_with fail
  go_ret
  exact⟨rfl,HE.o⟩
theorem jdR(w:World)(b:vB)(hs:b.size<=1000000):vR 212 #[.string b] w (.string (jao b)):=by
 by_cases h1:b.size=1
 ·have l1:0 < b.size:=by omega
  have b1:(0:Int) < (b.size:Int):=by omega
  have c1:((b.size:Int) == 1)=true:=by rw[h1];rfl
  have hd:b.data.toList.headD 255=b[0]:=by
   obtain⟨⟨l⟩⟩:=b
   cases l with
   | nil=>cases l1
   | cons x r=>rfl
  by_cases h2:b[0] < 128
  ·have b2:(b[0].toNat:Int) < 128:=by have:=UInt8.lt_iff_toNat_lt.1 h2;have:(128:UInt8).toNat=128:=rfl;omega
   rw[show jao b=b by unfold jao;rw[if_pos ⟨h1,by rw[hd];exact h2⟩]];clear h1 h2 hd;go_enter Tryz.func212,Tryz.ntmps212;go_wp2_with fail
   go_ret
   exact⟨rfl,ExtR w⟩
  ·have b2:¬(b[0].toNat:Int) < 128:=by have:¬ b[0].toNat < (128:UInt8).toNat:=fun h=>h2 (UInt8.lt_iff_toNat_lt.2 h);have:(128:UInt8).toNat=128:=rfl;omega
   have HW:=Hd (jmH w b 128 (.inl rfl) hs);have HT:=Hd (show jao b=jbZ (UInt8.ofNat 128) b.size++b by unfold jao;rw[if_neg (fun h=>h2 (by rw[<-hd];exact h.2))];rfl);rw[HT.o];clear h1 h2 hd;go_enter Tryz.func212,Tryz.ntmps212;go_wp2_with fail
   refine HW.o.mono ?_;rintro e w1 ⟨rfl,hE⟩;have HE:=Hd hE;clear hE;go_wp2_with fail
   go_ret
   exact⟨rfl,HE.o⟩
 ·have c1:((b.size:Int) == 1)=false:=beq_eq_false_iff_ne.2 vO
  have HW:=Hd (jmH w b 128 (.inl rfl) hs);have HT:=Hd (show jao b=jbZ (UInt8.ofNat 128) b.size++b by unfold jao;rw[if_neg (fun h=>h1 h.1)];rfl);rw[HT.o];clear h1;go_enter Tryz.func212,Tryz.ntmps212;go_wp2_with fail
  refine HW.o.mono ?_;rintro e w1 ⟨rfl,hE⟩;have HE:=Hd hE;clear hE;go_wp2_with fail
  go_ret
  exact⟨rfl,HE.o⟩
theorem jfS(A B:List vB):catB (A++B)=catB A++catB B:=by
 unfold catB;rw[List.map_append,List.flatten_append,jgT]
theorem jfR(x:vB):catB [x]=x:=by
 unfold catB;apply ByteArray.ext
 simp
theorem jok{xs:List vB}{k:Nat}{x:vB}(hx:xs[k]?=some x):catB (xs.take (k+1))=catB (xs.take k)++x:=by
 rw[List.take_add_one,hx];show catB (xs.take k++[x])=_;rw[jfS,jfR]
theorem jsy(xs:List vB)(k:Nat):(catB (xs.take k)).size<=(catB xs).size:=by
 have:=jfS (xs.take k) (xs.drop k)
 rw[List.take_append_drop]at this;rw[this,ByteArray.size_append];omega
def jyq(w:World)(xs:List vB)(v i:Value)(wr:World):Prop:=∃ k:Nat,k<=xs.length/\i=.int .i64 k/\v=.string (catB (xs.take k))/\Ext w wr
theorem jvY(w:World)(v:Value)(xs:List vB)(hv:RdS w v xs)(hn:xs.length<=1000000)(hl:(catB xs).size<=1000000):vR 241 #[v] w (.string (catB xs)):=by
 have HV:=Hd hv
 obtain⟨a,c,hsl,_⟩:=hv.slice
 subst hsl;clear hv
 obtain⟨R,hR⟩:=vE (catB xs)
 rw[<-hR]at hl ⊢;have HR:=Hd hR;clear hR;go_enter Tryz.func241,Tryz.ntmps241;go_wp2_with fail
 go_loopw [3,4] (fun v i wr=>jyq w xs v i wr) (fun _ i _=>xs.length - (intOf i).toNat)
 case atStart=>exact⟨0,Nat.zero_le _,rfl,rfl,ExtR w⟩
 case round =>
  obtain⟨k,hk,rfl,rfl,hE⟩:=hrel
  have HE:=Hd hE;clear hE
  by_cases hlt:k < xs.length
  ·have b1:(k:Int) < (xs.length:Int):=by omega
   obtain⟨x,hx⟩:∃ x,xs[k]?=some x:=⟨_,List.getElem?_eq_getElem hlt⟩
   obtain⟨a7,c7,hhh,hcx⟩:=HV.o.slice
   obtain⟨bx,ox,hax,hcx0⟩:=hcx k x hx
   obtain⟨e1,_,e3⟩:=Value.slice.inj hhh
   rw[hax]at e1;subst e1;have q1:=jaa hcx0 HE.o;have hst:=jok hx;have hle:=jsy xs (k+1);rw[hst, <-HR.o,ByteArray.size_append]at hle
   obtain⟨t,ht⟩:=vE (catB (xs.take k))
   rw[<-ht]at hst hle ⊢;have HST:=Hd hst;have b5:¬(9223372036854775807 < t.size+x.size):=by omega
   clear hhh hcx hcx0 hax e3 hst ht hx hle;go_wp2_with fail
   go_roundw
   case rel=>exact⟨k+1,by omega,by go_num,by rw[HST.o],HE.o⟩
   case measure=>simp[intOf];omega
  ·have HF:=Hd (show catB (xs.take k)=R by rw[HR.o,List.take_of_length_le vO])
   rw[HF.o];go_wp2_with fail
   go_ret
   exact⟨rfl,HE.o⟩
theorem jj3(w:World)(v:Value)(xs:List vB)(hv:RdS w v xs)(hn:xs.length<=1000000)(hl:(catB xs).size<=1000000):vR 213 #[v] w (.string (ja4 xs)):=by
 have HJ:=Hd (jvY w v xs hv hn hl);have HW:=Hd (fun w1=>jmH w1 (catB xs) 192 (.inr rfl) hl);have HB:Hid (ja4 xs=jbZ (UInt8.ofNat 192) (catB xs).size++catB xs):=rfl;rw[HB.o]
 obtain⟨a,c,hsl,_⟩:=hv.slice
 subst hsl;clear hv;go_enter Tryz.func213,Tryz.ntmps213;go_wp2_with fail
 refine HJ.o.mono ?_;rintro e w1 ⟨rfl,hE⟩;have HE1:=Hd hE;clear hE;go_wp2_with fail
 refine vC (HW.o w1) fun w2 hE=>?_;have HE2:=Hd (HE1.o.trans hE);clear hE;go_wp2_with fail
 go_ret
 exact⟨rfl,HE2.o⟩
def beL(l:List UInt8):Nat:=l.foldl (fun a b=>a * 256+b.toNat) 0
theorem jso(l:List UInt8)(b:UInt8):beL (l++[b])=beL l * 256+b.toNat:=by unfold beL;rw[List.foldl_append];rfl
theorem jwZ:∀ (l:List UInt8),beL l < 256 ^ l.length:=fun l=>by
 suffices h:∀ (l:List UInt8) (a k:Nat),a < 256 ^ k->l.foldl (fun a b=>a * 256+b.toNat) a < 256 ^ (k+l.length)from by
  have:=h l 0 0 vI
  rwa [Nat.zero_add]at this
 intro l;induction l with
 | nil=>intro a k h;simpa using h
 | cons x r ih =>
  intro a k h;have hx:=x.toNat_lt
  have:=ih (a * 256+x.toNat) (k+1) (by rw[Nat.pow_succ];omega)
  rw[List.foldl_cons,List.length_cons,show k+(r.length+1)=k+1+r.length by omega];exact this
def RNum(w:World)(s:vB)(v i:Value)(wr:World):Prop:=∃ k:Nat,k<=s.size/\i=.int .i64 k/\v=.int .u64 (beL (s.data.toList.take k))/\Ext w wr
theorem jlz(w:World)(s:vB)(hs:s.size<=8):vR 270 #[.string s] w (.int .u64 (beL s.data.toList)):=by
 obtain⟨R,hR⟩:=vE (beL s.data.toList)
 rw[<-hR];have HR:=Hd hR;clear hR;go_enter Tryz.func270,Tryz.ntmps270;go_wp2_with fail
 go_loopw [3,4] (fun v i wr=>RNum w s v i wr) (fun _ i _=>s.size - (intOf i).toNat)
 case atStart=>exact⟨0,Nat.zero_le _,rfl,rfl,ExtR w⟩
 case round =>
  obtain⟨k,hk,rfl,rfl,hE⟩:=hrel
  have HE:=Hd hE;clear hE
  by_cases hlt:k < s.size
  ·have b1:(k:Int) < (s.size:Int):=by omega
   have hst:beL (s.data.toList.take (k+1))=beL (s.data.toList.take k) * 256+s[k].toNat:=by
    have e:s.data.toList[k]?=some s[k]:=by rw[List.getElem?_eq_getElem (by exact hlt)];rfl
    rw[List.take_add_one,e, <-jso];rfl
   have hlt2:=jwZ (s.data.toList.take k);rw[List.length_take]at hlt2;have hlt3:beL (s.data.toList.take k) < 72057594037927936:=Nat.lt_of_lt_of_le hlt2 (Nat.le_trans (Nat.pow_le_pow_right vI (by omega:min k s.data.toList.length<=7)) vI);have hxb:=s[k].toNat_lt
   obtain⟨n,hn⟩:=vE (beL (s.data.toList.take k))
   rw[<-hn]at hst hlt3 ⊢;have HST:=Hd hst;have w1:(n:Int) * 256 < 18446744073709551616:=by omega
   have w2:(0:Int)<=(n:Int) * 256:=by omega
   have w3:(n:Int) * 256+(s[k].toNat:Int) < 18446744073709551616:=by omega
   have w4:((n:Int) * 256) % 18446744073709551616=(n:Int) * 256:=by omega
   have w5:((n:Int) * 256+(s[k].toNat:Int)) % 18446744073709551616=(n:Int) * 256+(s[k].toNat:Int):=by omega
   clear hlt2 hst hn;go_wp2_with fail
   go_roundw
   case rel=>exact⟨k+1,by omega,by go_num,by rw[HST.o];push_cast;rfl,HE.o⟩
   case measure=>simp[intOf];omega
  ·have HF:=Hd (show beL (s.data.toList.take k)=R by rw[HR.o,List.take_of_length_le (by have:s.data.toList.length=s.size:=rfl;omega)])
   rw[HF.o];go_wp2_with fail
   go_ret
   exact⟨rfl,HE.o⟩
theorem jjb(s:vB)(k:Nat):(s.extract 1 (1+k)).data.toList=(s.data.toList.take (1+k)).drop 1:=by
 rw[ByteArray.data_extract]
 obtain⟨⟨l⟩⟩:=s
 cases l with
 | nil=>simp
 | cons x r=>rw[Nat.add_comm 1 k];simp
theorem jwY(l:List UInt8):beL l=beN l:=rfl
def HdV(r:Bool × Nat × Nat):Value:=.tuple #[.bool r.1,.int .i64 (r.2.1:Int),.int .u64 (r.2.2:Int),.bool true]
theorem jrB(w:World)(s:vB)(r:Bool × Nat × Nat)(hs:s.size<=1000000)(h:cutN s=some r):vR 265 #[.string s] w (HdV r):=by
 unfold cutN at h;split at h
 case isFalse=>cases h
 rename_i h0
 have hne:s.toList.isEmpty=false:=ja8 h0;have b1:(0:Int) < (s.size:Int):=by omega
 have hcl:=s[0].toNat_lt
 obtain⟨c,hc⟩:=vE (s[0].toNat)
 have hci:(s[0].toNat:Int)=(c:Int):=by rw[hc]
 rw[<-hc]at h hcl;simp only at h
 by_cases h1:c < 128
 ·rw[if_pos h1]at h
  obtain rfl:=Option.some.inj h;have d1:(c:Int) < 128:=by omega
  have d2:¬(192:Int)<=(c:Int):=by omega
  clear h hc h1;go_enter Tryz.func265,Tryz.ntmps265;go_wp2_with fail
  exact bodyPost_ret (v:=HdV (false,0,1)) vY rfl ⟨rfl,ExtR w⟩
 rw[if_neg h1]at h;have d1:¬(c:Int) < 128:=by omega
 by_cases h2:c < 192
 ·rw[if_pos h2]at h
  simp only at h;have d2:¬(192:Int)<=(c:Int):=by omega
  by_cases h3:c - 128<=55
  ·rw[if_pos h3]at h
   split at h
   case isFalse=>cases h
   obtain rfl:=Option.some.inj h;have d3:(c:Int)<=128+55:=by omega
   have d3':(c:Int)<=183:=by omega
   have hcs:(((c - 128:Nat)):Int)=(c:Int) - 128:=by omega
   have hw1:(0:Int)<=(c:Int) - 128:=by omega
   have hw2:(c:Int) - 128 < 18446744073709551616:=by omega
   have hw3:((c:Int) - 128) % 18446744073709551616=(c:Int) - 128:=by omega
   have HV:=Hd (show HdV (false,1,c - 128)=.tuple #[.bool false,.int .i64 1,.int .u64 ((c:Int) - 128),.bool true] by unfold HdV;rw[hcs];rfl);rw[HV.o];clear h hc h1 h2 h3 hcs;go_enter Tryz.func265,Tryz.ntmps265;go_wp2_with fail
   exact bodyPost_ret (v:=.tuple #[.bool false,.int .i64 1,.int .u64 ((c:Int) - 128),.bool true]) vY rfl ⟨rfl,ExtR w⟩
  ·rw[if_neg h3]at h
   obtain⟨k,hk⟩:=vE (c - 128 - 55)
   rw[<-hk]at h;cases hL:lenB s (1+k)with
   | none=>rw[hL]at h;cases h
   | some n =>
   rw[hL]at h;simp only at h;split at h
   case isFalse=>cases h
   obtain rfl:=Option.some.inj h
   obtain⟨hl1,_,hl3,_,hl5⟩:=jc6 hL
   have hk8:k<=8:=by omega
   have HNB:=Hd (fun w1=>jlz w1 (s.extract 1 (1+k)) (by rw[ByteArray.size_extract];omega));rw[jjb,jwY,hl3]at HNB;have d3:¬(c:Int)<=128+55:=by omega
   have d3':¬(c:Int)<=183:=by omega
   have hck:(c:Int)=(k:Int)+183:=by omega
   have d4:¬(s.size:Int) < 1+(k:Int):=by omega
   have hcc:(c:Int) - 128 - 55=(k:Int):=by omega
   have d5:(1:Int)<=1+(k:Int):=by omega
   have d6:1+(k:Int)<=(s.size:Int):=by omega
   have d7:(1+(k:Int)).toNat=1+k:=by omega
   have d8:(0:Int)<=1+(k:Int):=by omega
   have HV:=Hd (show HdV (false,1+k,n)=.tuple #[.bool false,.int .i64 (1+(k:Int)),.int .u64 (n:Int),.bool true] by unfold HdV;simp);rw[HV.o];clear h hc h1 h2 h3 hk hL hl1 hl3 hck;go_enter Tryz.func265,Tryz.ntmps265;go_wp2_with fail
   refine vC (HNB.o _) fun w1 hE=>?_;have HE:=Hd hE;clear hE;go_wp2_with fail
   exact bodyPost_ret (v:=.tuple #[.bool false,.int .i64 (1+(k:Int)),.int .u64 (n:Int),.bool true]) vY rfl ⟨rfl,HE.o⟩
 ·rw[if_neg h2]at h
  simp only at h;have d2:(192:Int)<=(c:Int):=by omega
  by_cases h3:c - 192<=55
  ·rw[if_pos h3]at h
   split at h
   case isFalse=>cases h
   obtain rfl:=Option.some.inj h;have d3:(c:Int)<=192+55:=by omega
   have d3':(c:Int)<=247:=by omega
   have hcs:(((c - 192:Nat)):Int)=(c:Int) - 192:=by omega
   have hw1:(0:Int)<=(c:Int) - 192:=by omega
   have hw2:(c:Int) - 192 < 18446744073709551616:=by omega
   have hw3:((c:Int) - 192) % 18446744073709551616=(c:Int) - 192:=by omega
   have HV:=Hd (show HdV (true,1,c - 192)=.tuple #[.bool true,.int .i64 1,.int .u64 ((c:Int) - 192),.bool true] by unfold HdV;rw[hcs];rfl);rw[HV.o];clear h hc h1 h2 h3 hcs;go_enter Tryz.func265,Tryz.ntmps265;go_wp2_with fail
   exact bodyPost_ret (v:=.tuple #[.bool true,.int .i64 1,.int .u64 ((c:Int) - 192),.bool true]) vY rfl ⟨rfl,ExtR w⟩
  ·rw[if_neg h3]at h
   obtain⟨k,hk⟩:=vE (c - 192 - 55)
   rw[<-hk]at h;cases hL:lenB s (1+k)with
   | none=>rw[hL]at h;cases h
   | some n =>
   rw[hL]at h;simp only at h;split at h
   case isFalse=>cases h
   obtain rfl:=Option.some.inj h
   obtain⟨hl1,_,hl3,_,hl5⟩:=jc6 hL
   have hk8:k<=8:=by omega
   have HNB:=Hd (fun w1=>jlz w1 (s.extract 1 (1+k)) (by rw[ByteArray.size_extract];omega));rw[jjb,jwY,hl3]at HNB;have d3:¬(c:Int)<=192+55:=by omega
   have d3':¬(c:Int)<=247:=by omega
   have hck:(c:Int)=(k:Int)+247:=by omega
   have d4:¬(s.size:Int) < 1+(k:Int):=by omega
   have hcc:(c:Int) - 192 - 55=(k:Int):=by omega
   have d5:(1:Int)<=1+(k:Int):=by omega
   have d6:1+(k:Int)<=(s.size:Int):=by omega
   have d7:(1+(k:Int)).toNat=1+k:=by omega
   have d8:(0:Int)<=1+(k:Int):=by omega
   have HV:=Hd (show HdV (true,1+k,n)=.tuple #[.bool true,.int .i64 (1+(k:Int)),.int .u64 (n:Int),.bool true] by unfold HdV;simp);rw[HV.o];clear h hc h1 h2 h3 hk hL hl1 hl3 hck;go_enter Tryz.func265,Tryz.ntmps265;go_wp2_with fail
   refine vC (HNB.o _) fun w1 hE=>?_;have HE:=Hd hE;clear hE;go_wp2_with fail
   exact bodyPost_ret (v:=.tuple #[.bool true,.int .i64 (1+(k:Int)),.int .u64 (n:Int),.bool true]) vY rfl ⟨rfl,HE.o⟩
end
end Go.Proofs.YtcpnjmcipainpaaGreatDoor
