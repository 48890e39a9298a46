/- Parts of the proof, one behind the other: CanonR, CanonS, jmc, CanonT, CanonU. Each is under no condition but those that it states. -/
import Derived.Test.YtcpnjmcipainpaaGreatDoorPb28
import Derived.Test.YtcpnjmcipainpaaGreatDoorPb23
import Derived.Test.YtcpnjmcipainpaaGreatDoorPb15
import Derived.OwnWalk
namespace Go.Proofs.YtcpnjmcipainpaaGreatDoor
set_option linter.unusedSimpArgs false
set_option linter.unusedVariables false
set_option maxRecDepth 100000
set_option maxHeartbeats 16000000
section
open Go Go.RowKit
def jcM(l m:List Pair):Option (ByteArray × ByteArray):=
 if jaD l≠0∨jaD m≠0∨jdi l m=true∨shaB (jbr l).text≠shaB (jbr m).text then none
 else jfz (ja7 (jba (jbr l))) (ja7 (jba (jbr m)))
theorem Tryz.enterEqual:∀ args w,(callFunc 149 args).run Tryz.prog w=.ok (.enter 149 args) w:=fun _ _=>by kernel_rfl
theorem Tryz.enterShaOf:∀ args w,(callFunc 82 args).run Tryz.prog w=.ok (.enter 82 args) w:=fun _ _=>by kernel_rfl
theorem jiG(w:World)(v u:Value)(l m:List Pair)(hv:RdP w v l)(hn:l.length≤9223372036854775807)(hs:∀ p∈l,p.1.size≤9223372036854775807∧p.2.size≤9223372036854775807)(h:jaD l≠0):Calls Tryz.prog 99 #[v,u] w fun e w'=>e=.returned (jdK none)∧Ext w w':=by
 have hck:=jeY w v l hv hn hs h
 obtain⟨a,c,hsl⟩:=hv.sl
 subst hsl
 obtain⟨x,hx⟩:∃ x,x=jaD l:=⟨_,rfl⟩
 rw[←hx]at h hck;have hne:(x == 0)=false:=by simpa using h
 have HT:=Hd hck;clear hck hv hx hs;go_enter Tryz.func99,Tryz.ntmps99;go_wp2_with fail
 refine HT.o.mono ?_;rintro e w1 ⟨rfl,hE⟩;have HE:=Hd hE;clear hE;go_wp2_with fail
 go_ret3
 exact⟨rfl,HE.o⟩
theorem jiH(w:World)(v u:Value)(l m:List Pair)(hc:jbU w)(hv:RdP w v l)(hu:RdP w u m)(hn:m.length≤9223372036854775807)(hs:∀ p∈m,p.1.size≤9223372036854775807∧p.2.size≤9223372036854775807)(h1:jaD l=0)(h:jaD m≠0):Calls Tryz.prog 99 #[v,u] w fun e w'=>e=.returned (jdK none)∧Ext w w':=by
 have HN:=Hd (jcG w v l hc hv h1);have HB:=Hd (fun w1 (h1:Ext w w1)=>jeY w1 u m (hu.ext h1) hn hs h)
 obtain⟨a,c,hsl⟩:=hv.sl
 subst hsl
 obtain⟨a',c',hsl'⟩:=hu.sl
 subst hsl'
 obtain⟨x,hx⟩:∃ x,x=jaD m:=⟨_,rfl⟩
 rw[←hx]at h HB;have hne:(x == 0)=false:=by simpa using h
 have hne2:(x != 0)=true:=by simpa using h
 clear hv hu hx hs hc h1;go_enter Tryz.func99,Tryz.ntmps99;go_wp2_with fail
 refine HN.o.mono ?_;rintro e w1 ⟨q,n,rfl,hR⟩
 obtain⟨a2,c2,rfl⟩:=hR.sl
 have HE:=Hd hR.ext;clear hR HN;go_wp2_with fail
 refine (HB.o w1 HE.o).mono ?_;rintro e w2 ⟨rfl,hE⟩;have HE2:=Hd (HE.o.trans hE);clear hE HE HB;go_wp2_with fail
 refine jad [0,1,2,3,4,5,6,7,8,9,10,11,12,13,14,15,16,17,18,19] Ext ExtR ExtT (by kernel_rfl) (by kernel_rfl) (by kernel_rfl) ?_;iterate 3 (refine jac _ rfl (by kernel_rfl) rfl rfl (fun K hK=>?_);go_big_quiet_op;refine hK _ ?_;clear hK K)
 iterate 3 (refine jaU _ rfl (by kernel_rfl) rfl ?_;simp only[Act.put,sA,sB,sC])
 iterate 2 (refine jac _ rfl (by kernel_rfl) rfl rfl (fun K hK=>?_);go_big_quiet_op;refine hK _ ?_;clear hK K)
 iterate 11 (refine jaU _ rfl (by kernel_rfl) rfl ?_;simp only[Act.put,sA,sB,sC])
 (refine jac _ rfl (by kernel_rfl) rfl rfl (fun K hK=>?_);go_big_quiet_op;refine hK _ ?_;clear hK K)
 refine jas (by kernel_rfl) (fun w3 he=>?_);have HE3:=Hd ((HE2.o.trans (jaj w2)).trans he);clear he;go_wp2_with fail
 go_ret3
 exact⟨rfl,HE3.o⟩
theorem jiI(w:World)(v u:Value)(l m:List Pair)(hc:jbU w)(hv:RdP w v l)(hu:RdP w u m)(h1:jaD l=0)(h2:jaD m=0)(hs:jdi l m=true):Calls Tryz.prog 99 #[v,u] w fun e w'=>e=.returned (jdK none)∧Ext w w':=by
 have HN:=Hd (jcG w v l hc hv h1);have HB:=Hd (fun w1 (h1:Ext w w1)=>jcG w1 u m (hc.ext h1) (hu.ext h1) h2);have HQ:=Hd (fun w1 (hx:Ext w w1)=>jjL w1 v u l m (hv.ext hx) (hu.ext hx) (Nat.le_trans (ja5 h1).len (by decide)) (Nat.le_trans (ja5 h2).len (by decide)));rw[hs]at HQ
 obtain⟨a,c,hsl⟩:=hv.sl
 subst hsl
 obtain⟨a',c',hsl'⟩:=hu.sl
 subst hsl';clear hv hu hc h1 h2 hs;go_enter Tryz.func99,Tryz.ntmps99;go_wp2_with fail
 refine HN.o.mono ?_;rintro e w1 ⟨q,n,rfl,hR⟩
 obtain⟨a2,c2,rfl⟩:=hR.sl
 have HE:=Hd hR.ext;clear hR HN;go_wp2_with fail
 refine (HB.o w1 HE.o).mono ?_;rintro e w2 ⟨q,n2,rfl,hR⟩
 obtain⟨a3,c3,rfl⟩:=hR.sl
 have HE2:=Hd (HE.o.trans hR.ext);clear hR HE HB;go_wp2_with fail
 refine jad [0,1,2,3,4,5,6,7,8,9,10,11,12,13,14,15,16,17,18,19] Ext ExtR ExtT (by kernel_rfl) (by kernel_rfl) (by kernel_rfl) ?_;iterate 5 (refine jac _ rfl (by kernel_rfl) rfl rfl (fun K hK=>?_);go_big_quiet_op;refine hK _ ?_;clear hK K)
 refine jav _ 149 _ (.bool true) rfl (by kernel_rfl) rfl (fun w1=>jan Tryz.enterEqual (by kernel_rfl)) (fun w3 h3=>HQ.o w3 ((HE2.o.trans (jaj w2)).trans h3)) ?_;simp only[Act.put,sA,sB,sC];iterate 2 (refine jac _ rfl (by kernel_rfl) rfl rfl (fun K hK=>?_);go_big_quiet_op;refine hK _ ?_;clear hK K)
 iterate 11 (refine jaU _ rfl (by kernel_rfl) rfl ?_;simp only[Act.put,sA,sB,sC])
 (refine jac _ rfl (by kernel_rfl) rfl rfl (fun K hK=>?_);go_big_quiet_op;refine hK _ ?_;clear hK K)
 refine jas (by kernel_rfl) (fun w3 he=>?_);have HE3:=Hd ((HE2.o.trans (jaj w2)).trans he);clear he;go_wp2_with fail
 go_ret3
 exact⟨rfl,HE3.o⟩
def joz(w w5:World)(xs ys:List ByteArray)(v:Value)(wr:World):Prop:=∃ i:Nat,i≤xs.length∧v=.int .i64 i∧Ext w wr∧Ext w5 wr∧(xs.take i).findSome? (jcD ys)=none
def jno(w w5:World)(x:ByteArray)(ys:List ByteArray)(v:Value)(wr:World):Prop:=∃ j:Nat,j≤ys.length∧v=.int .i64 j∧Ext w wr∧Ext w5 wr∧(ys.take j).find? (jk5 x)=none
theorem jjw(w:World)(v u:Value)(l m:List Pair)(hc:jbU w)(hv:RdP w v l)(hu:RdP w u m)(h1:jaD l=0)(h2:jaD m=0)(hs:jdi l m=false):Calls Tryz.prog 99 #[v,u] w fun e w'=>e=.returned (jdK (jcM l m))∧Ext w w':=by
 have HN:=Hd (jcG w v l hc hv h1);have HB:=Hd (fun w1 (h1:Ext w w1)=>jcG w1 u m (hc.ext h1) (hu.ext h1) h2);have HQ:=Hd (fun w1 (hx:Ext w w1)=>jjL w1 v u l m (hv.ext hx) (hu.ext hx) (Nat.le_trans (ja5 h1).len (by decide)) (Nat.le_trans (ja5 h2).len (by decide)));rw[hs]at HQ;have HC:=Hd hc
 obtain⟨t1,ht1⟩:∃ t,t=(jbr l).text:=⟨_,rfl⟩
 obtain⟨t2,ht2⟩:∃ t,t=(jbr m).text:=⟨_,rfl⟩
 obtain⟨xs,hxs⟩:∃ xs,xs=ja7 (jba (jbr l)):=⟨_,rfl⟩
 obtain⟨ys,hys⟩:∃ ys,ys=ja7 (jba (jbr m)):=⟨_,rfl⟩
 have hx0:xs[0]?=some t1:=by rw[hxs,ht1];exact jfG _
 have hy0:ys[0]?=some t2:=by rw[hys,ht2];exact jfG _
 have hlx:xs.length≤1000000:=by
  rw[hxs];have a:=jfF (jba (jbr l));have b:=jdT (ja5 h1);have c:=(ja5 h1).len;omega
 have hly:ys.length≤1000000:=by
  rw[hys];have a:=jfF (jba (jbr m));have b:=jdT (ja5 h2);have c:=(ja5 h2).len;omega
 have hcl:jcM l m=if shaB t1=shaB t2 then jfz xs ys else none:=by
  unfold jcM;rw[←ht1, ←ht2, ←hxs, ←hys,h1,h2,hs]
  by_cases h:shaB t1=shaB t2 <;> simp[h]
 rw[←hxs]at HN;rw[←hys]at HB;rw[hcl];have HX0:=Hd hx0;have HY0:=Hd hy0;have px:(0:Int) < (xs.length:Int):=by have:=(List.getElem?_eq_some_iff.1 hx0).1;omega
 have py:(0:Int) < (ys.length:Int):=by have:=(List.getElem?_eq_some_iff.1 hy0).1;omega
 obtain⟨a,c,hsl⟩:=hv.sl
 subst hsl
 obtain⟨a',c',hsl'⟩:=hu.sl
 subst hsl';clear hv hu hc h1 h2 hs ht1 ht2 hxs hys hx0 hy0 hcl
 obtain⟨R,hR0⟩:∃ R,R=jdK (if shaB t1=shaB t2 then jfz xs ys else none):=⟨_,rfl⟩
 rw[←hR0];have HR0:=Hd hR0;clear hR0;go_enter Tryz.func99,Tryz.ntmps99;go_wp2_with fail
 refine HN.o.mono ?_;rintro e w1 ⟨q,n,rfl,hR⟩;have hrd:=hR.rd;have HE:=Hd hR.ext;clear hR HN;have hsl:=hrd
 obtain⟨a2,c2,rfl,hcl2⟩:=hsl.slice
 have HRX:=Hd hrd;clear hsl hrd hcl2;go_wp2_with fail
 refine (HB.o w1 HE.o).mono ?_;rintro e w2 ⟨q,n2,rfl,hR⟩;have hrd:=hR.rd;have HE2:=Hd (HE.o.trans hR.ext);have HRX2:=Hd (HRX.o.ext hR.ext);clear hR HE HB HRX;have hsl:=hrd
 obtain⟨a3,c3,rfl,hcl2⟩:=hsl.slice
 have HRY:=Hd hrd;clear hsl hrd hcl2
 obtain⟨a4,c4,hh,hcx⟩:=HRX2.o.slice
 obtain⟨bx,ox,hax,hcx0⟩:=hcx 0 t1 HX0.o
 obtain⟨e1,_,_⟩:=Value.slice.inj hh
 obtain⟨a5,c5,hh2,hcy⟩:=HRY.o.slice
 obtain⟨by',oy,hay,hcy0⟩:=hcy 0 t2 HY0.o
 obtain⟨e2,_,_⟩:=Value.slice.inj hh2
 rw[hax]at e1;rw[hay]at e2;subst e1;subst e2;have HCX:=Hd hcx0;have HCY:=Hd hcy0;clear hh hh2 hcx hcy hcx0 hcy0 hax hay;go_wp2_with fail
 refine jfo 5 [0,1,2,3,4,5,6,7,8,9,10,13,14,15] Ext ExtR ExtT (by kernel_rfl) (by kernel_rfl) (by kernel_rfl) ?_;iterate 5 (refine jeW _ rfl (by kernel_rfl) rfl rfl (fun K hK=>?_);go_big_quiet_op;refine hK _ ?_;clear hK K)
 refine jj2 _ 149 _ (.bool false) rfl (by kernel_rfl) rfl (fun w1=>jan Tryz.enterEqual (by kernel_rfl)) (fun w3 h3=>HQ.o w3 ((HE2.o.trans (jaj w2)).trans h3)) ?_;simp only[Act.put,sA,sB,sC];iterate 4 (refine jeW _ rfl (by kernel_rfl) rfl rfl (fun K hK=>?_);go_big_quiet_op;refine hK _ ?_;clear hK K)
 refine jgP ⟨bx,ox,none⟩ (.string t1) rfl (by kernel_rfl) rfl rfl (fun w3 h3=>jaa Tryz.uStr rfl (jab (by exact HCX.o) ((jaj w2).trans h3))) ?_;simp only[Act.put,sA,sB,sC];iterate 2 (refine jeW _ rfl (by kernel_rfl) rfl rfl (fun K hK=>?_);go_big_quiet_op;refine hK _ ?_;clear hK K)
 refine jgP ⟨by',oy,none⟩ (.string t2) rfl (by kernel_rfl) rfl rfl (fun w3 h3=>jaa Tryz.uStr rfl (jab (by exact HCY.o) ((jaj w2).trans h3))) ?_;simp only[Act.put,sA,sB,sC];refine jlt ?_;refine jlm (j:=11) (k:=16) _ _ [12,16,17,18,19] [11,12,17,18,19] (by kernel_rfl) rfl rfl rfl rfl rfl rfl (fun w3 h3 K hK=>?f1) (fun w3 h3 K hK=>?f2)
 case' f1 =>
  have HE3:=Hd ((HE2.o.trans (jaj w2)).trans h3);have HY3:=Hd (HRY.o.ext ((jaj w2).trans h3));have HX3:=Hd (HRX2.o.ext ((jaj w2).trans h3));have HS1:=Hd (jbZ w3 [t1] 9);clear h3 HE2 HRY HRX2 HCX HCY HQ;go_simp;refine hK _ _ ((ExtR w3).alloc _) ?_;clear hK K;refine jav _ 82 _ (.string (shaB (catB [t1]))) rfl (by kernel_rfl) rfl (fun w1=>jan Tryz.enterShaOf (by kernel_rfl)) (fun w4 h4=>of_t w4 _ [t1] (by simp) (HS1.o.ext (by exact h4)) (HC.o.ext ((HE3.o.trans ((ExtR w3).alloc _)).trans h4))) ?_;simp only[Act.put,sA,sB,sC];refine jdP _ rfl (by kernel_rfl) rfl (fun w4 h4 K hK=>?_);have HE4:=Hd ((HE3.o.trans ((ExtR w3).alloc _)).trans h4);have HY4:=Hd (HY3.o.ext (((ExtR w3).alloc _).trans h4));have HX4:=Hd (HX3.o.ext (((ExtR w3).alloc _).trans h4));have HS2:=Hd (jbZ w4 [t2] 9);clear h4 HE3 HY3 HX3 HS1;go_simp;refine hK _ _ ((ExtR w4).alloc _) ?_;clear hK K;refine jav _ 82 _ (.string (shaB (catB [t2]))) rfl (by kernel_rfl) rfl (fun w1=>jan Tryz.enterShaOf (by kernel_rfl)) (fun w5 h5=>of_t w5 _ [t2] (by simp) (HS2.o.ext (by exact h5)) (HC.o.ext ((HE4.o.trans ((ExtR w4).alloc _)).trans h5))) ?_;simp only[Act.put,sA,sB,sC]
 case' f2 =>
  have HE3:=Hd ((HE2.o.trans (jaj w2)).trans h3);have HY3:=Hd (HRY.o.ext ((jaj w2).trans h3));have HX3:=Hd (HRX2.o.ext ((jaj w2).trans h3));have HS2:=Hd (jbZ w3 [t2] 9);clear h3 HE2 HRY HRX2 HCX HCY HQ;go_simp;refine hK _ _ ((ExtR w3).alloc _) ?_;clear hK K;refine jdP _ rfl (by kernel_rfl) rfl (fun w4 h4 K hK=>?_);have HE4:=Hd ((HE3.o.trans ((ExtR w3).alloc _)).trans h4);have HY4:=Hd (HY3.o.ext (((ExtR w3).alloc _).trans h4));have HX4:=Hd (HX3.o.ext (((ExtR w3).alloc _).trans h4));have HS2':=Hd (HS2.o.ext (by exact h4));have HS1:=Hd (jbZ w4 [t1] 9);clear h4 HE3 HY3 HX3 HS2;go_simp;refine hK _ _ ((ExtR w4).alloc _) ?_;clear hK K;refine jav _ 82 _ (.string (shaB (catB [t1]))) rfl (by kernel_rfl) rfl (fun w1=>jan Tryz.enterShaOf (by kernel_rfl)) (fun w5 h5=>of_t w5 _ [t1] (by simp) (HS1.o.ext (by exact h5)) (HC.o.ext ((HE4.o.trans ((ExtR w4).alloc _)).trans h5))) ?_;simp only[Act.put,sA,sB,sC];refine jav _ 82 _ (.string (shaB (catB [t2]))) rfl (by kernel_rfl) rfl (fun w1=>jan Tryz.enterShaOf (by kernel_rfl)) (fun w5 h5=>of_t w5 _ [t2] (by simp) (HS2'.o.ext (((ExtR w4).alloc _).trans (by exact h5))) (HC.o.ext ((HE4.o.trans ((ExtR w4).alloc _)).trans h5))) ?_;simp only[Act.put,sA,sB,sC];clear HS2'
 all_goals
  rw[jb1,jb1];have hnb:(shaB t1 == shaB t2)=decide (shaB t1=shaB t2):=jcV _ _;have hnq:=jih (shaB t1) (shaB t2)
  by_cases hsh:shaB t1=shaB t2
  ·rw[if_pos hsh]at HR0
   simp only[decide_eq_true hsh]at hnq;have HSH:=Hd hsh;clear hsh;iterate 2 (refine jac _ rfl (by kernel_rfl) rfl rfl (fun K hK=>?_);go_big_quiet_op;refine hK _ ?_;clear hK K)
   refine jas (by kernel_rfl) (fun w5 he=>?_);have HE5:=Hd ((HE4.o.trans ((ExtR _).alloc _)).trans he);have HY5:=Hd (HY4.o.ext (((ExtR _).alloc _).trans he));have HX5:=Hd (HX4.o.ext (((ExtR _).alloc _).trans he));clear he HE4 HY4 HX4 hnb;go_wp2_with fail
   go_loopw [48] (fun i wr=>joz w w5 xs ys i wr) (fun i _=>xs.length - (intOf i).toNat)
   case atStart=>exact⟨0,by omega,rfl,HE5.o,ExtR _,by simp⟩
   case round =>
    obtain⟨i,hi,rfl,hE,hE5,hall⟩:=hrel
    have HE:=Hd hE;have HALL:=Hd hall;have HRXr:=Hd (RdS.ext HX5.o (show Ext w5 wr from hE5));clear hE hall
    by_cases hlt:i < xs.length
    ·obtain⟨x,hx⟩:∃ x,xs[i]?=some x:=⟨_,List.getElem?_eq_getElem hlt⟩
     obtain⟨a6,c6,hh,hcx⟩:=HX5.o.slice
     obtain⟨bx',ox',hax,hcx0⟩:=hcx i x hx
     obtain⟨e1,_,_⟩:=Value.slice.inj hh
     rw[hax]at e1
     obtain⟨rfl,rfl⟩:bx'=bx∧ox'=ox:=by
      have:=Option.some.inj e1;injection this with h1 h2 h3;exact⟨h1.symm,h2.symm⟩
     have hq:=jab hcx0 hE5;have HXI:=Hd hx;have HE5':=Hd hE5;have b1:(i:Int) < (xs.length:Int):=by omega
     clear hh hcx hcx0 hax e1 hx hE5;go_wp2_with fail
     clear hq;go_loopw [54] (fun j wr=>jno w w5 x ys j wr) (fun j _=>ys.length - (intOf j).toNat)
     case atStart=>exact⟨0,by omega,rfl,HE.o,HE5'.o,by simp⟩
     case round =>
      obtain⟨j,hj,rfl,hF,hF5,hall2⟩:=hrel
      have HF:=Hd hF;have HALL2:=Hd hall2;clear hF hall2
      by_cases hlt2:j < ys.length
      ·obtain⟨y,hy⟩:∃ y,ys[j]?=some y:=⟨_,List.getElem?_eq_getElem hlt2⟩
       obtain⟨a6,c6,hh,hcx⟩:=HY5.o.slice
       obtain⟨by2,oy2,hax,hcx0⟩:=hcx j y hy
       obtain⟨e1,_,_⟩:=Value.slice.inj hh
       rw[hax]at e1
       obtain⟨rfl,rfl⟩:by2=by'∧oy2=oy:=by
        have:=Option.some.inj e1;injection this with h1 h2 h3;exact⟨h1.symm,h2.symm⟩
       have hq:=jab hcx0 hF5;have HYJ:=Hd hy;have HF5:=Hd hF5;have b2:(j:Int) < (ys.length:Int):=by omega
       clear hh hcx hcx0 hax e1 hy hF5;go_wp2_with fail
       clear hq;refine (jjy _ x y (HC.o.ext HF.o)).mono ?_;rintro e w7 ⟨rfl,hE7⟩;have HE7:=Hd (HF.o.trans hE7);have HG7:=Hd (HF5.o.trans hE7);clear hE7
       obtain⟨cb,hcb⟩:∃ cb,cb=jk5 x y:=⟨_,rfl⟩
       rw[show (decide (x≠y) && decide (shaB x=shaB y))=cb from hcb.symm];have HCB:=Hd hcb;clear hcb;cases cb with
       | true =>
        have HFND:=Hd (show R=jdK (some (x,y)) by
         rw[HR0.o,jjv HXI.o HALL.o (r:=(x,y)) (by unfold jcD;rw[jmF HYJ.o HALL2.o HCB.o.symm];rfl)])
        go_wp2_with fail
        go_ret3
        exact⟨by rw[HFND.o];rfl,HE7.o⟩
       | false =>
        have HST:=Hd (jjS HYJ.o HALL2.o HCB.o.symm);go_wp2_with fail
        go_roundw
        case rel=>exact⟨j+1,by omega,by go_num,HE7.o,HG7.o,HST.o⟩
        case measure=>simp[intOf];omega
      ·have hjn:j=ys.length:=by omega
       have HST:=Hd (show (xs.take (i+1)).findSome? (jcD ys)=none from jho HXI.o HALL.o (by have h:=HALL2.o;rwa [hjn,List.take_length]at h));have HF5:=Hd hF5;clear hjn hF5;go_wp2_with fail
       go_roundw
       case rel=>exact⟨i+1,by omega,by go_num,HF.o,HF5.o,HST.o⟩
       case measure=>simp[intOf];omega
    ·have hin:i=xs.length:=by omega
     have HF:=Hd (show R=jdK none by
      rw[HR0.o];have h:=HALL.o;rw[hin,List.take_length]at h;unfold jfz;rw[h])
     clear hin;go_wp2_with fail
     go_ret3
     exact⟨by rw[HF.o];rfl,HE.o⟩
  ·rw[if_neg hsh]at HR0
   simp only[hsh,decide_false]at hnq;clear hsh;iterate 2 (refine jac _ rfl (by kernel_rfl) rfl rfl (fun K hK=>?_);go_big_quiet_op;refine hK _ ?_;clear hK K)
   refine jas (by kernel_rfl) (fun w5 he=>?_);have HE5:=Hd ((HE4.o.trans ((ExtR _).alloc _)).trans he);clear he HE4 HY4 HX4;go_wp2_with fail
   go_ret3
   exact⟨by rw[HR0.o];rfl,HE5.o⟩
theorem jmp(w:World)(v u:Value)(l m:List Pair)(hc:jbU w)(hv:RdP w v l)(hu:RdP w u m)(hn1:l.length≤9223372036854775807)(hn2:m.length≤9223372036854775807)(hs1:∀ p∈l,p.1.size≤9223372036854775807∧p.2.size≤9223372036854775807)(hs2:∀ p∈m,p.1.size≤9223372036854775807∧p.2.size≤9223372036854775807) :
  Calls Tryz.prog 99 #[v,u] w fun e w'=>e=.returned (jdK (jcM l m))∧Ext w w':=by
 by_cases h1:jaD l=0
 ·by_cases h2:jaD m=0
  ·cases hs:jdi l m with
   | true =>
    have:jcM l m=none:=by unfold jcM;simp[hs]
    rw[this];exact jiI w v u l m hc hv hu h1 h2 hs
   | false=>exact jjw w v u l m hc hv hu h1 h2 hs
  ·have:jcM l m=none:=by unfold jcM;rw[if_pos (.inr (.inl h2))]
   rw[this];exact jiH w v u l m hc hv hu hn2 hs2 h1 h2
 ·have:jcM l m=none:=by unfold jcM;rw[if_pos (.inl h1)]
  rw[this];exact jiG w v u l m hv hn1 hs1 h1
def jnB(P:Program)(l:Nat)(args:Array Value)(W:World)(r:Nat)(Ct:World→Prop):Prop:=
 YieldAt Fence.wide 0 P l args W fun e W'=>e=.returned (.bool true)∧jah (fun b=>b≠r) W W'∧Ct W'
def jmc(P:Program)(gf:FuncId)(lb:Array Value){σ:Type}(s0:σ)(Step:σ→Array Value→σ→Prop)(Done:σ→Prop)(S:World→Prop):Prop:=
 ∀ (l:Nat) (C:σ→World→Prop) (W:World),(∀ s W1 W2,C s W1→jah (fun b=>b=W.heap.size) W1 W2→C s W2)→(∀ s W1,C s W1→S W1) →
  (∀ s v s' W1,Step s v s'→C s W1→W.heap.size < W1.heap.size→jnB P l v W1 W.heap.size (C s'))→C s0 W →
   CallsIn Fence.wide 0 P gf (#[.func (.yield l) #[] #[]]++lb) W (fun e W'=>(∃ v,e=.returned v)∧∃ s,Done s∧C s W')
def jnz(g:Nat)(W:World)(Ct:World→Prop):Exit→Act→World→Prop
 | .normal,_,W'=>jah (fun b=>b≠g∧b≠g+1∧b≠g+2) W W'∧Ct W'
 | _,_,_=>False
theorem jkO{P:Program}{g:Operand}{ps:Array Tmp}{assign body:Code}{Q:Exit→Act→World→Prop}{a:Act}{w:World}
  {gf:Nat} {lb:Array Value} (hg:a.eval g=.func (.func gf) #[] lb) (eg:∀ args w,(callFunc gf args).run P w=.ok (.enter gf args) w)
  {σ:Type} {s0:σ} {Step:σ→Array Value→σ→Prop} {Done:σ→Prop} {S:World→Prop} (IS:jmc P gf lb s0 Step Done S)
  (hps:∀ s v s',Step s v s'→v.size=ps.size)
  (C:σ→World→Prop) (hC:∀ s W W',C s W→jah (fun b=>b=w.heap.size∨b=w.heap.size+1∨b=w.heap.size+2) W W'→C s W') (hS:∀ s W,C s W→S W)
  (h0:C s0 w) (a₁:Array Value→Act)
  (hassign:∀ (l:Nat) (v:Array Value) (s s':σ) (W:World) (K:Act→World→Prop),Step s v s'→K (a₁ v) W →
   assign.wpIn (Fence.wide.inRound l) 0 P (Exit.then K (fun _ _ _=>False)) { tmps:=(ps.zip v).foldl (fun t (p,v)=>t.setIfInBounds p v) a.tmps,defers:=[] } W)
  (hbody:∀ (l:Nat) (v:Array Value) (s s':σ) (W:World),Step s v s'→C s W→w.heap.size+2 < W.heap.size→body.wpIn (Fence.wide.inRound l) 0 P (jnz w.heap.size W (C s')) (a₁ v) W)
  (hdone:∀ (s:σ) (W:World),Done s→C s W→Blk W w.heap.size (.deferred (some []))→Q .normal { a with defers:={ target:=.collected w.heap.size,args:=#[] } :: a.defers } W) :
  (Code.rangeFunc g ps assign body).wpIn Fence.wide 0 P Q a w:=by
 refine wpIn_rangeFunc ?_;intro fn _;show ∃ l mark w₁ d w₁' f args w₂,(Instr.enterLoop fn a.tmps ps assign body none).run P w=_∧_
 obtain⟨rec,hrec⟩:∃ rec:LoopState→Option Code→Loop,rec=fun st pe=>{ state:=st,pending:=pe,fn,tmps:=a.tmps,params:=ps,assign,body,defers:=w.heap.size }:=⟨_,rfl⟩
 obtain⟨W1,hW1⟩:∃ W1,(w.alloc (.deferred (some []))).alloc (.loop (rec .ready none))=W1:=⟨_,rfl⟩
 have hL1:Blk W1 (w.heap.size+1) (.loop (rec .ready none)):=by
  rw[←hW1];have:=Blk.new (w.alloc (.deferred (some []))) (.loop (rec .ready none));rwa [World.size_alloc]at this
 have hK1:Blk W1 w.heap.size (.deferred (some [])):=by
  rw[←hW1];exact (Blk.new w _).alloc _
 have hX1:Ext w W1:=by rw[←hW1];exact ((jah.refl _ w).alloc _).alloc _
 have hs1:W1.heap.size=w.heap.size+2:=by rw[←hW1];simp
 refine⟨w.heap.size+1,[{ target:=.collected w.heap.size,args:=#[] }],W1,{ target:=.fn (.func gf) lb,args:=#[.func (.yield (w.heap.size+1)) #[] #[]] },W1,gf,
  #[.func (.yield (w.heap.size+1)) #[] #[]]++lb,W1,?_,?_,?_,?_,fun h=>by simp[Fence.wide]at h,?_⟩
 ·rw[←hW1,hrec];exact run_enterLoop_outer _ _ _ _ _
 ·simp only[resolve,hg]
  simp[go_sem]
 ·intro f' _;trivial
 ·simp[invoke,go_sem,eg]
 ·let CC:σ→World→Prop:=fun s W=>C s W∧Blk W (w.heap.size+1) (.loop (rec .ready none))∧Blk W w.heap.size (.deferred (some []))
  have key:=IS (w.heap.size+1) CC W1 (fun s Wa Wb ⟨h1,h2,h3⟩ e=>⟨hC s _ _ h1 (e.mono (fun b _ h=>by rw[hs1]at h;exact .inr (.inr h))),h2.keeps e (by rw[hs1];omega),h3.keeps e (by rw[hs1];omega)⟩)
   (fun s W h=>hS s W h.1) ?_ ⟨hC s0 _ _ h0 (hX1.mono (fun _ _ h=>h.elim)),hL1,hK1⟩
  ·refine CallsIn.mono key ?_
   rintro e W' ⟨⟨v,rfl⟩,s,hd,h1,h3,h4⟩
   obtain⟨ox,he⟩:∃ ox,(Instr.endLoop (w.heap.size+1)).run P W'=.ok none (W'.putObj (w.heap.size+1) ox):=⟨_,(run_endLoop (r:=rec .ready none) h3 (by rw[hrec];simp)).trans (by rw[hrec])⟩
   exact⟨none,_,he,hdone s _ hd (hC s _ _ h1 ((jah.onePut _ _ _).mono (fun b _ h=>.inr (.inl h)))) (h4.put_other (by omega) _)⟩
  ·rintro s v s' W hst ⟨h1,h3,h4⟩ hlt
   rw[hs1]at hlt
   refine⟨_,_,_,_,run_yield h3 (by rw[hrec];exact hps s v s' hst),?_⟩
   refine roundIn_of_wpIn trivial ?_;rw[show (rec .ready none).tmps=a.tmps from by rw[hrec],show (rec .ready none).params=ps from by rw[hrec],show (rec .ready none).assign=assign from by rw[hrec],show (rec .ready none).body=body from by rw[hrec]];refine hassign _ v s s' W _ hst ?_
   refine⟨_,run_beginRound h3 (by rw[hrec]),?_⟩
   have hb1:C s (W.putObj (w.heap.size+1) (.loop { rec .ready none with state:=.busy })):=hC s _ _ h1 ((jah.onePut _ _ _).mono (fun b _ h=>.inr (.inl h)));refine Code.wpIn_mono ?_ (hbody (w.heap.size+1) v s s' _ hst hb1 (by rw[World.putObj_size];exact hlt));have fin:∀ (j:Option Code) (W':World),jah (fun b=>b≠w.heap.size∧b≠w.heap.size+1∧b≠w.heap.size+2) (W.putObj (w.heap.size+1) (.loop { rec .ready none with state:=.busy })) W' →
     (Instr.endRound (w.heap.size+1) j).run P W'=.ok (.bool j.isNone) (W'.putObj (w.heap.size+1) (.loop (rec (if j.isNone then .ready else .done) j))) ∧
     Blk (W'.putObj (w.heap.size+1) (.loop (rec (if j.isNone then .ready else .done) j))) (w.heap.size+1) (.loop (rec (if j.isNone then .ready else .done) j)) ∧
     Blk (W'.putObj (w.heap.size+1) (.loop (rec (if j.isNone then .ready else .done) j))) w.heap.size (.deferred (some [])):=by
    intro j W' hK;have hl:Blk W' (w.heap.size+1) (.loop { rec .ready none with state:=.busy }):=(h3.put_same _).keeps hK (fun h=>h.2.1 rfl);have hd:Blk W' w.heap.size (.deferred (some [])):=(h4.put_other (by omega) _).keeps hK (fun h=>h.1 rfl)
    refine⟨?_,hl.put_same _,hd.put_other (by omega) _⟩
    rw[run_endRound j hl,hrec]
   intro e a' W' hq;cases e with
   | normal =>
    obtain⟨hK,hc⟩:=hq
    obtain⟨f1,f2,f3⟩:=fin none W' hK
    have k1:jah (fun b=>b≠W1.heap.size) W (W.putObj (w.heap.size+1) (.loop { rec .ready none with state:=.busy })):=(jah.onePut _ _ _).mono (fun b _ h=>by have h:b=w.heap.size+1:=h;rw[hs1];omega);have k2:jah (fun b=>b≠W1.heap.size) (W.putObj (w.heap.size+1) (.loop { rec .ready none with state:=.busy })) W':=hK.mono (fun b _ h=>by rw[hs1];exact h.2.2);have k3:jah (fun b=>b≠W1.heap.size) W' (W'.putObj (w.heap.size+1) (.loop (rec .ready none))):=(jah.onePut _ _ _).mono (fun b _ h=>by have h:b=w.heap.size+1:=h;rw[hs1];omega)
    exact⟨_,_,f1,rfl,(k1.trans k2).trans k3,hC s' _ _ hc ((jah.onePut _ _ _).mono (fun b _ h=>.inr (.inl h))),f2,f3⟩
   | _=>exact hq.elim
end
section
open Go Go.RowKit
attribute [local go_sem] Oper.semAt_some
abbrev EntS:=Ent (List UInt8)
theorem Tryz.uMapSE:Tryz.prog.underlying 171=some (.map 9 95):=by kernel_rfl
def jds(s:List EntS):Array Nat:=(s.map (·.2.2)).toArray
def jnt(es:List EntS)(s:List EntS)(v:Array Value)(s':List EntS):Prop:=∃ x∈jaI es (jds s),v=#[str x.1]∧s'=s++[x]
def jiy(es:List EntS)(s:List EntS):Prop:=jaI es (jds s)=[]
def jkA(w:World)(r:Nat):Array Nat:=match w.heap[r]? with | some (.mapIter _ _ s _)=>s | _=>#[]
theorem jfO{w:World}{r:Nat}{m:Option Nat}{a b:Nat}{s:Array Nat}(h:Blk w r (.mapIter m a s b)):jkA w r=s:=by
 unfold jkA;rw[show w.heap[r]?=_ from h]
theorem jmN{es:List EntS}{s:List EntS}{x:EntS}(hx:x∈jaI es (jds s)):(jaI es (jds (s++[x]))).length < (jaI es (jds s)).length:=by
 have e:jaI es (jds (s++[x]))=(jaI es (jds s)).filter (fun y => !(y.2.2 == x.2.2)):=by
  unfold jaI jds;rw[List.filter_filter];refine List.filter_congr (fun y _=>?_);simp only[List.contains_toArray,List.map_append,List.map_cons,List.map_nil,List.contains_append]
  by_cases h1:y.2.2=x.2.2 <;> simp[h1]
 rw[e,List.length_filter_lt_length_iff_exists]
 exact⟨x,hx,by simp⟩
def KyS(bx bm ck:Nat)(es:List EntS)(W:World):Prop:=Blk W bx (.cells #[.map (some bm)] 171)∧Blk W bm (.map (Tryz.ES.arr es) ck)
def joD(r bm ck:Nat)(es:List EntS)(C:List EntS→World→Prop)(wr:World):Prop:=∃ s,C s wr∧Blk wr r (.mapIter (some bm) ck (jds s) ck)
theorem jmK(bx bm ck:Nat)(es:List EntS)(hnd:(es.map (·.2.2)).Nodup)(hlt:∀ x∈es,x.2.2 < ck) :
  jmc Tryz.prog 162 #[.pointer (some ⟨bx,0,none⟩)] ([]:List EntS) (jnt es) (jiy es) (KyS bx bm ck es):=by
 intro l C W hC hS hY h0
 obtain⟨hx,hm⟩:=hS _ _ h0
 have c1:=hx.cell (i:=0) (v:=.map (some bm)) (by rfl);have hrg:=jky Tryz.ES Tryz.uMapSE hm;have HC0:=Hd (show C [] (W.alloc (.mapIter (some bm) ck #[] ck))from hC [] _ _ h0 (((ExtR W).alloc _).mono (fun _ _ h=>h.elim)));have HC:=Hd hC;have HS:=Hd hS;have HY:=Hd hY;have HND:=Hd hnd;have HLT:=Hd hlt;clear hC hS hY h0 hx hm hnd hlt;refine callsIn_of_wp Tryz.func162 rfl trivial ?_ rfl;simp only[Tryz.ntmps162,List.size_toArray,List.length_cons,List.length_nil,Nat.reduceAdd,Nat.reduceSub,Array.replicate_succ,Array.replicate_zero,List.push_toArray,List.append_toArray,List.nil_append,List.cons_append];gi_wp2_with fail
 obtain⟨r,hr⟩:∃ r,r=W.heap.size:=⟨_,rfl⟩
 have HR:=Hd hr;rw[←hr];clear hr;gi_loopw [] (fun wr=>joD r bm ck es C wr) (fun wr=>(jaI es (jkA wr r)).length)
 case atStart=>exact⟨[],HC0.o,by rw[HR.o];exact Blk.new W _⟩
 case round =>
  obtain⟨s,hCs,hB⟩:=hrel
  obtain⟨hx,hm⟩:=HS.o _ _ hCs
  rcases jlM Tryz.ES hm hB HLT.o 0 with⟨hl0,hnx⟩ |⟨x,hxl,w2,hnx,hr2,hk2⟩
  ·have HDN:=Hd (show jiy es s from hl0)
   have HCs:=Hd hCs;clear hl0 hCs hx hm hB HC HS HY HND HLT HC0 c1 hrg;gi_wp2_with fail
   refine bodyPost_end (results_none rfl _ _ _) rfl ?_
   exact⟨⟨_,rfl⟩,s,HDN.o,HCs.o⟩
  ·have hne:r≠bm:=fun e=>by have:=hm.uniq (e ▸ hB);cases this
   have hm2:=hm.keeps hk2 (fun e=>hne e.symm);have hxm:x∈es:=(List.mem_filter.1 hxl).1;have hen:=jkx Tryz.ES hm2 hxm hr2 HND.o;have hC2:C s w2:=HC.o s _ _ hCs (hk2.mono (fun b _ e=>by rw[←HR.o];exact e))
   obtain⟨fn,tm,asg,bd,hyr,hrd⟩:=HY.o s #[str x.1] (s++[x]) w2 ⟨x,hxl,rfl,rfl⟩ hC2 (by rw[←HR.o];exact hr2.lt)
   have hyr':(Instr.yield l #[Tryz.ES.κ x.1]).run Tryz.prog w2=.ok (.round l fn tm asg bd) w2:=hyr;have HXL:=Hd hxl;have HSN:=Hd (jfO hB);have hbs:(jds s).push x.2.2=jds (s++[x]):=by unfold jds;simp
   rw[hbs]at hr2;have HR2:=Hd hr2;have HRD:=Hd hrd;clear hyr hC2 hCs hx hm hB HC HS HND HLT HC0 c1 hrg hm2 hk2 hxl hxm hr2 hrd hbs hne;gi_wp2_with fail
   refine⟨rfl,HRD.o.mono ?_⟩
   rintro e w5 ⟨rfl,k5,C5⟩;have HB5:=Hd (HR2.o.keeps k5 (fun h=>h HR.o));have HC5:=Hd C5;clear C5 k5 hnx hen hyr';gi_wp2_with fail
   go_roundw
   case rel=>exact⟨_,HC5.o,HB5.o⟩
   case measure =>
    rw[jfO HB5.o,HSN.o];exact jmN HXL.o
def keyB(x:EntS):ByteArray:=⟨x.1.toArray⟩
theorem jis(x:EntS):str x.1=.string (keyB x):=rfl
theorem Tryz.enterKeys1:∀ args w,(callFunc 162 args).run Tryz.prog w=.ok (.enter 162 args) w:=fun _ _=>by kernel_rfl
def InvS(es s:List EntS):Prop:=(s.map (·.2.2)).Nodup∧∀ x∈s,x∈es
theorem InvS.step{es s s':List EntS}{v:Array Value}(h:InvS es s)(k:jnt es s v s'):InvS es s':=by
 obtain⟨x,hx,_,rfl⟩:=k
 obtain⟨h1,h2⟩:=List.mem_filter.1 hx
 have h2:x.2.2 ∉ s.map (·.2.2):=by simpa [jds]using h2
 refine⟨?_,fun z hz=>?_⟩
 ·rw[List.map_append,List.nodup_append]
  exact⟨h.1,by simp,fun a ha b hb e=>by simp at hb;subst hb;subst e;exact h2 ha⟩
 ·rcases List.mem_append.1 hz with hz | hz
  ·exact h.2 z hz
  ·simp at hz;exact hz ▸ h1
theorem InvS.len{es s:List EntS}(h:InvS es s):s.length≤es.length:=by
 have:=List.Nodup.length_le_of_subset h.1 (l₂:=es.map (·.2.2)) (fun k hk=>by
  obtain⟨z,hz,e⟩:=List.mem_map.1 hk;exact List.mem_map.2 ⟨z,h.2 z hz,e⟩)
 simpa using this
theorem InvS.perm{es s:List EntS}(h:InvS es s)(hd:jiy es s)(hst:(es.map (·.2.2)).Nodup)(hkn:(es.map (·.1)).Nodup):(s.map (·.1)).Perm (es.map (·.1)):=by
 have hsub:∀ x∈es,x∈s:=by
  intro x hx
  by_cases hc:x.2.2∈s.map (·.2.2)
  ·obtain⟨z,hz,e⟩:=List.mem_map.1 hc
   have:=jcH hst (h.2 z hz) hx e
   exact this ▸ hz
  ·have:x∈jaI es (jds s):=by
    refine List.mem_filter.2 ⟨hx,?_⟩;simpa [jds]using hc
   rw[hd]at this;cases this
 have hnd:(s.map (·.1)).Nodup:=by
  have h1:=h.1;have h2:=h.2;clear h hd hsub;induction s with
  | nil=>simp
  | cons z r ih =>
   rw[List.map_cons,List.nodup_cons]at h1 ⊢
   refine⟨fun hm=>?_,ih h1.2 (fun x hx=>h2 x (List.mem_cons_of_mem _ hx))⟩
   obtain⟨y,hy,e⟩:=List.mem_map.1 hm
   have:=jcH hkn (h2 y (List.mem_cons_of_mem _ hy)) (h2 z (List.mem_cons_self ..)) e
   exact h1.1 (List.mem_map.2 ⟨y,hy,by rw[this]⟩)
 refine je1 hnd hkn fun k=>?_;constructor
 ·intro hk;obtain⟨z,hz,e⟩:=List.mem_map.1 hk;exact List.mem_map.2 ⟨z,h.2 z hz,e⟩
 ·intro hk;obtain⟨z,hz,e⟩:=List.mem_map.1 hk;exact List.mem_map.2 ⟨z,hsub z hz,e⟩
structure AppS(w:World)(es s:List EntS)(W:World):Prop where
 ext:Ext w W
 inv:InvS es s
 var:∃ v,Blk W w.heap.size (.cells #[v] 34)∧W.ownsRow 0 9 1 v s.length ((s.map keyB).map Value.string)∧∀ b,v.ownBlock=some b→w.heap.size+4≤b
theorem AppS.st{w:World}{es s:List EntS}{W W':World}(h:AppS w es s W)(k:jah (fun b=>b=w.heap.size+1∨b=w.heap.size+1+1∨b=w.heap.size+1+2) W W'):AppS w es s W':=by
 obtain⟨v,h1,h2,h3⟩:=h.var
 exact⟨h.ext.trans' k (fun x hx e=>by omega),h.inv,v,h1.keeps k (by omega),jbj h2 k (fun b hb e=>by have:=h3 b hb;omega),h3⟩
theorem jkV(w:World)(bx bm ck:Nat)(es:List EntS)(hk:KyS bx bm ck es w)(hnd:(es.map (·.2.2)).Nodup)(hlt:∀ x∈es,x.2.2 < ck)(hlen:es.length≤1000000) :
  Calls Tryz.prog 206 #[.slice none 0 0,.func (.func 162) #[] #[.pointer (some ⟨bx,0,none⟩)]] w fun e w'=>∃ u s,e=.returned u∧InvS es s∧jiy es s∧SRow w w' u s.length (s.map keyB):=by
 have HIT:=Hd (jmK bx bm ck es hnd hlt);have HK:=Hd hk;clear hk hnd hlt;rw[←callsIn_wide (n:=0)];refine callsIn_of_wp_marks Tryz.func206 rfl trivial ?_ rfl;simp only[Tryz.ntmps206,List.size_toArray,List.length_cons,List.length_nil,Nat.reduceAdd,Nat.reduceSub,Array.replicate_succ,Array.replicate_zero,List.push_toArray,List.append_toArray,List.nil_append,List.cons_append];gi_wp2_with fail
 obtain⟨w1,hw1⟩:∃ w1,w1=w.alloc (.cells #[.slice none 0 0] 34):=⟨_,rfl⟩
 rw[←hw1];have hs1:w1.heap.size=w.heap.size+1:=by rw[hw1];simp
 have S0:AppS w es [] w1:=by
  rw[hw1]
  exact⟨(ExtR w).alloc _,⟨by simp,fun x hx=>by cases hx⟩,_,Blk.new w _,World.ownsRow_nil _ _ _ _,fun b hb=>by cases hb⟩
 have HS0:=Hd S0;clear S0 hw1;refine jkO (gf:=162) (lb:=#[.pointer (some ⟨bx,0,none⟩)]) rfl Tryz.enterKeys1 HIT.o
  (fun s v s' h=>by obtain⟨x,_,rfl,_⟩:=h;rfl) (AppS w es) (fun s W W' h k=>h.st (by rw[hs1]at k;exact k)) (fun s W h=>⟨HK.o.1.keeps h.ext (fun h=>h),HK.o.2.keeps h.ext (fun h=>h)⟩) HS0.o
  (fun v=>{ tmps:=#[.slice none 0 0,.func (.func 162) #[] #[.pointer (some ⟨bx,0,none⟩)],.pointer (some ⟨w.heap.size,0,none⟩),undef,.slice none 0 0,v.getD 0 undef,.func (.func 162) #[] #[.pointer (some ⟨bx,0,none⟩)],v.getD 0 undef,undef,undef,undef,undef,undef],defers:=[] })
  ?hassign ?hbody ?hdone
 case hassign =>
  intro l2 v s s' W K hst hK
  obtain⟨x,_,rfl,_⟩:=hst
  rw[jis]at hK ⊢;rw[jnY];simp only[List.set_cons_zero,List.set_cons_succ];gi_wp2;exact hK
 case hbody =>
  intro l2 v s s' W hst h hlt;have hinv:=h.inv.step hst
  obtain⟨x,hx,rfl,rfl⟩:=hst
  obtain⟨v,h1,h2,h3⟩:=h.var
  obtain⟨ad,cp,rfl⟩:=jbw h2
  rw[jis]
  obtain⟨q,hq⟩:∃ q,q=keyB x:=⟨_,rfl⟩
  rw[←hq];have hln:s.length≤1000000:=Nat.le_trans h.inv.len hlen;have hV:=h1.cell (i:=0) (v:=.slice ad s.length cp) (by rfl);have hVf:W.frozen? ⟨w.heap.size,0,none⟩=false:=h1.frozen
  obtain⟨n,hn⟩:∃ n,n=s.length:=⟨_,rfl⟩
  rw[←hn]at h2 hln hV h1 h3;have hlt:w.heap.size+3 < W.heap.size:=by rw[hs1]at hlt;omega
  have HN:=Hd hn;have HQ:=Hd hq;have HV:=Hd h1;have HO:=Hd h2;have H3:=Hd h3;have HE:=Hd h.ext;have HI:=Hd hinv;rw[show (#[Value.string q]:Array Value).getD 0 undef=.string q from rfl];clear h h1 h2 h3 hinv hx hn hq HS0
  obtain⟨i0,hi,hz0,hz1,hz2⟩:=info_parts Tryz.infoStr
  gi_wp2_with (gi_at_builtin;refine jbF _ rfl (.tmp 8) (.tmp 10) 34 rfl 9 i0 _ 1 16 Tryz.uStrs hi hz0 hz1 hz2 rfl (by decide) (.slice ad n cp) n _ rfl (jce HO.o ((ExtR W).alloc _)) ⟨W.heap.size,0,none⟩ 1 1 [.string q] rfl rfl (jaS (Blk.new W _)) (by simp[Value.oneCell']) (by unfold maxLen;omega) (by omega) ?_;intro v' w6 r1 r2 r3;obtain⟨ad',cp',rfl⟩:=jbw r1;have hV6:=(HV.o.alloc _).keeps r2 (fun e=>by have:=H3.o _ e;omega);have q56:w6.cell? ⟨w.heap.size,0,none⟩=some (.slice ad n cp):=hV6.cell (i:=0) (by rfl);have f56:w6.frozen? ⟨w.heap.size,0,none⟩=false:=hV6.frozen)
  have r1':w6.ownsRow 0 9 1 (.slice ad' (n+1) cp') (s++[x]).length (((s++[x]).map keyB).map Value.string):=by
   rw[List.length_append, ←HN.o,List.map_append,List.map_append]
   have:=r1;rw[HQ.o]at this;exact this
  have K6:jah (fun b=>(Value.slice ad n cp).ownBlock=some b) W w6:=((jah.refl _ W).alloc _).trans r2;have hv':∀ b,(Value.slice ad' (n+1) cp').ownBlock=some b→w.heap.size+4≤b:=fun b hb=>by
   rcases r3 with r3 | r3
   ·exact H3.o b (r3 ▸ hb)
   ·have h9:=r3 b hb;rw[World.size_alloc]at h9;omega
  have K7:jah (fun b=>b=w.heap.size) w6 (w6.setCell ⟨w.heap.size,0,none⟩ (.slice ad' (n+1) cp')):=jah.oneSet w6 ⟨w.heap.size,0,none⟩ _
  refine⟨(K6.mono (fun y _ e=>?_)).trans (K7.mono (fun y _ e=>?_)),?_⟩
  ·have:=H3.o y e;rw[hs1];omega
  ·have e:y=_:=e;rw[hs1];omega
  ·exact⟨(HE.o.trans' K6 (fun y hy e=>by have:=H3.o y e;omega)).trans' K7 (fun y hy e=>by have e:y=_:=e;omega),HI.o,
    _,hV6.set_same (i:=0) _,jbj r1' K7 (fun b hb e=>by have:=hv' b hb;omega),hv'⟩
 case hdone =>
  intro s W hdn h hd
  obtain⟨v,h1,h2,h3⟩:=h.var
  obtain⟨ad,cp,rfl⟩:=jbw h2
  have q5:W.cell? ⟨w.heap.size,0,none⟩=some (.slice ad s.length cp):=h1.cell (i:=0) (by rfl);have H2:=Hd h2;have H3:=Hd h3;have HX:=Hd h.ext;have HI:=Hd h.inv;have HDN:=Hd hdn;have HD:=Hd hd;clear h h1 h2 h3 hd hdn HS0;gi_wp2_with fail
  refine⟨by simp,.inl ⟨_,_,rfl,run_takeDeferred HD.o,?_⟩⟩
  refine⟨_,results_tmp rfl _ _ _,?_⟩
  have hK:=jah.onePut W w1.heap.size (.deferred none)
  exact⟨.slice ad s.length cp,s,rfl,HI.o,HDN.o,⟨_,_,rfl⟩,jbj H2.o hK (fun b hb e=>by have:=H3.o b hb;rw[hs1]at e;omega),HX.o.putObj (.inr (by omega)) _,fun b hb=>by have:=H3.o b hb;omega⟩
end
end Go.Proofs.YtcpnjmcipainpaaGreatDoor
