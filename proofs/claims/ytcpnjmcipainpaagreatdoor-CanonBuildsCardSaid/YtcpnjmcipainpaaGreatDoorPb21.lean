/- Parts of the proof, one behind the other: CanonA. Each is under no condition but those that it states. -/
import Derived.Test.YtcpnjmcipainpaaGreatDoorPb20
import Derived.Laws.Cover1
namespace Go.Proofs.YtcpnjmcipainpaaGreatDoor
set_option linter.unusedSimpArgs false
set_option linter.unusedVariables false
set_option maxRecDepth 100000
set_option maxHeartbeats 16000000
section
open Go Go.RowKit
abbrev Pair:=ByteArray × ByteArray
def jbN(k:ByteArray):Bool:=decide (0 < k.size∧k.size≤6)
def jbs(k:ByteArray):Bool:=decide (0 < k.size∧k.size≤80)
theorem jdE{s:ByteArray}(h:s.size=0):s=⟨#[]⟩:=by
 obtain⟨⟨l⟩⟩:=s
 cases l with
 | nil=>rfl
 | cons x y=>exact absurd h (Nat.succ_ne_zero _)
theorem jea(w:World)(k:ByteArray)(hs:k.size≤9223372036854775807):Calls Tryz.prog 103 #[.string k] w fun e w'=>e=.returned (.bool (jbN k))∧w'=w:=by
 by_cases h0:k.size=0
 ·have:=jdE h0
  subst this;go_enter Tryz.func103,Tryz.ntmps103;go_wp2_with fail
  go_ret
  exact⟨rfl,rfl⟩
 ·have hne:=ja8 (s:=k) (by omega)
  by_cases h6:k.size≤6
  ·have c:(k.size:Int)≤6:=by omega
   have e:jbN k=true:=by unfold jbN;simp;omega
   have E:=Hd e;clear e;go_enter Tryz.func103,Tryz.ntmps103;go_wp2_with fail
   go_ret
   exact⟨by rw[E.o];rfl,rfl⟩
  ·have c:¬(k.size:Int)≤6:=by omega
   have e:jbN k=false:=by unfold jbN;simp;omega
   have E:=Hd e;clear e;go_enter Tryz.func103,Tryz.ntmps103;go_wp2_with fail
   go_ret
   exact⟨by rw[E.o];rfl,rfl⟩
theorem jdU(w:World)(k:ByteArray)(hs:k.size≤9223372036854775807):Calls Tryz.prog 104 #[.string k] w fun e w'=>e=.returned (.bool (jbs k))∧w'=w:=by
 by_cases h0:k.size=0
 ·have:=jdE h0
  subst this;go_enter Tryz.func104,Tryz.ntmps104;go_wp2_with fail
  go_ret
  exact⟨rfl,rfl⟩
 ·have hne:=ja8 (s:=k) (by omega)
  by_cases h6:k.size≤80
  ·have c:(k.size:Int)≤80:=by omega
   have e:jbs k=true:=by unfold jbs;simp;omega
   have E:=Hd e;clear e;go_enter Tryz.func104,Tryz.ntmps104;go_wp2_with fail
   go_ret
   exact⟨by rw[E.o];rfl,rfl⟩
  ·have c:¬(k.size:Int)≤80:=by omega
   have e:jbs k=false:=by unfold jbs;simp;omega
   have E:=Hd e;clear e;go_enter Tryz.func104,Tryz.ntmps104;go_wp2_with fail
   go_ret
   exact⟨by rw[E.o];rfl,rfl⟩
theorem Tryz.enterKeyed:∀ args w,(callFunc 103 args).run Tryz.prog w=.ok (.enter 103 args) w:=fun _ _=>by kernel_rfl
theorem Tryz.enterValued:∀ args w,(callFunc 104 args).run Tryz.prog w=.ok (.enter 104 args) w:=fun _ _=>by kernel_rfl
def RdP(w:World)(v:Value)(xs:List Pair):Prop:=
 (∃ a c,v=.slice a 0 c∧xs=[])∨∃ b o c,v=.slice (some ⟨b,o,none⟩) xs.length c∧b < w.heap.size∧xs.length≤c∧∀ (j:Nat) x,xs[j]?=some x→w.cell? ⟨b,o+j * 2,none⟩=some (.string x.1)∧w.cell? ⟨b,o+j * 2+1,none⟩=some (.string x.2)
theorem RdP.ext{w w':World}{v:Value}{xs:List Pair}(h:RdP w v xs)(k:Ext w w'):RdP w' v xs:=by
 rcases h with h |⟨b,o,c,h1,h2,h3,h4⟩
 ·exact .inl h
 ·exact .inr ⟨b,o,c,h1,Nat.lt_of_lt_of_le h2 k.size,h3,fun j x hx=>⟨jab (h4 j x hx).1 k,jab (h4 j x hx).2 k⟩⟩
theorem RdP.sl{w:World}{v:Value}{xs:List Pair}(h:RdP w v xs):∃ a c,v=.slice a xs.length c:=by
 rcases h with⟨a,c,h1,h2⟩ |⟨b,o,c,h1,_⟩
 ·exact⟨a,c,by rw[h1,h2];rfl⟩
 ·exact⟨_,c,h1⟩
def Pair.V(p:Pair):Value:=.agg #[.string p.1,.string p.2]
def badN(l:List Pair)(i:Nat):Bool := !jbN (l.getD i (⟨#[]⟩,⟨#[]⟩)).1 || !jbs (l.getD i (⟨#[]⟩,⟨#[]⟩)).2 ||(decide (0 < i) && !jb4 (l.getD (i - 1) (⟨#[]⟩,⟨#[]⟩)).1 (l.getD i (⟨#[]⟩,⟨#[]⟩)).1)
def jaD(l:List Pair):Int:=if (List.range l.length).any (badN l)then 1 else if 40 < l.length then 12 else 0
def jnn(w:World)(l:List Pair)(i:Value)(wr:World):Prop:=∃ k:Nat,k≤l.length∧i=.int .i64 k∧Ext w wr∧(List.range k).any (badN l)=false
theorem jcc(w:World)(v:Value)(l:List Pair)(hv:RdP w v l)(hn:l.length≤9223372036854775807)(hs:∀ p∈l,p.1.size≤9223372036854775807∧p.2.size≤9223372036854775807):Calls Tryz.prog 47 #[v] w fun e w'=>e=.returned (.int .i64 (jaD l))∧Ext w w':=by
 obtain⟨a,c,hsl⟩:=hv.sl
 have HV:=Hd hv;have HS:=Hd hs;subst hsl;clear hv hs;go_enter Tryz.func47,Tryz.ntmps47;go_wp2_with fail
 go_loopw [7] (fun i wr=>jnn w l i wr) (fun i _=>l.length - (intOf i).toNat)
 case atStart=>exact⟨0,by omega,rfl,ExtR w,rfl⟩
 case round =>
  obtain⟨k,hk,rfl,hE,hall⟩:=hrel
  have HE:=Hd hE;have HALL:=Hd hall;clear hE hall
  by_cases hlt:k < l.length
  ·rcases HV.o with⟨_,_,_,h0⟩ |⟨b,o,c',hh,hb,hc,hcell⟩
   ·rw[h0]at hlt;cases hlt
   cases hh
   obtain⟨p,hp⟩:∃ p,l[k]?=some p:=⟨_,List.getElem?_eq_getElem hlt⟩
   obtain⟨q1,q2⟩:=hcell k p hp
   have q1:=jab q1 HE.o;have q2:=jab q2 HE.o;have b1:(k:Int) < (l.length:Int):=by omega
   obtain⟨x,y⟩:=p
   simp only at q1 q2;have hgd:l.getD k (⟨#[]⟩,⟨#[]⟩)=(x,y):=by rw[List.getD_eq_getElem?_getD,hp];rfl
   have hsx:=HS.o (x,y) (List.mem_of_getElem? hp);have HSX:=Hd hsx.1;have HSY:=Hd hsx.2;have hq0:(wr.alloc (.cells #[.string x,.string y] 95)).cell? ⟨wr.heap.size,0,none⟩=some (.string x):=(Blk.new wr _).cell (by rfl);have hq1:(wr.alloc (.cells #[.string x,.string y] 95)).cell? ⟨wr.heap.size,1,none⟩=some (.string y):=(Blk.new wr _).cell (by rfl);have Q0:=Hd hq0;have Q1:=Hd hq1;have hbadk:badN l k=true→jaD l=1:=fun h=>by
    unfold jaD;rw[if_pos (List.any_eq_true.2 ⟨k,List.mem_range.2 hlt,h⟩)]
   have hnext:badN l k=false→(List.range (k+1)).any (badN l)=false:=fun h=>by
    rw[List.range_succ,List.any_append,HALL.o];simp[h]
   cases hk1:jbN x with
   | false =>
    have HBAD:=Hd (hbadk (by unfold badN;rw[hgd,hk1];rfl));have HK:=Hd hk1;clear hk1 hgd hsx hq0 hq1 hbadk hnext hcell hp;go_wp2_with fail
    refine jad (List.range 25) Ext ExtR ExtT (by kernel_rfl) (by kernel_rfl) (by kernel_rfl) ?_;simp only[List.range,List.range.loop]
    (refine jac _ rfl (by kernel_rfl) rfl rfl (fun K hK=>?_);go_big_quiet_op;refine hK _ ?_;clear hK K)
    refine jai ⟨wr.heap.size,0,none⟩ _ rfl (by kernel_rfl) rfl rfl (fun w2 h2=>jaa Tryz.uStr rfl (jab (by exact Q0.o) h2)) ?_;simp only[Act.put,sA,sB,sC];refine jav _ 103 #[.string x] (.bool false) rfl (by kernel_rfl) rfl (fun w1=>jan Tryz.enterKeyed (by kernel_rfl)) (fun w1 h1=>(jea w1 x (by have:=HSX.o;omega)).mono (fun e w2 ⟨h1,h2⟩=>⟨by rw[h1,HK.o],h2 ▸ ExtR w1⟩)) ?_;simp only[Act.put,sA,sB,sC];iterate 2 (refine jac _ rfl (by kernel_rfl) rfl rfl (fun K hK=>?_);go_big_quiet_op;refine hK _ ?_;clear hK K)
    iterate 4 (refine jaU _ rfl (by kernel_rfl) rfl ?_;simp only[Act.put,sA,sB,sC])
    iterate 2 (refine jac _ rfl (by kernel_rfl) rfl rfl (fun K hK=>?_);go_big_quiet_op;refine hK _ ?_;clear hK K)
    iterate 3 (refine jaU _ rfl (by kernel_rfl) rfl ?_;simp only[Act.put,sA,sB,sC])
    iterate 9 (refine jaU _ rfl (by kernel_rfl) rfl ?_;simp only[Act.put,sA,sB,sC])
    (refine jaU _ rfl (by kernel_rfl) rfl ?_;simp only[Act.put,sA,sB,sC])
    (refine jac _ rfl (by kernel_rfl) rfl rfl (fun K hK=>?_);go_big_quiet_op;refine hK _ ?_;clear hK K)
    refine jas (by kernel_rfl) (fun w3 he=>?_);have HE3:=Hd (((HE.o.alloc _).trans (jaj _)).trans he);clear he;go_wp2_with fail
    go_ret
    exact⟨by rw[HBAD.o];rfl,HE3.o⟩
   | true =>
    cases hv1:jbs y with
    | false =>
     have HBAD:=Hd (hbadk (by unfold badN;rw[hgd,hk1,hv1];rfl));have HK:=Hd hk1;have HVV:=Hd hv1;clear hk1 hv1 hgd hsx hq0 hq1 hbadk hnext hcell hp;go_wp2_with fail
     refine jad (List.range 25) Ext ExtR ExtT (by kernel_rfl) (by kernel_rfl) (by kernel_rfl) ?_;simp only[List.range,List.range.loop]
     (refine jac _ rfl (by kernel_rfl) rfl rfl (fun K hK=>?_);go_big_quiet_op;refine hK _ ?_;clear hK K)
     refine jai ⟨wr.heap.size,0,none⟩ _ rfl (by kernel_rfl) rfl rfl (fun w2 h2=>jaa Tryz.uStr rfl (jab (by exact Q0.o) h2)) ?_;simp only[Act.put,sA,sB,sC];refine jav _ 103 #[.string x] (.bool true) rfl (by kernel_rfl) rfl (fun w1=>jan Tryz.enterKeyed (by kernel_rfl)) (fun w1 h1=>(jea w1 x (by have:=HSX.o;omega)).mono (fun e w2 ⟨h1,h2⟩=>⟨by rw[h1,HK.o],h2 ▸ ExtR w1⟩)) ?_;simp only[Act.put,sA,sB,sC];iterate 3 (refine jac _ rfl (by kernel_rfl) rfl rfl (fun K hK=>?_);go_big_quiet_op;refine hK _ ?_;clear hK K)
     refine jai ⟨wr.heap.size,1,none⟩ _ rfl (by kernel_rfl) rfl rfl (fun w2 h2=>jaa Tryz.uStr rfl (jab (by exact Q1.o) h2)) ?_;simp only[Act.put,sA,sB,sC];refine jav _ 104 #[.string y] (.bool false) rfl (by kernel_rfl) rfl (fun w1=>jan Tryz.enterValued (by kernel_rfl)) (fun w1 h1=>(jdU w1 y (by have:=HSY.o;omega)).mono (fun e w2 ⟨h1,h2⟩=>⟨by rw[h1,HVV.o],h2 ▸ ExtR w1⟩)) ?_;simp only[Act.put,sA,sB,sC];iterate 3 (refine jac _ rfl (by kernel_rfl) rfl rfl (fun K hK=>?_);go_big_quiet_op;refine hK _ ?_;clear hK K)
     iterate 3 (refine jaU _ rfl (by kernel_rfl) rfl ?_;simp only[Act.put,sA,sB,sC])
     iterate 9 (refine jaU _ rfl (by kernel_rfl) rfl ?_;simp only[Act.put,sA,sB,sC])
     (refine jaU _ rfl (by kernel_rfl) rfl ?_;simp only[Act.put,sA,sB,sC])
     (refine jac _ rfl (by kernel_rfl) rfl rfl (fun K hK=>?_);go_big_quiet_op;refine hK _ ?_;clear hK K)
     refine jas (by kernel_rfl) (fun w3 he=>?_);have HE3:=Hd (((HE.o.alloc _).trans (jaj _)).trans he);clear he;go_wp2_with fail
     go_ret
     exact⟨by rw[HBAD.o];rfl,HE3.o⟩
    | true =>
     by_cases hk0:k=0
     ·have HNEXT:=Hd (hnext (by unfold badN;rw[hgd,hk1,hv1,hk0];rfl))
      subst hk0;rw[Nat.zero_mul,Nat.add_zero]at q1 q2;have HK:=Hd hk1;have HVV:=Hd hv1;clear hk1 hv1 hgd hsx hq0 hq1 hbadk hnext hcell hp;go_wp2_with fail
      refine jad (List.range 25) Ext ExtR ExtT (by kernel_rfl) (by kernel_rfl) (by kernel_rfl) ?_;simp only[List.range,List.range.loop]
      (refine jac _ rfl (by kernel_rfl) rfl rfl (fun K hK=>?_);go_big_quiet_op;refine hK _ ?_;clear hK K)
      refine jai ⟨wr.heap.size,0,none⟩ _ rfl (by kernel_rfl) rfl rfl (fun w2 h2=>jaa Tryz.uStr rfl (jab (by exact Q0.o) h2)) ?_;simp only[Act.put,sA,sB,sC];refine jav _ 103 #[.string x] (.bool true) rfl (by kernel_rfl) rfl (fun w1=>jan Tryz.enterKeyed (by kernel_rfl)) (fun w1 h1=>(jea w1 x (by have:=HSX.o;omega)).mono (fun e w2 ⟨h1,h2⟩=>⟨by rw[h1,HK.o],h2 ▸ ExtR w1⟩)) ?_;simp only[Act.put,sA,sB,sC];iterate 3 (refine jac _ rfl (by kernel_rfl) rfl rfl (fun K hK=>?_);go_big_quiet_op;refine hK _ ?_;clear hK K)
      refine jai ⟨wr.heap.size,1,none⟩ _ rfl (by kernel_rfl) rfl rfl (fun w2 h2=>jaa Tryz.uStr rfl (jab (by exact Q1.o) h2)) ?_;simp only[Act.put,sA,sB,sC];refine jav _ 104 #[.string y] (.bool true) rfl (by kernel_rfl) rfl (fun w1=>jan Tryz.enterValued (by kernel_rfl)) (fun w1 h1=>(jdU w1 y (by have:=HSY.o;omega)).mono (fun e w2 ⟨h1,h2⟩=>⟨by rw[h1,HVV.o],h2 ▸ ExtR w1⟩)) ?_;simp only[Act.put,sA,sB,sC];iterate 6 (refine jac _ rfl (by kernel_rfl) rfl rfl (fun K hK=>?_);go_big_quiet_op;refine hK _ ?_;clear hK K)
      iterate 9 (refine jaU _ rfl (by kernel_rfl) rfl ?_;simp only[Act.put,sA,sB,sC])
      iterate 2 (refine jac _ rfl (by kernel_rfl) rfl rfl (fun K hK=>?_);go_big_quiet_op;refine hK _ ?_;clear hK K)
      refine jas (by kernel_rfl) (fun w3 he=>?_);have HE3:=Hd (((HE.o.alloc _).trans (jaj _)).trans he);clear he;go_wp2_with fail
      go_roundw
      case rel=>exact⟨0+1,by omega,by go_num,HE3.o,HNEXT.o⟩
      case measure=>simp[intOf];omega
     ·obtain⟨pp,hpp⟩:∃ p,l[k - 1]?=some p:=⟨_,List.getElem?_eq_getElem (by omega)⟩
      obtain⟨z,zy⟩:=pp
      have hqp:=jab (jab (hcell (k - 1) (z,zy) hpp).1 HE.o) ((ExtR wr).alloc (.cells #[.string x,.string y] 95));have QP:=Hd hqp;have hgp:l.getD (k - 1) (⟨#[]⟩,⟨#[]⟩)=(z,zy):=by rw[List.getD_eq_getElem?_getD,hpp];rfl
      have c0:(0:Int) < (k:Int):=by omega
      have d0:0 < k:=by omega
      have c1:(0:Int)≤(k:Int) - 1:=by omega
      have c2:(k:Int) - 1 < (l.length:Int):=by omega
      have c3:((k:Int) - 1).toNat=k - 1:=by omega
      have HK:=Hd hk1;have HVV:=Hd hv1;cases hls:Op.bytesLess z.toList x.toList with
      | false =>
       have HBAD:=Hd (hbadk (by unfold badN jb4;rw[hgd,hk1,hv1,hgp];simp only;rw[hls];simp;omega));clear hk1 hv1 hgd hsx hq0 hq1 hbadk hnext hcell hp hk0 hpp hqp hgp;go_wp2_with fail
       refine jad (List.range 25) Ext ExtR ExtT (by kernel_rfl) (by kernel_rfl) (by kernel_rfl) ?_;simp only[List.range,List.range.loop]
       (refine jac _ rfl (by kernel_rfl) rfl rfl (fun K hK=>?_);go_big_quiet_op;refine hK _ ?_;clear hK K)
       refine jai ⟨wr.heap.size,0,none⟩ _ rfl (by kernel_rfl) rfl rfl (fun w2 h2=>jaa Tryz.uStr rfl (jab (by exact Q0.o) h2)) ?_;simp only[Act.put,sA,sB,sC];refine jav _ 103 #[.string x] (.bool true) rfl (by kernel_rfl) rfl (fun w1=>jan Tryz.enterKeyed (by kernel_rfl)) (fun w1 h1=>(jea w1 x (by have:=HSX.o;omega)).mono (fun e w2 ⟨h1,h2⟩=>⟨by rw[h1,HK.o],h2 ▸ ExtR w1⟩)) ?_;simp only[Act.put,sA,sB,sC];iterate 3 (refine jac _ rfl (by kernel_rfl) rfl rfl (fun K hK=>?_);go_big_quiet_op;refine hK _ ?_;clear hK K)
       refine jai ⟨wr.heap.size,1,none⟩ _ rfl (by kernel_rfl) rfl rfl (fun w2 h2=>jaa Tryz.uStr rfl (jab (by exact Q1.o) h2)) ?_;simp only[Act.put,sA,sB,sC];refine jav _ 104 #[.string y] (.bool true) rfl (by kernel_rfl) rfl (fun w1=>jan Tryz.enterValued (by kernel_rfl)) (fun w1 h1=>(jdU w1 y (by have:=HSY.o;omega)).mono (fun e w2 ⟨h1,h2⟩=>⟨by rw[h1,HVV.o],h2 ▸ ExtR w1⟩)) ?_;simp only[Act.put,sA,sB,sC];iterate 11 (refine jac _ rfl (by kernel_rfl) rfl rfl (fun K hK=>?_);go_big_quiet_op;refine hK _ ?_;clear hK K)
       refine jai ⟨b,o+(k - 1) * 2,none⟩ _ rfl (by kernel_rfl) rfl rfl (fun w2 h2=>jaa Tryz.uStr rfl (jab (by exact QP.o) h2)) ?_;simp only[Act.put,sA,sB,sC]
       (refine jac _ rfl (by kernel_rfl) rfl rfl (fun K hK=>?_);go_big_quiet_op;refine hK _ ?_;clear hK K)
       refine jai ⟨wr.heap.size,0,none⟩ _ rfl (by kernel_rfl) rfl rfl (fun w2 h2=>jaa Tryz.uStr rfl (jab (by exact Q0.o) h2)) ?_;simp only[Act.put,sA,sB,sC];iterate 3 (refine jac _ rfl (by kernel_rfl) rfl rfl (fun K hK=>?_);go_big_quiet_op;refine hK _ ?_;clear hK K)
       refine jas (by kernel_rfl) (fun w3 he=>?_);have HE3:=Hd (((HE.o.alloc _).trans (jaj _)).trans he);clear he;go_wp2_with fail
       go_ret
       exact⟨by rw[HBAD.o];rfl,HE3.o⟩
      | true =>
       have HNEXT:=Hd (hnext (by unfold badN jb4;rw[hgd,hk1,hv1,hgp];simp only;rw[hls];simp));clear hk1 hv1 hgd hsx hq0 hq1 hbadk hnext hcell hp hk0 hpp hqp hgp;go_wp2_with fail
       refine jad (List.range 25) Ext ExtR ExtT (by kernel_rfl) (by kernel_rfl) (by kernel_rfl) ?_;simp only[List.range,List.range.loop]
       (refine jac _ rfl (by kernel_rfl) rfl rfl (fun K hK=>?_);go_big_quiet_op;refine hK _ ?_;clear hK K)
       refine jai ⟨wr.heap.size,0,none⟩ _ rfl (by kernel_rfl) rfl rfl (fun w2 h2=>jaa Tryz.uStr rfl (jab (by exact Q0.o) h2)) ?_;simp only[Act.put,sA,sB,sC];refine jav _ 103 #[.string x] (.bool true) rfl (by kernel_rfl) rfl (fun w1=>jan Tryz.enterKeyed (by kernel_rfl)) (fun w1 h1=>(jea w1 x (by have:=HSX.o;omega)).mono (fun e w2 ⟨h1,h2⟩=>⟨by rw[h1,HK.o],h2 ▸ ExtR w1⟩)) ?_;simp only[Act.put,sA,sB,sC];iterate 3 (refine jac _ rfl (by kernel_rfl) rfl rfl (fun K hK=>?_);go_big_quiet_op;refine hK _ ?_;clear hK K)
       refine jai ⟨wr.heap.size,1,none⟩ _ rfl (by kernel_rfl) rfl rfl (fun w2 h2=>jaa Tryz.uStr rfl (jab (by exact Q1.o) h2)) ?_;simp only[Act.put,sA,sB,sC];refine jav _ 104 #[.string y] (.bool true) rfl (by kernel_rfl) rfl (fun w1=>jan Tryz.enterValued (by kernel_rfl)) (fun w1 h1=>(jdU w1 y (by have:=HSY.o;omega)).mono (fun e w2 ⟨h1,h2⟩=>⟨by rw[h1,HVV.o],h2 ▸ ExtR w1⟩)) ?_;simp only[Act.put,sA,sB,sC];iterate 11 (refine jac _ rfl (by kernel_rfl) rfl rfl (fun K hK=>?_);go_big_quiet_op;refine hK _ ?_;clear hK K)
       refine jai ⟨b,o+(k - 1) * 2,none⟩ _ rfl (by kernel_rfl) rfl rfl (fun w2 h2=>jaa Tryz.uStr rfl (jab (by exact QP.o) h2)) ?_;simp only[Act.put,sA,sB,sC]
       (refine jac _ rfl (by kernel_rfl) rfl rfl (fun K hK=>?_);go_big_quiet_op;refine hK _ ?_;clear hK K)
       refine jai ⟨wr.heap.size,0,none⟩ _ rfl (by kernel_rfl) rfl rfl (fun w2 h2=>jaa Tryz.uStr rfl (jab (by exact Q0.o) h2)) ?_;simp only[Act.put,sA,sB,sC];iterate 3 (refine jac _ rfl (by kernel_rfl) rfl rfl (fun K hK=>?_);go_big_quiet_op;refine hK _ ?_;clear hK K)
       refine jas (by kernel_rfl) (fun w3 he=>?_);have HE3:=Hd (((HE.o.alloc _).trans (jaj _)).trans he);clear he;go_wp2_with fail
       go_roundw
       case rel=>exact⟨k+1,by omega,by go_num,HE3.o,HNEXT.o⟩
       case measure=>simp[intOf];omega
  ·have hkl:k=l.length:=by omega
   subst hkl
   by_cases h40:40 < l.length
   ·have c4:(40:Int) < (l.length:Int):=by omega
    have e:jaD l=12:=by unfold jaD;rw[if_neg (by rw[HALL.o];simp),if_pos h40]
    have E:=Hd e;clear e;go_wp2_with fail
    go_ret
    exact⟨by rw[E.o];rfl,HE.o⟩
   ·have c4:¬(40:Int) < (l.length:Int):=by omega
    have e:jaD l=0:=by unfold jaD;rw[if_neg (by rw[HALL.o];simp),if_neg h40]
    have E:=Hd e;clear e;go_wp2_with fail
    go_ret
    exact⟨by rw[E.o];rfl,HE.o⟩
end
end Go.Proofs.YtcpnjmcipainpaaGreatDoor
