/- Parts of the proof, one behind the other: TrK, TrL, TrM, TrN, TrNb, TrO. Each is under no condition but those that it states. -/
import Derived.Test.YtpaacnhboilkkaaGreatDoorPh44
import Derived.Test.YtpaacnhboilkkaaGreatDoorPh29
import Derived.Test.YtpaacnhboilkkaaGreatDoorPh38
namespace Go.Proofs.YtpaacnhboilkkaaGreatDoor
set_option linter.unusedSimpArgs false
set_option linter.unusedVariables false
set_option maxRecDepth 100000
set_option maxHeartbeats 16000000
section
open Go Go.RowKit
attribute [local go_sem] Oper.semAt_some
def cutV(s p:ByteArray):Value:=if preB p s then .tuple #[.string (s.extract p.size s.size),.bool true]else .tuple #[.string s,.bool false]
theorem jj7(w:World)(s p:ByteArray)(hs:s.size≤1000000)(hp:p.size≤1000000):Calls Tryz.prog 235 #[.string s,.string p] w fun e w'=>e=.returned (cutV s p)∧w'=w:=by
 unfold cutV;cases hb:preB p s with
 | true =>
  have hle:=js0 hb;have c1:(p.size:Int)≤(s.size:Int):=by omega
  have HB:=Hd hb;clear hb;go_enter Tryz.func235,Tryz.ntmps235;go_wp2_with fail
  refine (jjt w s p hs hp).mono ?_;rintro e w1 ⟨rfl,rfl⟩;rw[HB.o];go_wp2_with fail
  go_ret2
  exact⟨rfl,rfl⟩
 | false =>
  have HB:=Hd hb;clear hb;go_enter Tryz.func235,Tryz.ntmps235;go_wp2_with fail
  refine (jjt w s p hs hp).mono ?_;rintro e w1 ⟨rfl,rfl⟩;rw[HB.o];go_wp2_with fail
  go_ret2
  exact⟨rfl,rfl⟩
theorem jhp(w:World)(s p:ByteArray)(hs:s.size≤1000000)(hp:p.size≤1000000):Calls Tryz.prog 219 #[.string s,.string p] w fun e w'=>e=.returned (cutV s p)∧w'=w:=by
 have H:=Hd (jj7 w s p hs hp);unfold cutV at *;cases hb:preB p s with
 | true =>
  rw[hb,if_pos rfl]at H;rw[if_pos rfl];clear hb;go_enter Tryz.func219,Tryz.ntmps219;go_wp2_with fail
  refine H.o.mono ?_;rintro e w1 ⟨rfl,rfl⟩;go_wp2_with fail
  go_ret2
  exact⟨rfl,rfl⟩
 | false =>
  rw[hb,if_neg ff]at H;rw[if_neg ff];clear hb;go_enter Tryz.func219,Tryz.ntmps219;go_wp2_with fail
  refine H.o.mono ?_;rintro e w1 ⟨rfl,rfl⟩;go_wp2_with fail
  go_ret2
  exact⟨rfl,rfl⟩
def joG(P:PA):Prop:=∀ (W:World) (T:TypeId) (x:Value) (D:Nat→Prop) (p:ByteArray),PaO P (.iface T x) D W→p.size≤900000→jaL p=true→Dp P 900000 →
 Calls Tryz.prog (jeX P) #[x,.string p] W (PaTo D W (jbT P p))
theorem jsL(W:World)(D:Nat→Prop)(p:ByteArray):Calls Tryz.prog 303 #[.agg #[],.string p] W (PaTo D W .no):=by
 go_enter Tryz.func303,Tryz.ntmps303;go_wp2_with fail
 go_ret;exact PaTo.mk1 rfl (((ExtR W).alloc _).mono (fun _ _ e=>e.elim))
theorem juO(W:World)(D:Nat→Prop)(q v p:ByteArray)(b:Nat)(hB:Blk W b (.cells #[.string q,.string v] 267))(hD:D b):Calls Tryz.prog 289 #[.pointer (some ⟨b,0,none⟩),.string p] W (PaTo D W (jbT (.leaf q v) p)):=by
 have q0:=hB.cell (i:=0) (v:=.string q) (by rfl);have HB:=Hd hB;have HD:=Hd hD;have e1:jbT (.leaf q v) p=if p=q then .no else .leaf q v:=rfl
 rw[e1];clear hB hD e1
 by_cases hpq:p=q
 ·rw[if_pos hpq]
  have heq:(p.toList == q.toList)=true:=by rw[jji];exact decide_eq_true hpq
  clear hpq;go_enter Tryz.func289,Tryz.ntmps289;go_wp2_with fail
  go_ret;exact PaTo.mk1 rfl (jac.refl _ W)
 ·rw[if_neg hpq]
  have heq:(p.toList == q.toList)=false:=by rw[jji];exact decide_eq_false hpq
  clear hpq;go_enter Tryz.func289,Tryz.ntmps289;go_wp2_with fail
  go_ret;exact PaTo.mk1 ⟨b,rfl,.inl HD.o,HB.o⟩ (jac.refl _ W)
theorem jff:∀ (P:PA) (p:ByteArray),(jbT P p).isNil=false
 | .nil,_=>rfl
 | .no,_=>rfl
 | .leaf q v,p=>by
  unfold jbT;split <;> rfl
 | .ext q n,p=>by
  unfold jbT;split
  ·exact jdD (jff n _)
  ·rfl
 | .br v ks,p=>by
  have hl:∀ v ks,(jdu v ks).isNil=false:=by
   intro v ks;have hm:∀ i∈idxK ks,(ks i).isNil=false:=fun i hi=>by
    have:=(List.mem_filter.1 hi).2
    simpa using this
   unfold jdu;cases e:idxK ks with
   | nil =>
    show (if v.size=0 then PA.no else .leaf ⟨#[]⟩ v).isNil=false;split <;> rfl
   | cons i r =>
    cases r with
    | nil =>
     show (if v.size=0 then jcm ⟨#[UInt8.ofNat i]⟩ (ks i)else .br v ks).isNil=false;split
     ·exact jdD (hm i (by rw[e];exact List.mem_cons_self))
     ·rfl
    | cons j r=>rfl
  unfold jbT;split
  ·exact hl _ _
  ·split
   ·rfl
   ·exact hl _ _
theorem jsg(W:World)(D:Nat→Prop)(q:ByteArray)(n:PA)(T:TypeId)(x:Value)(Dn:Nat→Prop)(b:Nat)(hB:Blk W b (.cells #[.string q,.iface T x] 270))(hDb:D b)(hv:PaAt n (.iface T x) Dn W)(hbn:¬ Dn b)(hD:∀ x,Dn x→D x∧x < W.heap.size)(p:ByteArray)(hp:jaL p=true)(hqs:q.size≤900000)(hps:p.size≤900000)(hf:preB q p=false):Calls Tryz.prog 295 #[.pointer (some ⟨b,0,none⟩),.string p] W (PaTo D W (.ext q n)):=by
 have q0:=hB.cell (i:=0) (v:=.string q) (by rfl);have q1:=hB.cell (i:=1) (v:=.iface T x) (by rfl);have Q0:=Hd q0;have Q1:=Hd q1;have HB:=Hd hB;have HV:=Hd hv;have HD:=Hd (show ∀ z,Dn z→D z∧z < W.heap.size from hD);have HK:=Hd (And.intro hDb hbn);have hcp:=jhp W p q (by omega) (by omega);unfold cutV at hcp;rw[hf,if_neg ff]at hcp;have HC:=Hd hcp;clear hB hDb hv hbn hD hp hf hcp;go_enter Tryz.func295,Tryz.ntmps295;go_wp2_with fail
 refine HC.o.mono ?_;rintro e w1 ⟨rfl,rfl⟩;go_wp2_with fail
 go_ret;exact PaTo.mk1 ⟨b,T,x,Dn,rfl,.inl HK.o.1,HB.o,HV.o,HK.o.2,fun z hz=>.inl (HD.o z hz).1⟩ (jac.refl _ _)
theorem jsf(W:World)(D:Nat→Prop)(q:ByteArray)(n:PA)(T:TypeId)(x:Value)(Dn:Nat→Prop)(b:Nat)(hB:Blk W b (.cells #[.string q,.iface T x] 270))(hDb:D b)(hv:PaAt n (.iface T x) Dn W)(hbn:¬ Dn b)(hD:∀ x,Dn x→D x∧x < W.heap.size)(p:ByteArray)(hp:jaL p=true)(hqs:q.size≤900000)(hps:p.size≤900000)(hd:Dp n 900000)(hk:joG n)(hf:preB q p=true) :
  Calls Tryz.prog 295 #[.pointer (some ⟨b,0,none⟩),.string p] W (PaTo D W (jcm q (jbT n (p.extract q.size p.size)))):=by
 have q0:=hB.cell (i:=0) (v:=.string q) (by rfl);have q1:=hB.cell (i:=1) (v:=.iface T x) (by rfl);have Q0:=Hd q0;have Q1:=Hd q1;have HB:=Hd hB;have HV:=Hd hv;have HD:=Hd (show ∀ z,Dn z→D z∧z < W.heap.size from hD);have hcp:=jhp W p q (by omega) (by omega);unfold cutV at hcp;rw[hf,if_pos rfl]at hcp;have HC:=Hd hcp;have hbl:=hB.lt;have HNB:=Hd (show ¬(Dn b∨W.heap.size≤b)from fun e=>e.elim hbn (fun e=>by omega));have hval:jaL (p.extract q.size p.size)=true:=jbr hp _ _;have hsz:(p.extract q.size p.size).size≤900000:=by rw[ja0];omega
 have HM:=Hd hv.meth;have CALLEE:=Hd (show ∀ wb,Ext W wb→Calls Tryz.prog (jeX n) #[x,.string (p.extract q.size p.size)] wb (PaTo Dn wb (jbT n (p.extract q.size p.size)))from fun wb e=>hk wb T x Dn _ ⟨hv.keeps e _ _ _ (fun _ _ e=>e),fun z hz=>Nat.lt_of_lt_of_le (hD z hz).2 e.size⟩ hsz hval hd);have HDP:=Hd (show Dp (jbT n (p.extract q.size p.size)) 1000000 from jcl _ _ _ (jhv n 900000 _ hd) (by omega));clear hB hDb hv hbn hD hp hd hk hf hval hsz hcp hbl;go_enter Tryz.func295,Tryz.ntmps295;go_wp2_with fail
 refine HC.o.mono ?_;rintro e Wk ⟨rfl,rfl⟩;go_wp2_with fail
 refine ja1 [0,1,2,3,4,5,6,7,8,9,10,11] [9,10] Ext (jac (fun z=>Dn z∨Wk.heap.size≤z)) ExtR ExtT (fun x y z h k=>jac.trans h k) (fun x y h=>h.mono (fun _ _ h=>h.elim)) (by kernel_rfl) (by kernel_rfl) (by kernel_rfl) ?_
 (refine jai _ rfl (by kernel_rfl) rfl rfl (fun K hK=>?_);go_big_quiet_op;refine hK _ ?_;clear hK K)
 refine jbB _ ((.pointer (some ⟨b,0,none⟩))) rfl (by kernel_rfl) rfl (fun w1 _=>by kernel_rfl) ?_;simp only[Act.put,sA,sB,sC]
 (refine jai _ rfl (by kernel_rfl) rfl rfl (fun K hK=>?_);go_big_quiet_op;refine hK _ ?_;clear hK K)
 refine jaX ⟨b,0,none⟩ _ rfl (by kernel_rfl) rfl rfl (fun w1 h1=>jav (fun w=>by kernel_rfl) (jat Q0.o (((jac.refl (fun z=>Dn z∨Wk.heap.size≤z) Wk).drew).trans h1) (by exact HNB.o))) ?_;simp only[Act.put,sA,sB,sC]
 (refine jai _ rfl (by kernel_rfl) rfl rfl (fun K hK=>?_);go_big_quiet_op;refine hK _ ?_;clear hK K)
 refine jbB _ ((.pointer (some ⟨b,0,none⟩))) rfl (by kernel_rfl) rfl (fun w1 _=>by kernel_rfl) ?_;simp only[Act.put,sA,sB,sC]
 (refine jai _ rfl (by kernel_rfl) rfl rfl (fun K hK=>?_);go_big_quiet_op;refine hK _ ?_;clear hK K)
 refine jaX ⟨b,1,none⟩ _ rfl (by kernel_rfl) rfl rfl (fun w1 h1=>jav (fun w=>by kernel_rfl) (jat Q1.o (((jac.refl (fun z=>Dn z∨Wk.heap.size≤z) Wk).drew).trans h1) (by exact HNB.o))) ?_;simp only[Act.put,sA,sB,sC]
 (refine jai _ rfl (by kernel_rfl) rfl rfl (fun K hK=>?_);go_big_quiet_op;refine hK _ ?_;clear hK K)
 refine jaY _ rfl (by kernel_rfl) rfl (fun wb hb K hK=>?_);have kb:Ext Wk wb:=((ExtR Wk).drew).trans hb;refine jby (jcJ (f:=jeX n) (vs:=#[.string (p.extract q.size p.size)]) rfl (HM.o.drop _) (jfg _) (by kernel_rfl)) ?_;refine (CALLEE.o wb kb).mono ?_;rintro e w2 ⟨v2,rfl,hP2,hk2⟩
 refine⟨v2,rfl,hK _ _ (hk2.mono (fun z _ hz=>.inl hz)) ?_⟩
 have HS:=Hd (And.intro kb (And.intro hP2 hk2));clear hK K hb kb hP2 hk2;simp only[Act.put,sA,sB,sC];refine jaY _ rfl (by kernel_rfl) rfl (fun wc hc K hK=>?_)
 obtain⟨kb,hP2,hk2⟩:=HS.o
 have kc:jac Dn wb wc:=hk2.trans (hc.mono (fun _ _ e=>e.elim));have hPc:PaAt (jbT n (p.extract q.size p.size)) v2 (Grow Dn wb wc) wc:=(hP2.keeps hc _ _ _ (fun _ _ e=>e)).mono (fun z hz=>hz.imp id (fun e=>⟨e.1,Nat.lt_of_lt_of_le e.2 hc.size⟩));have hOc:=PaTo.own hPc kc (fun z hz=>Nat.lt_of_lt_of_le (HD.o z hz).2 kb.size);refine jby (jaA Tryz.enterPj (by kernel_rfl)) ((pj_c wc _ q _ v2 hOc (jff _ _) (by omega) HDP.o).mono ?_);rintro e w5 ⟨v5,rfl,hP5,hE5⟩
 refine⟨v5,rfl,hK _ _ (hE5.mono (fun _ _ e=>e.elim)) ?_⟩
 have HZ:=Hd (And.intro kc (And.intro hP5 (And.intro hE5 (jew hOc.lt hE5))));clear hK K hc kb hP2 hk2 kc hPc hOc hP5 hE5;simp only[Act.put,sA,sB,sC]
 (refine jai _ rfl (by kernel_rfl) rfl rfl (fun K hK=>?_);go_big_quiet_op;refine hK _ ?_;clear hK K)
 refine jcd (by kernel_rfl) (fun wd hd=>?_);have HQ:=Hd hd;clear hd;go_wp2_with fail
 go_ret
 obtain⟨kb,_,_⟩:=HS.o
 obtain⟨kc,hP5,hE5,hl5⟩:=HZ.o
 have hd:=HQ.o;refine PaTo.mk1 ((hP5.keeps hd _ _ _ (fun _ _ e=>e)).mono (fun z hz=>?_)) (((kb.mono (fun _ _ e=>e.elim):jac D Wk wb).trans (kc.mono (fun z _ hz=>(HD.o z hz).1))).trans ((hE5.trans hd).mono (fun _ _ e=>e.elim)));have hzl:=Nat.lt_of_lt_of_le (hl5 z hz) hd.size;rcases hz with (hz | hz) | hz
 ·exact .inl (HD.o z hz).1
 ·exact .inr ⟨Nat.le_trans kb.size hz.1,hzl⟩
 ·exact .inr ⟨Nat.le_trans (Nat.le_trans kb.size kc.size) hz.1,hzl⟩
theorem Tryz.uKids:Tryz.prog.underlying 272=some (.array 16 94):=by kernel_rfl
theorem Tryz.iKids:(Tryz.prog.info? 272).map (·.size)=some 16:=by kernel_rfl
theorem Tryz.partOne:(Tryz.prog.info? 94).map (·.size)=some 1:=by kernel_rfl
theorem Tryz.partAgg(w:World):(isAgg 94).run Tryz.prog w=.ok false w:=by kernel_rfl
def jn5(vk:Nat→Value):List Value:=(List.range 16).map vk
theorem jsz(vk:Nat→Value){i:Nat}(h:i < 16):(jn5 vk)[i]?=some (vk i):=by
 unfold jn5;rw[List.getElem?_map,List.getElem?_range h];rfl
theorem jbk{W:World}{b:Nat}{u:ByteArray}{vk:Nat→Value}(hB:Blk W b (.cells (brC u vk).toArray 274)):(Instr.loadAt 272 (.pointer (some ⟨b,1,none⟩))).run Tryz.prog W=.ok (.agg (jn5 vk).toArray) W:=by
 have hrg:W.rangeAt b 1 (jn5 vk):=fun j v hv=>hB.cellL (by rw[Nat.add_comm];exact hv);have hld:=run_loadVar_mid (P:=Tryz.prog) W b 1 272 _ _ hrg Tryz.uKids rfl (by unfold jn5;simp only[List.length_map,List.length_range];exact Tryz.iKids);simp[Instr.loadAt,Instr.sureAddr,Sem.run_bind,Result.andThen,hld]
theorem jeB(vk:Nat→Value){i:Nat}(h:i < 16)(w:World):(Instr.index 272 (.agg (jn5 vk).toArray) (.int .i64 (i:Int))).run Tryz.prog w=.ok (vk i) w:=
 jeA Tryz.uKids Tryz.partOne Tryz.partAgg _ i h _ (jsz vk h) w
theorem jdA(T:TypeId)(x:Value)(w:World):(binOp .neq 94 (.iface T x) .nilIface).run Tryz.prog w=.ok (.bool true) w:=by kernel_rfl
theorem jjj(w:World):(binOp .neq 94 .nilIface .nilIface).run Tryz.prog w=.ok (.bool false) w:=by kernel_rfl
def idxN(ks:Nat→PA)(k:Nat):List Nat:=(List.range k).filter fun i => !(ks i).isNil
theorem jeU(ks:Nat→PA)(k:Nat):idxN ks (k+1)=idxN ks k++(if (ks k).isNil then []else [k]):=by
 unfold idxN;rw[List.range_succ,List.filter_append]
 congr 1
 cases h:(ks k).isNil <;> simp[h]
theorem PaAt.kid{P:PA}{v:Value}{D:Nat→Prop}{W:World}(h:PaAt P v D W):(P.isNil=true∧v=.nilIface)∨(P.isNil=false∧∃ T x,v=.iface T x):=by
 cases hn:P.isNil with
 | true=>rw[jbA hn]at h;exact .inl ⟨rfl,h⟩
 | false=>exact .inr ⟨rfl,h.form hn⟩
def joJ(ks:Nat→PA)(W:World)(cv ov iv:Value)(wr:World):Prop:=∃ (k c o:Nat),k≤16∧iv=.int .i64 (k:Int)∧cv=.int .i64 (c:Int)∧ov=.int .i64 (o:Int)∧wr=W∧c=(idxN ks k).length∧o=(idxN ks k).getLast?.getD 0
theorem joa(wr:World)(D:Nat→Prop)(v:ByteArray)(ks:Nat→PA)(b:Nat)(h:PaO (.br v ks) (brV b) D wr)(hi:idxK ks=[])(hv:v.size=0) :
  Calls Tryz.prog 302 #[.pointer (some ⟨b,0,none⟩)] wr (PaTo D wr .no):=by
 obtain⟨vk,Dk,hb⟩:=h.br
 have hla:=jbk hb.blk;have q0:=hb.blk.cellL (i:=0) (v:=.string v) (by rfl);have H:=Hd hb;have hem:(⟨#[]⟩:ByteArray).toList.isEmpty=true:=by rw[ByteArray.toList_eq];rfl
 obtain⟨W,hW⟩:∃ W,W=wr:=⟨_,rfl⟩
 have hve:=jbF hv;subst hve;have HI:=Hd hi;clear h hb hi hv;rw[←hW]at hla q0 H ⊢;clear hW;go_enter Tryz.func302,Tryz.ntmps302;go_wp2_with (refine jae 272 (.tmp 9) rfl rfl _ _ rfl hla ?_)
 go_loopw [3,4,11] (fun cv ov iv wr=>joJ ks W cv ov iv wr) (fun _ _ iv _=>16 - (intOf iv).toNat)
 case atStart=>exact⟨0,0,0,by omega,rfl,rfl,rfl,rfl,rfl,rfl⟩
 case round =>
  obtain⟨k,c,o,hk,rfl,rfl,rfl,rfl,hc,ho⟩:=hrel
  by_cases hlt:k < 16
  ·have hix:=jeB vk hlt
   have hst:=jeU ks k;have hcl:c≤16:=by rw[hc];exact Nat.le_trans (List.length_filter_le _ _) (by rw[List.length_range];omega)
   have HCO:=Hd (And.intro hc ho);rcases (H.o.kid k hlt).1.kid with⟨hn,hv⟩ |⟨hn,T,x,hv⟩
   ·rw[hn,if_pos rfl,List.append_nil]at hst
    rw[hv]at hix;have HST:=Hd hst;clear hst hc ho hn hv;go_wp2;go_roundw
    case rel=>exact⟨k+1,c,o,by omega,by go_num,rfl,rfl,rfl,by rw[HST.o];exact HCO.o.1,by rw[HST.o];exact HCO.o.2⟩
    case measure=>simp[intOf];omega
   ·rw[hn,if_neg ff]at hst
    rw[hv]at hix;have hq:=jdA T x;have HST:=Hd hst;clear hst hc ho hn hv;go_wp2;go_roundw
    case rel=>exact⟨k+1,c+1,k,by omega,by go_num,by go_num,rfl,rfl,by rw[HST.o,List.length_append, ←HCO.o.1];rfl,by rw[HST.o];simp⟩
    case measure=>simp[intOf];omega
  ·obtain rfl:k=16:=by omega
   have HCO:=Hd (And.intro hc ho);clear hc ho;have hc0:c=0:=by rw[HCO.o.1];show (idxK ks).length=0;rw[HI.o];rfl
   subst hc0;go_wp2_with fail
   go_ret;exact PaTo.mk1 rfl (jac.refl _ _)
theorem jn9(wr:World)(D:Nat→Prop)(v:ByteArray)(ks:Nat→PA)(b:Nat)(h:PaO (.br v ks) (brV b) D wr)(hi:idxK ks=[])(hv:v.size≠0) :
  Calls Tryz.prog 302 #[.pointer (some ⟨b,0,none⟩)] wr (PaTo D wr (.leaf ⟨#[]⟩ v)):=by
 obtain⟨vk,Dk,hb⟩:=h.br
 have hla:=jbk hb.blk;have q0:=hb.blk.cellL (i:=0) (v:=.string v) (by rfl);have H:=Hd hb;have hem:(⟨#[]⟩:ByteArray).toList.isEmpty=true:=by rw[ByteArray.toList_eq];rfl
 have hve:=jc9 hv;clear hv
 obtain⟨W,hW⟩:∃ W,W=wr:=⟨_,rfl⟩
 have HI:=Hd hi;rw[←hW]at hla q0 H ⊢;clear h hb hi hW;go_enter Tryz.func302,Tryz.ntmps302;go_wp2_with (refine jae 272 (.tmp 9) rfl rfl _ _ rfl hla ?_)
 go_loopw [3,4,11] (fun cv ov iv wr=>joJ ks W cv ov iv wr) (fun _ _ iv _=>16 - (intOf iv).toNat)
 case atStart=>exact⟨0,0,0,by omega,rfl,rfl,rfl,rfl,rfl,rfl⟩
 case round =>
  obtain⟨k,c,o,hk,rfl,rfl,rfl,rfl,hc,ho⟩:=hrel
  by_cases hlt:k < 16
  ·have hix:=jeB vk hlt
   have hst:=jeU ks k;have hcl:c≤16:=by rw[hc];exact Nat.le_trans (List.length_filter_le _ _) (by rw[List.length_range];omega)
   have HCO:=Hd (And.intro hc ho);rcases (H.o.kid k hlt).1.kid with⟨hn,hv⟩ |⟨hn,T,x,hv⟩
   ·rw[hn,if_pos rfl,List.append_nil]at hst
    rw[hv]at hix;have HST:=Hd hst;clear hst hc ho hn hv;go_wp2;go_roundw
    case rel=>exact⟨k+1,c,o,by omega,by go_num,rfl,rfl,rfl,by rw[HST.o];exact HCO.o.1,by rw[HST.o];exact HCO.o.2⟩
    case measure=>simp[intOf];omega
   ·rw[hn,if_neg ff]at hst
    rw[hv]at hix;have hq:=jdA T x;have HST:=Hd hst;clear hst hc ho hn hv;go_wp2;go_roundw
    case rel=>exact⟨k+1,c+1,k,by omega,by go_num,by go_num,rfl,rfl,by rw[HST.o,List.length_append, ←HCO.o.1];rfl,by rw[HST.o];simp⟩
    case measure=>simp[intOf];omega
  ·obtain rfl:k=16:=by omega
   have HCO:=Hd (And.intro hc ho);clear hc ho;have hc0:c=0:=by rw[HCO.o.1];show (idxK ks).length=0;rw[HI.o];rfl
   subst hc0;go_wp2_with fail
   go_ret;have hB:=Blk.new wr (.cells #[.string ⟨#[]⟩,.string v] 267);exact PaTo.mk1 ⟨_,rfl,.inr ⟨Nat.le_refl _,hB.lt⟩,hB⟩ (((ExtR wr).alloc _).mono (fun _ _ e=>e.elim))
theorem jlO(wr:World)(D:Nat→Prop)(v:ByteArray)(ks:Nat→PA)(b:Nat)(h:PaO (.br v ks) (brV b) D wr)(i:Nat)(hi:idxK ks=[i])(hv:v.size≠0) :
  Calls Tryz.prog 302 #[.pointer (some ⟨b,0,none⟩)] wr (PaTo D wr (.br v ks)):=by
 obtain⟨vk,Dk,hb⟩:=h.br
 have hla:=jbk hb.blk;have q0:=hb.blk.cellL (i:=0) (v:=.string v) (by rfl);have H:=Hd hb;have hem:(⟨#[]⟩:ByteArray).toList.isEmpty=true:=by rw[ByteArray.toList_eq];rfl
 have hve:=jc9 hv;clear hv
 obtain⟨W,hW⟩:∃ W,W=wr:=⟨_,rfl⟩
 have HI:=Hd hi;rw[←hW]at hla q0 H ⊢;clear h hb hi hW;go_enter Tryz.func302,Tryz.ntmps302;go_wp2_with (refine jae 272 (.tmp 9) rfl rfl _ _ rfl hla ?_)
 go_loopw [3,4,11] (fun cv ov iv wr=>joJ ks W cv ov iv wr) (fun _ _ iv _=>16 - (intOf iv).toNat)
 case atStart=>exact⟨0,0,0,by omega,rfl,rfl,rfl,rfl,rfl,rfl⟩
 case round =>
  obtain⟨k,c,o,hk,rfl,rfl,rfl,rfl,hc,ho⟩:=hrel
  by_cases hlt:k < 16
  ·have hix:=jeB vk hlt
   have hst:=jeU ks k;have hcl:c≤16:=by rw[hc];exact Nat.le_trans (List.length_filter_le _ _) (by rw[List.length_range];omega)
   have HCO:=Hd (And.intro hc ho);rcases (H.o.kid k hlt).1.kid with⟨hn,hv⟩ |⟨hn,T,x,hv⟩
   ·rw[hn,if_pos rfl,List.append_nil]at hst
    rw[hv]at hix;have HST:=Hd hst;clear hst hc ho hn hv;go_wp2;go_roundw
    case rel=>exact⟨k+1,c,o,by omega,by go_num,rfl,rfl,rfl,by rw[HST.o];exact HCO.o.1,by rw[HST.o];exact HCO.o.2⟩
    case measure=>simp[intOf];omega
   ·rw[hn,if_neg ff]at hst
    rw[hv]at hix;have hq:=jdA T x;have HST:=Hd hst;clear hst hc ho hn hv;go_wp2;go_roundw
    case rel=>exact⟨k+1,c+1,k,by omega,by go_num,by go_num,rfl,rfl,by rw[HST.o,List.length_append, ←HCO.o.1];rfl,by rw[HST.o];simp⟩
    case measure=>simp[intOf];omega
  ·obtain rfl:k=16:=by omega
   have HCO:=Hd (And.intro hc ho);clear hc ho;have hc0:c=1:=by rw[HCO.o.1];show (idxK ks).length=1;rw[HI.o];rfl
   subst hc0;go_wp2_with fail
   go_ret;exact PaTo.mk1 (H.o.pa.at'.mono (fun x hx=>.inl hx)) (jac.refl _ _)
theorem jlP(wr:World)(D:Nat→Prop)(v:ByteArray)(ks:Nat→PA)(b:Nat)(h:PaO (.br v ks) (brV b) D wr)(hi:2≤(idxK ks).length) :
  Calls Tryz.prog 302 #[.pointer (some ⟨b,0,none⟩)] wr (PaTo D wr (.br v ks)):=by
 obtain⟨vk,Dk,hb⟩:=h.br
 have hla:=jbk hb.blk;have q0:=hb.blk.cellL (i:=0) (v:=.string v) (by rfl);have H:=Hd hb;have hem:(⟨#[]⟩:ByteArray).toList.isEmpty=true:=by rw[ByteArray.toList_eq];rfl
 obtain⟨W,hW⟩:∃ W,W=wr:=⟨_,rfl⟩
 have HI:=Hd hi;rw[←hW]at hla q0 H ⊢;clear h hb hi hW;go_enter Tryz.func302,Tryz.ntmps302;go_wp2_with (refine jae 272 (.tmp 9) rfl rfl _ _ rfl hla ?_)
 go_loopw [3,4,11] (fun cv ov iv wr=>joJ ks W cv ov iv wr) (fun _ _ iv _=>16 - (intOf iv).toNat)
 case atStart=>exact⟨0,0,0,by omega,rfl,rfl,rfl,rfl,rfl,rfl⟩
 case round =>
  obtain⟨k,c,o,hk,rfl,rfl,rfl,rfl,hc,ho⟩:=hrel
  by_cases hlt:k < 16
  ·have hix:=jeB vk hlt
   have hst:=jeU ks k;have hcl:c≤16:=by rw[hc];exact Nat.le_trans (List.length_filter_le _ _) (by rw[List.length_range];omega)
   have HCO:=Hd (And.intro hc ho);rcases (H.o.kid k hlt).1.kid with⟨hn,hv⟩ |⟨hn,T,x,hv⟩
   ·rw[hn,if_pos rfl,List.append_nil]at hst
    rw[hv]at hix;have HST:=Hd hst;clear hst hc ho hn hv;go_wp2;go_roundw
    case rel=>exact⟨k+1,c,o,by omega,by go_num,rfl,rfl,rfl,by rw[HST.o];exact HCO.o.1,by rw[HST.o];exact HCO.o.2⟩
    case measure=>simp[intOf];omega
   ·rw[hn,if_neg ff]at hst
    rw[hv]at hix;have hq:=jdA T x;have HST:=Hd hst;clear hst hc ho hn hv;go_wp2;go_roundw
    case rel=>exact⟨k+1,c+1,k,by omega,by go_num,by go_num,rfl,rfl,by rw[HST.o,List.length_append, ←HCO.o.1];rfl,by rw[HST.o];simp⟩
    case measure=>simp[intOf];omega
  ·obtain rfl:k=16:=by omega
   have HCO:=Hd (And.intro hc ho);clear hc ho;have hc2:2≤c:=by rw[HCO.o.1];exact HI.o
   have g0:((c:Int) == 0)=false:=by simp;omega
   have g1:((c:Int) == 1)=false:=by simp;omega
   clear hc2;go_wp2_with fail
   go_ret;exact PaTo.mk1 (H.o.pa.at'.mono (fun x hx=>.inl hx)) (jac.refl _ _)
theorem jqf(wr:World)(D:Nat→Prop)(v:ByteArray)(ks:Nat→PA)(b:Nat)(h:PaO (.br v ks) (brV b) D wr)(i:Nat)(hi:idxK ks=[i])(hv:v.size=0)(hd:Dp (.br v ks) 900000) :
  Calls Tryz.prog 302 #[.pointer (some ⟨b,0,none⟩)] wr (PaTo D wr (jcm (nib1 i) (ks i))):=by
 obtain⟨vk,Dk,hb⟩:=h.br
 have hla:=jbk hb.blk;have q0:=hb.blk.cellL (i:=0) (v:=.string v) (by rfl);have H:=Hd hb;have hem:(⟨#[]⟩:ByteArray).toList.isEmpty=true:=by rw[ByteArray.toList_eq];rfl
 have hve:=jbF hv;subst hve;have HDD:=Hd hd;clear hv hd
 obtain⟨W,hW⟩:∃ W,W=wr:=⟨_,rfl⟩
 have HI:=Hd hi;rw[←hW]at hla q0 H ⊢;clear h hb hi hW;go_enter Tryz.func302,Tryz.ntmps302;go_wp2_with (refine jae 272 (.tmp 9) rfl rfl _ _ rfl hla ?_)
 go_loopw [3,4,11] (fun cv ov iv wr=>joJ ks W cv ov iv wr) (fun _ _ iv _=>16 - (intOf iv).toNat)
 case atStart=>exact⟨0,0,0,by omega,rfl,rfl,rfl,rfl,rfl,rfl⟩
 case round =>
  obtain⟨k,c,o,hk,rfl,rfl,rfl,rfl,hc,ho⟩:=hrel
  by_cases hlt:k < 16
  ·have hix:=jeB vk hlt
   have hst:=jeU ks k;have hcl:c≤16:=by rw[hc];exact Nat.le_trans (List.length_filter_le _ _) (by rw[List.length_range];omega)
   have HCO:=Hd (And.intro hc ho);rcases (H.o.kid k hlt).1.kid with⟨hn,hv⟩ |⟨hn,T,x,hv⟩
   ·rw[hn,if_pos rfl,List.append_nil]at hst
    rw[hv]at hix;have HST:=Hd hst;clear hst hc ho hn hv;go_wp2;go_roundw
    case rel=>exact⟨k+1,c,o,by omega,by go_num,rfl,rfl,rfl,by rw[HST.o];exact HCO.o.1,by rw[HST.o];exact HCO.o.2⟩
    case measure=>simp[intOf];omega
   ·rw[hn,if_neg ff]at hst
    rw[hv]at hix;have hq:=jdA T x;have HST:=Hd hst;clear hst hc ho hn hv;go_wp2;go_roundw
    case rel=>exact⟨k+1,c+1,k,by omega,by go_num,by go_num,rfl,rfl,by rw[HST.o,List.length_append, ←HCO.o.1];rfl,by rw[HST.o];simp⟩
    case measure=>simp[intOf];omega
  ·obtain rfl:k=16:=by omega
   have HCO:=Hd (And.intro hc ho);clear hc ho;have hc0:c=1:=by rw[HCO.o.1];show (idxK ks).length=1;rw[HI.o];rfl
   have ho0:o=i:=by rw[HCO.o.2];show (idxK ks).getLast?.getD 0=i;rw[HI.o];rfl
   subst hc0;have him:i∈idxK ks:=by rw[HI.o];exact List.mem_cons_self
   have hi16:i < 16:=List.mem_range.1 (List.mem_filter.1 him).1;have hnn:(ks i).isNil=false:=by have:=(List.mem_filter.1 him).2;simpa using this
   rw[←ho0]at him hi16 hnn;have HOI:=Hd ho0;have hkid:=H.o.kid o hi16
   obtain⟨T,x,hvk⟩:=hkid.1.form hnn
   have qk:=H.o.blk.cellL (jep ⟨#[]⟩ vk hi16);rw[hvk]at qk;have QK:=Hd qk;have HKI:=Hd (show PaAt (ks o) (.iface T x) (Dk o) wr∧(∀ z,Dk o z→z < wr.heap.size)∧(ks o).isNil=false∧Dp (ks o) 1000000 from⟨by rw[←hvk];exact hkid.1,fun z hz=>H.o.lt z (hkid.2.2 z hz),hnn,jcl _ _ _ (HDD.o o hnn).2 (by omega)⟩);have HDS:=Hd hkid.2.2;have ho16:o < 16:=hi16;have c1:(o:Int) < 16:=by omega
   have c2:(o:Int) < 256:=by omega
   clear him hi16 hnn hkid hvk qk ho0 hla;go_wp2_with fail
   refine jan [0,1,4,5,6,7,8,9,2,3,10,11] (Ext) ExtR ExtT (by kernel_rfl) (by kernel_rfl) (by kernel_rfl) ?_;iterate 4 (refine jag _ rfl (by kernel_rfl) rfl rfl (fun K hK=>?_);go_big_quiet_op;refine hK _ ?_;clear hK K)
   refine jce _ ((.pointer (some ⟨b,0,none⟩))) rfl (by kernel_rfl) rfl (fun w1 _=>by kernel_rfl) ?_;simp only[Act.put,sA,sB,sC];iterate 2 (refine jag _ rfl (by kernel_rfl) rfl rfl (fun K hK=>?_);go_big_quiet_op;refine hK _ ?_;clear hK K)
   refine jal ⟨b,1+o,none⟩ _ rfl (by kernel_rfl) rfl rfl (fun w1 h1=>jav (fun w=>by kernel_rfl) (jaa (jaa QK.o (jak _)) h1)) ?_;simp only[Act.put,sA,sB,sC];refine jea _ rfl (by kernel_rfl) rfl (fun w2 he K hK=>?_);have HX2:=Hd (show Ext wr w2 from(jak _).trans he);clear he;go_simp;refine hK _ _ ((jac.refl _ w2).alloc _) ?_;clear hK K;refine jce _ (.string (nib1 o)) rfl (by kernel_rfl) rfl (fun w3 h3=>jf3 (by kernel_rfl) h3 (fun e=>e) ho16) ?_;simp only[Act.put,sA,sB,sC];refine jea _ rfl (by kernel_rfl) rfl (fun wc hc K hK=>?_);have kc:Ext wr wc:=(HX2.o.alloc _).trans hc;refine jby (jaA Tryz.enterPj (by kernel_rfl)) ((pj_c wc (Dk o) (nib1 o) (ks o) (.iface T x) ⟨HKI.o.1.keeps kc _ _ _ (fun _ _ e=>e),fun z hz=>Nat.lt_of_lt_of_le (HKI.o.2.1 z hz) kc.size⟩ HKI.o.2.2.1 (by show 1≤_;omega) HKI.o.2.2.2).mono ?_);rintro e w5 ⟨v5,rfl,hP5,hE5⟩
   refine⟨v5,rfl,hK _ _ hE5 ?_⟩
   have HZ:=Hd (And.intro kc (And.intro hP5 hE5));clear hK K hc kc hP5 hE5;simp only[Act.put,sA,sB,sC]
   (refine jag _ rfl (by kernel_rfl) rfl rfl (fun K hK=>?_);go_big_quiet_op;refine hK _ ?_;clear hK K)
   refine jaW (by kernel_rfl) (fun wd hd=>?_);have HQ:=Hd hd;clear hd;go_wp2_with fail
   go_ret
   obtain⟨kc,hP5,hE5⟩:=HZ.o
   have hd:=HQ.o;rw[←HOI.o];refine PaTo.mk1 ((hP5.keeps hd _ _ _ (fun _ _ e=>e)).mono (fun z hz=>?_)) (((kc.trans hE5).trans hd).mono (fun _ _ e=>e.elim));rcases hz with hz | hz
   ·exact .inl (HDS.o z hz)
   ·exact .inr ⟨Nat.le_trans kc.size hz.1,Nat.lt_of_lt_of_le hz.2 hd.size⟩
theorem jlN(W:World)(D:Nat→Prop)(v:ByteArray)(ks:Nat→PA)(b:Nat)(h:PaO (.br v ks) (brV b) D W)(hd:Dp (.br v ks) 900000) :
  Calls Tryz.prog 302 #[.pointer (some ⟨b,0,none⟩)] W (PaTo D W (jdu v ks)):=by
 unfold jdu;cases hi:idxK ks with
 | nil =>
  show Calls _ _ _ W (PaTo D W (if v.size=0 then PA.no else .leaf ⟨#[]⟩ v))
  by_cases h0:v.size=0
  ·rw[if_pos h0];exact joa W D v ks b h hi h0
  ·rw[if_neg h0];exact jn9 W D v ks b h hi h0
 | cons i r =>
  cases r with
  | nil =>
   show Calls _ _ _ W (PaTo D W (if v.size=0 then jcm ⟨#[UInt8.ofNat i]⟩ (ks i)else .br v ks))
   by_cases h0:v.size=0
   ·rw[if_pos h0];exact jqf W D v ks b h i hi h0 hd
   ·rw[if_neg h0];exact jlO W D v ks b h i hi h0
  | cons j r=>exact jlP W D v ks b h (by rw[hi];simp)
theorem jo9(W:World)(D:Nat→Prop)(v:ByteArray)(ks:Nat→PA)(b:Nat)(h:PaO (.br v ks) (brV b) D W)(hd:Dp (.br v ks) 900000):Calls Tryz.prog 299 #[.pointer (some ⟨b,0,none⟩),.string ⟨#[]⟩] W (PaTo D W (jdu ⟨#[]⟩ ks)):=by
 obtain⟨vk,Dk,hb⟩:=h.br
 have q0:=hb.blk.cellL (i:=0) (v:=.string v) (by rfl);have f0:W.frozen? ⟨b,0,none⟩=false:=hb.blk.frozen;have H:=Hd hb;have HD:=Hd (show Dp (.br ⟨#[]⟩ ks) 900000 from hd);have hem:(⟨#[]⟩:ByteArray).toList.isEmpty=true:=by rw[ByteArray.toList_eq];rfl
 clear h hb hd;go_enter Tryz.func299,Tryz.ntmps299;go_wp2_with fail
 obtain⟨W1,hW1⟩:∃ W1,W1=W.setCell ⟨b,0,none⟩ (.string ⟨#[]⟩):=⟨_,rfl⟩
 have hk1:jac D W W1:=by rw[hW1];exact (jac.oneSet W ⟨b,0,none⟩ (.string ⟨#[]⟩)).mono (fun x _ e=>by have e:x=b:=e;rw[e];exact H.o.mem)
 have hb1:=H.o.val ⟨#[]⟩;rw[←hW1]at hb1 ⊢;have HB:=Hd (And.intro hb1 hk1);clear hb1 hk1 hW1;refine (jlN W1 D ⟨#[]⟩ ks b HB.o.1.pa HD.o).mono ?_;rintro e w2 ⟨v2,rfl,hP2,hk2⟩;have HZ:=Hd (And.intro hP2 hk2);clear hP2 hk2;go_wp2_with fail
 go_ret
 obtain⟨hP2,hk2⟩:=HZ.o
 exact PaTo.mk1 (hP2.mono (fun x hx=>hx.imp id (fun e=>⟨Nat.le_trans HB.o.2.size e.1,e.2⟩))) (HB.o.2.trans hk2)
theorem jrL(W:World)(D:Nat→Prop)(v:ByteArray)(ks:Nat→PA)(b:Nat)(h:PaO (.br v ks) (brV b) D W)(p:ByteArray)(h0:p.size≠0)(hp:jaL p=true)(hs:p.size≤900000)(hn:(ks (jao p)).isNil=true):Calls Tryz.prog 299 #[.pointer (some ⟨b,0,none⟩),.string p] W (PaTo D W (.br v ks)):=by
 obtain⟨vk,Dk,hb⟩:=h.br
 obtain⟨y,t,hy⟩:=jcp h0
 obtain⟨e1,e2⟩:=jbI hy
 have hi16:=jdN hp h0
 obtain⟨g0,hg0⟩:=jf4 hy
 have hne:=jc9 h0;have hval:=jcv hp;have hrs:(jbx p).size≤900000:=by unfold jbx;rw[ja0];omega
 have hI:jao p=(p[0]'g0).toNat:=by rw[e1,hg0]
 have hkid:=hb.kid (jao p) hi16;have hvk:vk (jao p)=.nilIface:=by have:=hkid.1;rw[jbA hn]at this;exact this
 have q1:=hb.blk.cellL (jep v vk hi16);rw[hvk]at q1;have HB:=Hd hb;have HHI:=Hd hI;have HI16:=Hd hi16;have c1:(0:Int) < (p.size:Int):=by omega
 have c2:((p[0]'g0).toNat:Int) < 16:=by omega
 have c3:(1:Int)≤(p.size:Int):=by omega
 rw[hI]at q1;have hq:=jwo;clear h hvk hy e1 e2 h0 hp hn hg0 hval hrs hi16 hI hb hkid;go_enter Tryz.func299,Tryz.ntmps299;go_wp2_with fail
 go_ret;exact PaTo.mk1 (HB.o.pa.at'.mono (fun x hx=>.inl hx)) (jac.refl _ _)
theorem jqM{P:PA}{T:TypeId}{x:Value}{D:Nat→Prop}{W:World}(h:PaAt P (.iface T x) D W)(hn:P.isNo=false)(w:World):(Instr.typeAssert (.iface T x) 94 276 true).run Tryz.prog w=.ok (.tuple #[.agg #[],.bool false]) w:=by
 cases P with
 | nil=>cases h
 | no=>cases hn
 | leaf q u=>obtain⟨b,h,_⟩:=h;unfold jh9 at h;injection h with h1 h2;subst h1 h2;kernel_rfl
 | ext q n=>obtain⟨b,_,_,_,h,_⟩:=h;unfold extV at h;injection h with h1 h2;subst h1 h2;kernel_rfl
 | br u ks=>obtain⟨b,_,_,h,_⟩:=h;unfold brV at h;injection h with h1 h2;subst h1 h2;kernel_rfl
theorem jo8(W:World)(D:Nat→Prop)(v:ByteArray)(ks:Nat→PA)(b:Nat)(h:PaO (.br v ks) (brV b) D W)(p:ByteArray)(h0:p.size≠0)(hp:jaL p=true)(hs:p.size≤900000)(hn:(ks (jao p)).isNil=false)(hd:Dp (.br v ks) 900000)(hk:joG (ks (jao p)))(hno:(jbT (ks (jao p)) (jbx p)).isNo=false) :
  Calls Tryz.prog 299 #[.pointer (some ⟨b,0,none⟩),.string p] W (PaTo D W (jdu v (setK ks (jao p) (jbT (ks (jao p)) (jbx p))))):=by
 obtain⟨vk,Dk,hb⟩:=h.br
 obtain⟨y,t,hy⟩:=jcp h0
 obtain⟨e1,e2⟩:=jbI hy
 have hi16:=jdN hp h0
 obtain⟨g0,hg0⟩:=jf4 hy
 have hne:=jc9 h0;have hval:=jcv hp;have hrs:(jbx p).size≤900000:=by unfold jbx;rw[ja0];omega
 have hI:jao p=(p[0]'g0).toNat:=by rw[e1,hg0]
 have hkid:=hb.kid (jao p) hi16
 obtain⟨T,x,hvk⟩:=hkid.1.form hn
 have q1:=hb.blk.cellL (jep v vk hi16);rw[hvk]at q1;have Q1:=Hd q1;have HB:=Hd hb;have HM:=Hd ((show PaAt (ks (jao p)) (.iface T x) (Dk (jao p)) W by rw[←hvk];exact hkid.1).meth);have hd1:=hd (jao p) hn;have CALLEE:=Hd (show ∀ wb,Ext W wb→Calls Tryz.prog (jeX (ks (jao p))) #[x,.string (jbx p)] wb (PaTo (Dk (jao p)) wb (jbT (ks (jao p)) (jbx p)))from fun wb e=>hk wb T x _ _ ⟨(show PaAt (ks (jao p)) (.iface T x) (Dk (jao p)) W by rw[←hvk];exact hkid.1).keeps e _ _ _ (fun _ _ e=>e),fun z hz=>Nat.lt_of_lt_of_le (hb.lt z (hkid.2.2 z hz)) e.size⟩ hrs hval (jcl _ _ _ hd1.2 (by omega)));have HDL:=Hd (show Dp (.br v (setK ks (jao p) (jbT (ks (jao p)) (jbx p)))) 900000 from jhw hd hd1.1 (jhv _ _ _ hd1.2) v);have HNF:=Hd (show ¬(Dk (jao p) b∨W.heap.size≤b)from fun e=>e.elim (hb.kid _ hi16).2.1 (fun e=>by have:=hb.lt b hb.mem;omega));have hQ:=jly T x;have HHI:=Hd hI;have HI16:=Hd hi16;have c1:(0:Int) < (p.size:Int):=by omega
 have c2:((p[0]'g0).toNat:Int) < 16:=by omega
 have c3:(1:Int)≤(p.size:Int):=by omega
 rw[hI]at q1;have HNO:=Hd hno;clear h hvk hy e1 e2 h0 hp hn hg0 hval hrs hi16 hI hb hkid hd hd1 hk hno;go_enter Tryz.func299,Tryz.ntmps299;go_wp2_with fail
 refine jdi [0,1,2,3,4,5,6,7,8,9,10,11,13,14,12,15] 16 [12] Ext (jac (fun z=>Dk (jao p) z∨W.heap.size≤z)) ExtR ExtT (fun x y z h k=>jac.trans h k) (fun x y h=>h.mono (fun _ _ h=>h.elim)) (by kernel_rfl) (by kernel_rfl) (by kernel_rfl) ?_;iterate 4 (refine ja8 _ rfl (by kernel_rfl) rfl rfl (fun K hK=>?_);go_big_quiet_op;refine hK _ ?_;clear hK K)
 refine jcG _ ((.pointer (some ⟨b,0,none⟩))) rfl (by kernel_rfl) rfl (fun w1=>by kernel_rfl) ?_;simp only[Act.put,sA,sB,sC];iterate 2 (refine ja8 _ rfl (by kernel_rfl) rfl rfl (fun K hK=>?_);go_big_quiet_op;refine hK _ ?_;clear hK K)
 refine jgd ⟨b,1+(p[0]'g0).toNat,none⟩ _ rfl (by kernel_rfl) (by kernel_rfl) rfl rfl (fun w1 h1=>jav (fun w=>by kernel_rfl) (by rw[←HHI.o];exact jat Q1.o (((jac.refl (fun z=>Dk (jao p) z∨W.heap.size≤z) W).drew).trans h1) (by exact HNF.o))) ?_;simp only[Act.put,sA,sB,sC];iterate 2 (refine ja8 _ rfl (by kernel_rfl) rfl rfl (fun K hK=>?_);go_big_quiet_op;refine hK _ ?_;clear hK K)
 refine jcG _ (.iface T x) rfl (by kernel_rfl) rfl (fun w1=>by kernel_rfl) ?_;simp only[Act.put,sA,sB,sC]
 (refine ja8 _ rfl (by kernel_rfl) rfl rfl (fun K hK=>?_);go_big_quiet_op;refine hK _ ?_;clear hK K)
 refine jcG _ ((.pointer (some ⟨b,0,none⟩))) rfl (by kernel_rfl) rfl (fun w1=>by kernel_rfl) ?_;simp only[Act.put,sA,sB,sC]
 (refine ja8 _ rfl (by kernel_rfl) rfl rfl (fun K hK=>?_);go_big_quiet_op;refine hK _ ?_;clear hK K)
 refine jgb _ rfl (by kernel_rfl) rfl (fun wb hb K hK=>?_);have kb:Ext W wb:=(jak _).trans hb;refine jby (jcJ (f:=jeX (ks (jao p))) (vs:=#[.string (jbx p)]) rfl (HM.o.drop _) (jfg _) (by kernel_rfl)) ?_;refine (CALLEE.o wb kb).mono ?_;rintro e w2 ⟨v2,rfl,hP2,hk2⟩
 refine⟨v2,rfl,hK _ _ (hk2.mono (fun z _ hz=>.inl hz)) ?_⟩
 have HS:=Hd (And.intro kb (And.intro hP2 hk2));clear hK K hb kb hP2 hk2;simp only[Act.put,sA,sB,sC]
 (refine ja8 _ rfl (by kernel_rfl) rfl rfl (fun K hK=>?_);go_big_quiet_op;refine hK _ ?_;clear hK K)
 refine jgc _ rfl (by kernel_rfl) rfl (fun wc hc K hK=>?_)
 obtain⟨hb,hP2,hk2⟩:=HS.o
 have hb2:=HB.o.keeps (F:=fun _=>False) (hb) (fun _ _ e=>e);have kc:jac (Dk (jao p)) wb wc:=hk2.trans (hc.mono (fun _ _ e=>e.elim));have hPc:PaAt (jbT (ks (jao p)) (jbx p)) v2 (Grow (Dk (jao p)) wb wc) wc:=(hP2.keeps hc _ _ _ (fun _ _ e=>e)).mono (fun z hz=>hz.imp id (fun e=>⟨e.1,Nat.lt_of_lt_of_le e.2 hc.size⟩))
 obtain⟨T2,x2,rfl⟩:=hPc.form (jff _ _)
 have ht:=hb2.turn HI16.o kc hPc;have htk:=hb2.turn_keeps HI16.o kc (.iface T2 x2)
 obtain⟨old,q7⟩:∃ v,wc.cell? ⟨b,1+jao p,none⟩=some v:=⟨_,(hb2.blk.keeps kc (hb2.kid _ HI16.o).2.1).cellL (List.getElem?_eq_getElem (by rw[jgr];have:=HI16.o;omega))⟩
 have f7:wc.frozen? ⟨b,1+jao p,none⟩=false:=(hb2.blk.keeps kc (hb2.kid _ HI16.o).2.1).frozen
 obtain⟨W3,hW3⟩:∃ W3,W3=wc.setCell ⟨b,1+jao p,none⟩ (.iface T2 x2):=⟨_,rfl⟩
 rw[←hW3]at ht htk
 obtain⟨vk3,hvk3⟩:∃ vk3,vk3=setV vk (jao p) (.iface T2 x2):=⟨_,rfl⟩
 obtain⟨Dk3,hDk3⟩:∃ Dk3,Dk3=(fun j=>if j=jao p then Grow (Dk (jao p)) wb wc else Dk j):=⟨_,rfl⟩
 rw[←hvk3, ←hDk3]at ht;have hq3:W3.cell? ⟨b,1+jao p,none⟩=some (.iface T2 x2):=by
  have:=ht.blk.cellL (jep v vk3 HI16.o)
  rw[this,hvk3];show some (setV vk (jao p) (.iface T2 x2) (jao p))=_;unfold setV;rw[if_pos rfl]
 have HT:=Hd (And.intro ht (And.intro htk (And.intro hb (show W3.heap.size=wc.heap.size by rw[hW3];exact World.size_setCell _ _ _))));have HPF:=Hd hPc;rw[HHI.o]at q7 f7 hW3 hq3;clear hb hP2 hk2 hb2 kc hPc ht htk hc;go_simp;rw[←hW3];refine hK _ _ ?_;clear hK K q7 f7 hW3 hvk3 hDk3;have hta:∀ w,(Instr.typeAssert (.iface T2 x2) 94 276 true).run Tryz.prog w=.ok (.tuple #[.agg #[],.bool false]) w:=jqM HPF.o HNO.o;go_wp2_with fail
 obtain⟨W4,hW4⟩:∃ W4,W4=W3.alloc (.cells #[] 276):=⟨_,rfl⟩
 have hE4:Ext W3 W4:=by rw[hW4];exact (ExtR W3).alloc _
 rw[←hW4];have HB4:=Hd (And.intro (HT.o.1.keeps hE4 (fun _ _ e=>e)) hE4);clear hE4 hW4;refine (jlN W4 _ v _ b HB4.o.1.pa HDL.o).mono ?_;rintro e w6 ⟨v6,rfl,hP6,hk6⟩;have HZ:=Hd (And.intro hP6 (And.intro hk6 (jew HB4.o.1.lt hk6)));clear hP6 hk6;go_wp2_with fail
 go_ret
 obtain⟨hP6,hk6,hl6⟩:=HZ.o
 obtain⟨ht,htk,hb,hs3⟩:=HT.o
 obtain⟨_,hE4⟩:=HB4.o
 have hsz:W.heap.size≤W3.heap.size:=by have:=hb.size;have:=htk.size;omega
 have hsz4:=hE4.size;have g1:∀ z,Grow D wb wc z→D z∨W.heap.size≤z:=fun z hz=>hz.imp id (fun e=>Nat.le_trans hb.size e.1);refine PaTo.mk1 (hP6.mono (fun z hz=>?_)) ?_
 ·have hl:=hl6 z hz
  rcases hz with hz | hz
  ·exact (g1 z hz).imp id (fun e=>⟨e,hl⟩)
  ·exact .inr ⟨by have:=hz.1;omega,hl⟩
 ·have k1:jac D W W3:=(hb.mono (fun _ _ e=>e.elim):jac D W wb).trans htk
  have k2:jac D W W4:=k1.trans (hE4.mono (fun _ _ e=>e.elim));exact k2.trans' hk6 (fun z hz e=>(g1 z e).elim id (fun e=>by omega))
theorem jnG(W:World)(D:Nat→Prop)(v:ByteArray)(ks:Nat→PA)(b:Nat)(h:PaO (.br v ks) (brV b) D W)(p:ByteArray)(h0:p.size≠0)(hp:jaL p=true)(hs:p.size≤900000)(hn:(ks (jao p)).isNil=false)(hd:Dp (.br v ks) 900000)(hk:joG (ks (jao p)))(hno:(jbT (ks (jao p)) (jbx p)).isNo=true) :
  Calls Tryz.prog 299 #[.pointer (some ⟨b,0,none⟩),.string p] W (PaTo D W (jdu v (setK ks (jao p) .nil))):=by
 obtain⟨vk,Dk,hb⟩:=h.br
 obtain⟨y,t,hy⟩:=jcp h0
 obtain⟨e1,e2⟩:=jbI hy
 have hi16:=jdN hp h0
 obtain⟨g0,hg0⟩:=jf4 hy
 have hne:=jc9 h0;have hval:=jcv hp;have hrs:(jbx p).size≤900000:=by unfold jbx;rw[ja0];omega
 have hI:jao p=(p[0]'g0).toNat:=by rw[e1,hg0]
 have hkid:=hb.kid (jao p) hi16
 obtain⟨T,x,hvk⟩:=hkid.1.form hn
 have q1:=hb.blk.cellL (jep v vk hi16);rw[hvk]at q1;have Q1:=Hd q1;have HB:=Hd hb;have HM:=Hd ((show PaAt (ks (jao p)) (.iface T x) (Dk (jao p)) W by rw[←hvk];exact hkid.1).meth);have hd1:=hd (jao p) hn;have CALLEE:=Hd (show ∀ wb,Ext W wb→Calls Tryz.prog (jeX (ks (jao p))) #[x,.string (jbx p)] wb (PaTo (Dk (jao p)) wb (jbT (ks (jao p)) (jbx p)))from fun wb e=>hk wb T x _ _ ⟨(show PaAt (ks (jao p)) (.iface T x) (Dk (jao p)) W by rw[←hvk];exact hkid.1).keeps e _ _ _ (fun _ _ e=>e),fun z hz=>Nat.lt_of_lt_of_le (hb.lt z (hkid.2.2 z hz)) e.size⟩ hrs hval (jcl _ _ _ hd1.2 (by omega)));have HDL:=Hd (show Dp (.br v (setK ks (jao p) .nil)) 900000 from jhw hd hd1.1 ((show Dp PA.nil (900000 - 1)from trivial)) v);have HNF:=Hd (show ¬(Dk (jao p) b∨W.heap.size≤b)from fun e=>e.elim (hb.kid _ hi16).2.1 (fun e=>by have:=hb.lt b hb.mem;omega));have hQ:=jly T x;have HHI:=Hd hI;have HI16:=Hd hi16;have c1:(0:Int) < (p.size:Int):=by omega
 have c2:((p[0]'g0).toNat:Int) < 16:=by omega
 have c3:(1:Int)≤(p.size:Int):=by omega
 rw[hI]at q1;have HNO:=Hd hno;clear h hvk hy e1 e2 h0 hp hn hg0 hval hrs hi16 hI hb hkid hd hd1 hk hno;go_enter Tryz.func299,Tryz.ntmps299;go_wp2_with fail
 refine jdi [0,1,2,3,4,5,6,7,8,9,10,11,13,14,12,15] 16 [12] Ext (jac (fun z=>Dk (jao p) z∨W.heap.size≤z)) ExtR ExtT (fun x y z h k=>jac.trans h k) (fun x y h=>h.mono (fun _ _ h=>h.elim)) (by kernel_rfl) (by kernel_rfl) (by kernel_rfl) ?_;iterate 4 (refine ja8 _ rfl (by kernel_rfl) rfl rfl (fun K hK=>?_);go_big_quiet_op;refine hK _ ?_;clear hK K)
 refine jcG _ ((.pointer (some ⟨b,0,none⟩))) rfl (by kernel_rfl) rfl (fun w1=>by kernel_rfl) ?_;simp only[Act.put,sA,sB,sC];iterate 2 (refine ja8 _ rfl (by kernel_rfl) rfl rfl (fun K hK=>?_);go_big_quiet_op;refine hK _ ?_;clear hK K)
 refine jgd ⟨b,1+(p[0]'g0).toNat,none⟩ _ rfl (by kernel_rfl) (by kernel_rfl) rfl rfl (fun w1 h1=>jav (fun w=>by kernel_rfl) (by rw[←HHI.o];exact jat Q1.o (((jac.refl (fun z=>Dk (jao p) z∨W.heap.size≤z) W).drew).trans h1) (by exact HNF.o))) ?_;simp only[Act.put,sA,sB,sC];iterate 2 (refine ja8 _ rfl (by kernel_rfl) rfl rfl (fun K hK=>?_);go_big_quiet_op;refine hK _ ?_;clear hK K)
 refine jcG _ (.iface T x) rfl (by kernel_rfl) rfl (fun w1=>by kernel_rfl) ?_;simp only[Act.put,sA,sB,sC]
 (refine ja8 _ rfl (by kernel_rfl) rfl rfl (fun K hK=>?_);go_big_quiet_op;refine hK _ ?_;clear hK K)
 refine jcG _ ((.pointer (some ⟨b,0,none⟩))) rfl (by kernel_rfl) rfl (fun w1=>by kernel_rfl) ?_;simp only[Act.put,sA,sB,sC]
 (refine ja8 _ rfl (by kernel_rfl) rfl rfl (fun K hK=>?_);go_big_quiet_op;refine hK _ ?_;clear hK K)
 refine jgb _ rfl (by kernel_rfl) rfl (fun wb hb K hK=>?_);have kb:Ext W wb:=(jak _).trans hb;refine jby (jcJ (f:=jeX (ks (jao p))) (vs:=#[.string (jbx p)]) rfl (HM.o.drop _) (jfg _) (by kernel_rfl)) ?_;refine (CALLEE.o wb kb).mono ?_;rintro e w2 ⟨v2,rfl,hP2,hk2⟩
 refine⟨v2,rfl,hK _ _ (hk2.mono (fun z _ hz=>.inl hz)) ?_⟩
 have HS:=Hd (And.intro kb (And.intro hP2 hk2));clear hK K hb kb hP2 hk2;simp only[Act.put,sA,sB,sC]
 (refine ja8 _ rfl (by kernel_rfl) rfl rfl (fun K hK=>?_);go_big_quiet_op;refine hK _ ?_;clear hK K)
 refine jgc _ rfl (by kernel_rfl) rfl (fun wc hc K hK=>?_)
 obtain⟨hb,hP2,hk2⟩:=HS.o
 have hb2:=HB.o.keeps (F:=fun _=>False) (hb) (fun _ _ e=>e);have kc:jac (Dk (jao p)) wb wc:=hk2.trans (hc.mono (fun _ _ e=>e.elim));have hPc:PaAt (jbT (ks (jao p)) (jbx p)) v2 (Grow (Dk (jao p)) wb wc) wc:=(hP2.keeps hc _ _ _ (fun _ _ e=>e)).mono (fun z hz=>hz.imp id (fun e=>⟨e.1,Nat.lt_of_lt_of_le e.2 hc.size⟩))
 obtain⟨T2,x2,rfl⟩:=hPc.form (jff _ _)
 have ht:=hb2.turn HI16.o kc hPc;have htk:=hb2.turn_keeps HI16.o kc (.iface T2 x2)
 obtain⟨old,q7⟩:∃ v,wc.cell? ⟨b,1+jao p,none⟩=some v:=⟨_,(hb2.blk.keeps kc (hb2.kid _ HI16.o).2.1).cellL (List.getElem?_eq_getElem (by rw[jgr];have:=HI16.o;omega))⟩
 have f7:wc.frozen? ⟨b,1+jao p,none⟩=false:=(hb2.blk.keeps kc (hb2.kid _ HI16.o).2.1).frozen
 obtain⟨W3,hW3⟩:∃ W3,W3=wc.setCell ⟨b,1+jao p,none⟩ (.iface T2 x2):=⟨_,rfl⟩
 rw[←hW3]at ht htk
 obtain⟨vk3,hvk3⟩:∃ vk3,vk3=setV vk (jao p) (.iface T2 x2):=⟨_,rfl⟩
 obtain⟨Dk3,hDk3⟩:∃ Dk3,Dk3=(fun j=>if j=jao p then Grow (Dk (jao p)) wb wc else Dk j):=⟨_,rfl⟩
 rw[←hvk3, ←hDk3]at ht;have hq3:W3.cell? ⟨b,1+jao p,none⟩=some (.iface T2 x2):=by
  have:=ht.blk.cellL (jep v vk3 HI16.o)
  rw[this,hvk3];show some (setV vk (jao p) (.iface T2 x2) (jao p))=_;unfold setV;rw[if_pos rfl]
 have HT:=Hd (And.intro ht (And.intro htk (And.intro hb (show W3.heap.size=wc.heap.size by rw[hW3];exact World.size_setCell _ _ _))));have HPF:=Hd hPc;rw[HHI.o]at q7 f7 hW3 hq3;clear hb hP2 hk2 hb2 kc hPc ht htk hc;go_simp;rw[←hW3];refine hK _ _ ?_;clear hK K q7 f7 hW3 hvk3 hDk3;have hnv:Value.iface T2 x2=noV:=by have:=HPF.o;rw[jp9 HNO.o]at this;exact this
 unfold noV at hnv;injection hnv with hn1 hn2;subst hn1 hn2;have hta:∀ w,(Instr.typeAssert (.iface 276 (.agg #[])) 94 276 true).run Tryz.prog w=.ok (.tuple #[.agg #[],.bool true]) w:=fun w=>by kernel_rfl
 have q4:(W3.alloc (.cells #[] 276)).cell? ⟨b,1+(p[0]'g0).toNat,none⟩=some (.iface 276 (.agg #[])):=jaa hq3 ((ExtR W3).alloc _);have f4:(W3.alloc (.cells #[] 276)).frozen? ⟨b,1+(p[0]'g0).toNat,none⟩=false:=(HT.o.1.blk.alloc _).frozen;clear q4;have q4:=jaa hq3 ((ExtR W3).alloc (.cells #[] 276));go_wp2_with fail
 obtain⟨W4,hW4⟩:∃ W4,W4=W3.alloc (.cells #[] 276):=⟨_,rfl⟩
 have hE4:Ext W3 W4:=by rw[hW4];exact (ExtR W3).alloc _
 rw[←hW4]at q4 f4 ⊢;have hb4:=HT.o.1.keeps hE4 (fun _ _ e=>e);have hb5:=hb4.turn HI16.o (P:=.nil) (v:=.nilIface) (jac.refl _ W4) rfl;have hk5:=hb4.turn_keeps HI16.o (jac.refl _ W4) .nilIface
 obtain⟨W5,hW5⟩:∃ W5,W5=W4.setCell ⟨b,1+jao p,none⟩ .nilIface:=⟨_,rfl⟩
 rw[←hW5]at hb5 hk5;rw[HHI.o]at hW5;rw[←hW5];have hks:setK (setK ks (jao p) (jbT (ks (jao p)) (jbx p))) (jao p) .nil=setK ks (jao p) .nil:=by
  funext j
  unfold setK
  by_cases e:j=jao p
  ·rw[if_pos e,if_pos e]
  ·rw[if_neg e,if_neg e,if_neg e]
 rw[hks]at hb5;have hsz5:W4.heap.size≤W5.heap.size:=hk5.size;have HB5:=Hd (And.intro hb5 (And.intro hk5 (And.intro hE4 hsz5)));clear hb4 hb5 hk5 hE4 hW4 hW5 q4 f4 hks hsz5;refine (jlN W5 _ v _ b HB5.o.1.pa HDL.o).mono ?_;rintro e w6 ⟨v6,rfl,hP6,hk6⟩;have HZ:=Hd (And.intro hP6 (And.intro hk6 (jew HB5.o.1.lt hk6)));clear hP6 hk6;go_wp2_with fail
 go_ret
 obtain⟨hP6,hk6,hl6⟩:=HZ.o
 obtain⟨ht,htk,hb,hs3⟩:=HT.o
 obtain⟨_,hk5,hE4,hs5⟩:=HB5.o
 have hsz:W.heap.size≤W3.heap.size:=by have:=hb.size;have:=htk.size;omega
 have hsz4:=hE4.size;have g1:∀ z,Grow D wb wc z→D z∨W.heap.size≤z:=fun z hz=>hz.imp id (fun e=>Nat.le_trans hb.size e.1);have g2:∀ z,Grow (Grow D wb wc) W4 W4 z→D z∨W.heap.size≤z:=fun z hz=>hz.elim (g1 z) (fun e=>by omega);refine PaTo.mk1 (hP6.mono (fun z hz=>?_)) ?_
 ·have hl:=hl6 z hz
  rcases hz with hz | hz
  ·exact (g2 z hz).imp id (fun e=>⟨e,hl⟩)
  ·exact .inr ⟨by have:=hz.1;omega,hl⟩
 ·have k1:jac D W W3:=(hb.mono (fun _ _ e=>e.elim):jac D W wb).trans htk
  have k2:jac D W W4:=k1.trans (hE4.mono (fun _ _ e=>e.elim));have k3:jac D W W5:=k2.trans' hk5 (fun z hz e=>(g1 z e).elim id (fun e=>by omega));exact k3.trans' hk6 (fun z hz e=>(g2 z e).elim id (fun e=>by omega))
theorem jhd:∀ (P:PA),VaP P→joG P
 | .nil,_=>fun W T x D p h _ _ _=>by cases h.at'
 | .no,_=>fun W T x D p h _ _ _=>by
  have e:Value.iface T x=noV:=h.at';unfold noV at e;injection e with e1 e2;subst e1 e2;exact jsL W D p
 | .leaf q v,hv=>fun W T x D p h hp hn hd=>by
  obtain⟨b,e,h1,h2⟩:=h.at'
  unfold jh9 at e;injection e with e1 e2;subst e1 e2;exact juO W D q v p b h2 h1
 | .ext q n,hv=>fun W T x D p h hp hn hd=>by
  obtain⟨b,T',x',Dn,e,h1,h2,h3,h4,h5⟩:=h.at'
  unfold extV at e;injection e with e1 e2;subst e1 e2;have hDn:∀ z,Dn z→D z∧z < W.heap.size:=fun z hz=>⟨h5 z hz,h.lt z (h5 z hz)⟩;show Calls _ _ _ W (PaTo D W (jbT (.ext q n) p));unfold jbT;cases hf:preB q p with
  | true =>
   rw[if_pos rfl];exact jsf W D q n T' x' Dn b h2 h1 h3 h4 hDn p hn hd.1 hp (jcl _ _ _ hd.2 (by omega)) (jhd n hv.2) hf
  | false =>
   rw[if_neg ff];exact jsg W D q n T' x' Dn b h2 h1 h3 h4 hDn p hn hd.1 hp hf
 | .br v ks,hv=>fun W T x D p h hp hn hd=>by
  obtain⟨b,vk,Dk,e,_⟩:=h.at'
  unfold brV at e;injection e with e1 e2;subst e1 e2;show Calls _ _ _ W (PaTo D W (jbT (.br v ks) p));unfold jbT
  by_cases h0:p.size=0
  ·rw[if_pos h0,jbF h0]
   exact jo9 W D v ks b h hd
  ·rw[if_neg h0]
   cases hk:(ks (jao p)).isNil with
   | true=>rw[if_pos rfl];exact jrL W D v ks b h p h0 hn hp hk
   | false =>
    rw[if_neg ff];unfold unNo;cases hno:(jbT (ks (jao p)) (jbx p)).isNo with
    | true=>rw[if_pos rfl];exact jnG W D v ks b h p h0 hn hp hk hd (jhd (ks (jao p)) (hv _)) hno
    | false=>rw[if_neg ff];exact jo8 W D v ks b h p h0 hn hp hk hd (jhd (ks (jao p)) (hv _)) hno
def cntP:PA→Nat
 | .nil=>0
 | .no=>1
 | .leaf _ _=>1
 | .ext _ n=>1+cntP n
 | .br _ ks=>1+sumF (fun i=>cntP (ks i)) 16
theorem jmT(p v:ByteArray):(keyR p v).length≤1:=by unfold keyR;split <;> simp
theorem jf5{α:Type}(g:Nat→List α)(f:Nat→Nat)(h:∀ i,(g i).length≤f i):∀ n,((List.range n).flatMap g).length≤sumF f n
 | 0=>by simp
 | n+1=>by
  rw[List.range_succ,List.flatMap_append,List.length_append]
  have:=jf5 g f h n
  have:=h n
  simp only[List.flatMap_cons,List.flatMap_nil,List.append_nil,sumF];omega
theorem jlx:∀ (P:PA) (p:ByteArray),(entP P p).length≤cntP P
 | .nil,_=>Nat.le_refl _
 | .no,_=>Nat.zero_le _
 | .leaf q v,p=>jmT _ _
 | .ext q n,p=>Nat.le_trans (jlx n (p++q)) (Nat.le_add_left _ _)
 | .br v ks,p=>by
  show ((if v.size=0 then []else keyR p v)++(List.range 16).flatMap fun i=>if (ks i).isNil then []else entP (ks i) (p++nib1 i)).length≤1+sumF (fun i=>cntP (ks i)) 16;rw[List.length_append];have h1:(if v.size=0 then []else keyR p v:List Pair).length≤1:=by
   split
   ·simp
   ·exact jmT _ _
  have h2:=jf5 (fun i=>if (ks i).isNil then []else entP (ks i) (p++nib1 i)) (fun i=>cntP (ks i)) (fun i=>by
   show (if (ks i).isNil=true then ([]:List Pair)else entP (ks i) (p++nib1 i)).length≤cntP (ks i);split
   ·simp
   ·exact jlx (ks i) _) 16
  omega
theorem ERow.len'{w0 w:World}{v:Value}{n:Nat}{xs:List Pair}(h:ERow w0 w v n xs):n=xs.length:=by have:=h.len;rw[jgv]at this;omega
def EnP(w0:World)(xs:List Pair)(e:Ending)(w':World):Prop:=∃ v n,e=.returned v∧ERow w0 w' v n xs
def EntC(P:PA):Prop:=∀ (w0 W:World) (T:TypeId) (x:Value) (D:Nat→Prop) (p:ByteArray) (v:Value) (n k:Nat) (E:List Pair),PaO P (.iface T x) D w0→ERow w0 W v n E→Dp P k→p.size+k≤900000→n+cntP P≤100000 →
 Calls Tryz.prog (jgf P) #[x,.string p,v] W (EnP w0 (E++entP P p))
theorem juY(w0 W:World)(p:ByteArray)(v:Value)(n:Nat)(E:List Pair)(h:ERow w0 W v n E):Calls Tryz.prog 304 #[.agg #[],.string p,v] W (EnP w0 E):=by
 have H:=Hd h
 obtain⟨a,c,rfl⟩:=h.sl
 clear h;go_enter Tryz.func304,Tryz.ntmps304;go_wp2_with fail
 go_ret
 exact⟨_,n,rfl,H.o.mono ((ExtR W).alloc _)⟩
theorem jil(k v:ByteArray):jdJ [(k,v)]=[.string k,.string v]:=rfl
theorem jwH(w0 W:World)(q u p:ByteArray)(b:Nat)(hB:Blk w0 b (.cells #[.string q,.string u] 267))(v:Value)(n:Nat)(E:List Pair)(h:ERow w0 W v n E)(hs:p.size+q.size≤900000)(hn:n≤100000) :
  Calls Tryz.prog 290 #[.pointer (some ⟨b,0,none⟩),.string p,v] W (EnP w0 (E++keyR (p++q) u)):=by
 have q0:=jaa (hB.cell (i:=0) (v:=.string q) (by rfl)) h.ext;have Q1:=Hd (jaa (hB.cell (i:=1) (v:=.string u) (by rfl)) h.ext);have H:=Hd h
 obtain⟨a,c,rfl⟩:=h.sl
 have hk:=fun w=>jlL w (p++q) (by rw[jdc];omega);unfold keyV at hk;unfold keyR;cases hok:jcV (p++q)with
 | false =>
  rw[if_neg ff,List.append_nil];rw[hok,if_neg ff]at hk;have HK:=Hd hk;clear h hB hk hok;go_enter Tryz.func290,Tryz.ntmps290;go_wp2_with fail
  refine (HK.o W).mono ?_;rintro e w1 ⟨rfl,hE⟩;have HE:=Hd hE;clear hE;go_wp2_with fail
  go_ret
  exact⟨_,n,rfl,H.o.mono HE.o⟩
 | true =>
  rw[if_pos rfl];rw[hok,if_pos rfl]at hk;have HK:=Hd hk;clear h hB hk hok;go_enter Tryz.func290,Tryz.ntmps290;go_wp2_with fail
  refine (HK.o W).mono ?_;rintro e w1 ⟨rfl,hE⟩;have HE:=Hd hE;have q1:=jaa Q1.o hE;have HR:=Hd (H.o.mono hE);clear hE;go_wp2_with (at_builtin;refine jbv Tryz.sEnts (HR.o.mono ((ExtR w1).alloc _)) (.tmp 20) (.tmp 27) rfl rfl rfl (ja9 (Blk.new w1 _)) (news:=[.string (jbq (p++q)),.string u]) (by intro u hu;simp at hu;rcases hu with rfl | rfl <;> rfl) rfl rfl (by unfold maxLen;omega) (by omega) (fun v' w' r1 r2 r3=>?_);obtain⟨a5,c5,hv5⟩:=r1.sl;subst hv5;have HR5:=Hd r1)
  go_ret
  exact⟨_,n+1,rfl,by have:=HR5.o;rw[←jil, ←jbN]at this;exact this⟩
def joE(w0 a b:World):Prop:=Ext w0 a→Ext w0 b
theorem jll(w0 x y z:World)(h:joE w0 x y)(k:joE w0 y z):joE w0 x z:=fun e=>k (h e)
theorem joZ(w0 x y:World)(h:Ext x y):joE w0 x y:=fun e=>e.trans h
theorem jwm(w0 W:World)(q:ByteArray)(n:PA)(T:TypeId)(x:Value)(Dn:Nat→Prop)(b:Nat)(hB:Blk w0 b (.cells #[.string q,.iface T x] 270))(hv:PaAt n (.iface T x) Dn w0)(hD:∀ x,Dn x→x < w0.heap.size)(p:ByteArray)(v:Value)(m k:Nat)(E:List Pair)(h:ERow w0 W v m E)(hd:Dp n k)(hs:(p++q).size+k≤900000)(hn:m+cntP n≤100000)(hk:EntC n) :
  Calls Tryz.prog 296 #[.pointer (some ⟨b,0,none⟩),.string p,v] W (EnP w0 (E++entP n (p++q))):=by
 have Q0:=Hd (hB.cell (i:=0) (v:=.string q) (by rfl));have Q1:=Hd (hB.cell (i:=1) (v:=.iface T x) (by rfl));have HE0:=Hd h.ext;have HM:=Hd hv.meth;have hz:p.size+q.size≤900000:=by rw[←jdc];omega
 obtain⟨a,c,hvs⟩:=h.sl
 have CALLEE:=Hd (show ∀ wb,Ext W wb→Calls Tryz.prog (jgf n) #[x,.string (p++q),v] wb (EnP w0 (E++entP n (p++q)))from fun wb e=>hk w0 wb T x Dn (p++q) v m k E ⟨hv,hD⟩ (h.mono e) hd hs hn);subst hvs;clear hB hv hD h hd hs hn hk;go_enter Tryz.func296,Tryz.ntmps296;go_wp2_with fail
 refine ja1 [0,1,2,3,4,5,6,7,8,9,10,11,12,13,14] [13] Ext (joE w0) ExtR ExtT (jll w0) (joZ w0) (by kernel_rfl) (by kernel_rfl) (by kernel_rfl) ?_
 (refine jai _ rfl (by kernel_rfl) rfl rfl (fun K hK=>?_);go_big_quiet_op;refine hK _ ?_;clear hK K)
 refine jbB _ ((.pointer (some ⟨b,0,none⟩))) rfl (by kernel_rfl) rfl (fun w1 _=>by kernel_rfl) ?_;simp only[Act.put,sA,sB,sC]
 (refine jai _ rfl (by kernel_rfl) rfl rfl (fun K hK=>?_);go_big_quiet_op;refine hK _ ?_;clear hK K)
 refine jaX ⟨b,1,none⟩ _ rfl (by kernel_rfl) rfl rfl (fun w1 h1=>jav (fun w=>by kernel_rfl) (jaa Q1.o (h1 (HE0.o.trans (jak _))))) ?_;simp only[Act.put,sA,sB,sC];iterate 2 (refine jai _ rfl (by kernel_rfl) rfl rfl (fun K hK=>?_);go_big_quiet_op;refine hK _ ?_;clear hK K)
 refine jbB _ ((.pointer (some ⟨b,0,none⟩))) rfl (by kernel_rfl) rfl (fun w1 _=>by kernel_rfl) ?_;simp only[Act.put,sA,sB,sC]
 (refine jai _ rfl (by kernel_rfl) rfl rfl (fun K hK=>?_);go_big_quiet_op;refine hK _ ?_;clear hK K)
 refine jaX ⟨b,0,none⟩ _ rfl (by kernel_rfl) rfl rfl (fun w1 h1=>jav (fun w=>by kernel_rfl) (jaa Q0.o (h1 (HE0.o.trans (jak _))))) ?_;simp only[Act.put,sA,sB,sC];iterate 2 (refine jai _ rfl (by kernel_rfl) rfl rfl (fun K hK=>?_);go_big_quiet_op;refine hK _ ?_;clear hK K)
 refine jbB _ (.iface T x) rfl (by kernel_rfl) rfl (fun w1 _=>by kernel_rfl) ?_;simp only[Act.put,sA,sB,sC]
 (refine jai _ rfl (by kernel_rfl) rfl rfl (fun K hK=>?_);go_big_quiet_op;refine hK _ ?_;clear hK K)
 refine jaY _ rfl (by kernel_rfl) rfl (fun wb hb K hK=>?_);have kb:Ext W wb:=(jak _).trans hb;refine jby (jcJ (f:=jgf n) (vs:=#[.string (p++q),.slice a m c]) rfl (HM.o.ent _) (jeP _) (by kernel_rfl)) ?_;refine (CALLEE.o wb kb).mono ?_;rintro e w2 ⟨v2,m2,rfl,hR2⟩
 refine⟨v2,rfl,hK _ _ (fun _=>hR2.ext) ?_⟩
 have HS:=Hd hR2;clear hK K hb kb hR2;simp only[Act.put,sA,sB,sC]
 (refine jai _ rfl (by kernel_rfl) rfl rfl (fun K hK=>?_);go_big_quiet_op;refine hK _ ?_;clear hK K)
 refine jcd (by kernel_rfl) (fun wd hd=>?_);have HQ:=Hd hd;clear hd;go_wp2_with fail
 go_ret
 exact⟨_,_,rfl,HS.o.mono HQ.o⟩
def entK(ks:Nat→PA)(p:ByteArray)(k:Nat):List Pair:=(List.range k).flatMap fun i=>if (ks i).isNil then []else entP (ks i) (p++nib1 i)
theorem jhx(ks:Nat→PA)(p:ByteArray)(k:Nat):entK ks p (k+1)=entK ks p k++(if (ks k).isNil then []else entP (ks k) (p++nib1 k)):=by
 unfold entK;rw[List.range_succ,List.flatMap_append]
 simp
theorem ji6(ks:Nat→PA)(p:ByteArray)(k:Nat):(entK ks p k).length≤sumF (fun i=>cntP (ks i)) k:=jf5 _ _ (fun i=>by
 show (if (ks i).isNil=true then ([]:List Pair)else entP (ks i) (p++nib1 i)).length≤cntP (ks i);split
 ·simp
 ·exact jlx (ks i) _) k
theorem jej(f:Nat→Nat)(k:Nat):∀ d,sumF f k≤sumF f (k+d)
 | 0=>Nat.le_refl _
 | d+1=>Nat.le_trans (jej f k d) (Nat.le_add_right _ _)
def jtR(w0:World)(ks:Nat→PA)(p:ByteArray)(E:List Pair)(tv iv:Value)(wr:World):Prop:=∃ (k m:Nat),k≤16∧iv=.int .i64 (k:Int)∧ERow w0 wr tv m (E++entK ks p k)
theorem ji4(w:World){m:Nat}(hm:m < 16):(convert 89 9 (.slice (some ⟨w.heap.size,0,none⟩) 1 1)).run Tryz.prog (w.alloc (.cells #[.int .u8 (m:Int)] 5))=.ok (.string (nib1 m)) (w.alloc (.cells #[.int .u8 (m:Int)] 5)):=by
 have hbm:(m:Int)=((UInt8.ofNat m).toNat:Int):=by rw[joy m (by omega)]
 rw[hbm];exact Tryz.run_lit1 w (UInt8.ofNat m)
structure BrRd(u:ByteArray)(ks:Nat→PA)(b:Nat)(vk:Nat→Value)(Dk:Nat→Nat→Prop)(W:World):Prop where
 blk:Blk W b (.cells (brC u vk).toArray 274)
 kid:∀ i,i < 16→PaO (ks i) (vk i) (Dk i) W
theorem jpa(w0 W:World)(u p:ByteArray)(ks:Nat→PA)(b:Nat)(vk:Nat→Value)(Dk:Nat→Nat→Prop)(hb:BrRd u ks b vk Dk w0)(v:Value)(n kk:Nat)(E:List Pair)(h:ERow w0 W v n E)(hd:Dp (.br u ks) kk)(hs:p.size+kk≤900000)(hn:n+1+sumF (fun i=>cntP (ks i)) 16≤100000)(ih:∀ i,i < 16→(ks i).isNil=false→EntC (ks i))(ho:jcV p=false) :
  Calls Tryz.prog 300 #[.pointer (some ⟨b,0,none⟩),.string p,v] W (EnP w0 (E++entK ks p 16)):=by
 have H:=Hd hb;have HDP:=Hd hd;have HSZ:=Hd hs;have HIH:=Hd ih;have HE0:=Hd h.ext;have H0:=Hd h;have hnl:=h.len';have q0:=jaa (hb.blk.cellL (i:=0) (v:=.string u) (by rfl)) h.ext;have hla:=jbk (hb.blk.keeps h.ext (fun e=>e));have hem:(⟨#[]⟩:ByteArray).toList.isEmpty=true:=by rw[ByteArray.toList_eq];rfl
 have hnn:=jjj;have hks:=jlL W p (by omega);unfold keyV at hks
 obtain⟨a,c,hvs0⟩:=h.sl
 rw[ho,if_neg ff]at hks;have HK:=Hd hks;have HCN:=Hd (show E.length+sumF (fun i=>cntP (ks i)) 16≤100000 by omega);have hB:=Hd hb.blk;clear hb hd hs ih h hn ho hks hla;subst hvs0;go_enter Tryz.func300,Tryz.ntmps300;go_wp2_with fail
 refine HK.o.mono ?_;rintro e w1 ⟨rfl,hE⟩;have hla:=jbk (hB.o.keeps (HE0.o.trans hE) (fun e=>e));have HR1:=Hd (H0.o.mono hE);clear hE q0;clear hnl;go_wp2_with (refine jae 272 (.tmp 35) rfl rfl _ _ rfl hla ?_)
 go_loopw [2,37] (fun tv iv wr=>jtR w0 ks p E tv iv wr) (fun _ iv _=>16 - (intOf iv).toNat)
 case atStart=>exact⟨0,n,by omega,rfl,by rw[show entK ks p 0=[]from rfl,List.append_nil];exact HR1.o⟩
 case round =>
  obtain⟨k,m,hk,rfl,hR⟩:=hrel
  have HRR:=Hd hR;have hml:m≤E.length+sumF (fun i=>cntP (ks i)) k:=by
   have h1:=hR.len';have h2:=ji6 ks p k;rw[List.length_append]at h1;omega
  have HML:=Hd hml
  obtain⟨a2,c2,hvs⟩:=hR.sl
  clear hR hml
  by_cases hlt:k < 16
  ·have hix:=jeB vk hlt
   have hst:=jhx ks p k;rcases (H.o.kid k hlt).at'.kid with⟨hn,hv⟩ |⟨hn,T,x,hv⟩
   ·rw[hn,if_pos rfl,List.append_nil]at hst
    rw[hv]at hix;have HST:=Hd hst;clear hst hn hv;subst hvs;go_wp2;go_roundw
    case rel=>exact⟨k+1,m,by omega,by go_num,by rw[HST.o];exact HRR.o⟩
    case measure=>simp[intOf];omega
   ·rw[hn,if_neg ff]at hst
    rw[hv]at hix;have hq:=jdA T x;have hpo:=H.o.kid k hlt;rw[hv]at hpo;have hmt:=hpo.at'.meth;have hme:∀ w,(Go.method (469+1) T x "guilloche/trie.entries").run Tryz.prog w=.ok (jgf (ks k),x) w:=hmt.ent;have hee:=jeP (ks k);have hcv:=ji4 wr hlt;have hdk:=HDP.o k hn;have hsm:sumF (fun i=>cntP (ks i)) k+cntP (ks k)≤sumF (fun i=>cntP (ks i)) 16:=by
     have h1:=jej (fun i=>cntP (ks i)) (k+1) (15 - k);rw[show k+1+(15 - k)=16 by omega]at h1;exact h1
    have HCALL:=Hd (show ∀ wb,Ext wr wb→Calls Tryz.prog (jgf (ks k)) #[x,.string (p++nib1 k),.slice a2 m c2] wb (EnP w0 (E++entK ks p k++entP (ks k) (p++nib1 k)))from fun wb e=>HIH.o k hlt hn w0 wb T x (Dk k) (p++nib1 k) _ m (kk - 1) _ hpo (by rw[←hvs];exact HRR.o.mono e) hdk.2 (by rw[jdc];have:(nib1 k).size=1:=rfl;have:=HSZ.o;have:=hdk.1;omega) (by have:=HML.o;have:=HCN.o;omega));have HST:=Hd hst;have b1:(k:Int) < 256:=by omega
    have hcz:p.size+(nib1 k).size≤900001:=by have:(nib1 k).size=1:=rfl;have:=HSZ.o;omega
    have b2:(k:Int) < 16:=by omega
    clear hst hn hv hpo hmt hdk hsm;subst hvs;go_wp2_with fail
    refine (HCALL.o _ ((ExtR wr).alloc _)).mono ?_;rintro e w2 ⟨v2,m2,rfl,hR2⟩;have HR2:=Hd hR2
    obtain⟨a3,c3,hv3⟩:=hR2.sl
    subst hv3;clear hR2;go_wp2_with fail
    go_roundw
    case rel=>exact⟨k+1,m2,by omega,by go_num,by rw[HST.o, ←List.append_assoc];exact HR2.o⟩
    case measure=>simp[intOf];omega
  ·obtain rfl:k=16:=by omega
   subst hvs;go_wp2_with fail
   go_ret
   exact⟨_,_,rfl,HRR.o⟩
theorem jrO(w0 W:World)(u p:ByteArray)(ks:Nat→PA)(b:Nat)(vk:Nat→Value)(Dk:Nat→Nat→Prop)(hb:BrRd u ks b vk Dk w0)(v:Value)(n kk:Nat)(E:List Pair)(h:ERow w0 W v n E)(hd:Dp (.br u ks) kk)(hs:p.size+kk≤900000)(hn:n+1+sumF (fun i=>cntP (ks i)) 16≤100000)(ih:∀ i,i < 16→(ks i).isNil=false→EntC (ks i))(ho:jcV p=true)(hu:u.size≠0) :
  Calls Tryz.prog 300 #[.pointer (some ⟨b,0,none⟩),.string p,v] W (EnP w0 ((E++[(jbq p,u)])++entK ks p 16)):=by
 have H:=Hd hb;have HDP:=Hd hd;have HSZ:=Hd hs;have HIH:=Hd ih;have HE0:=Hd h.ext;have H0:=Hd h;have hnl:=h.len';have q0:=jaa (hb.blk.cellL (i:=0) (v:=.string u) (by rfl)) h.ext;have hla:=jbk (hb.blk.keeps h.ext (fun e=>e));have hem:(⟨#[]⟩:ByteArray).toList.isEmpty=true:=by rw[ByteArray.toList_eq];rfl
 have hnn:=jjj;have hks:=jlL W p (by omega);unfold keyV at hks
 obtain⟨a,c,hvs0⟩:=h.sl
 rw[ho,if_pos rfl]at hks;have HK:=Hd hks;have hue:=jc9 hu;have HCN:=Hd (show (E++[(jbq p,u)]).length+sumF (fun i=>cntP (ks i)) 16≤100000 by rw[List.length_append,List.length_singleton];omega);have hB:=Hd hb.blk;have Q0:=Hd q0;have hnle:n≤100000:=by omega
 clear hb hd hs ih h hn ho hks hla hu q0;subst hvs0;go_enter Tryz.func300,Tryz.ntmps300;go_wp2_with fail
 refine HK.o.mono ?_;rintro e w1 ⟨rfl,hE⟩;have q0:=jaa Q0.o hE;have HR0:=Hd (H0.o.mono hE);clear hE hnl;go_wp2_with (first |(at_builtin;refine jbv Tryz.sEnts (HR0.o.mono ((ExtR w1).alloc _)) (.tmp 24) (.tmp 31) rfl rfl rfl (ja9 (Blk.new w1 _)) (news:=[.string (jbq p),.string u]) (by intro u hu;simp at hu;rcases hu with rfl | rfl <;> rfl) rfl rfl (by unfold maxLen;omega) (by omega) (fun v' w' r1 r2 r3=>?_);obtain⟨a5,c5,hv5⟩:=r1.sl;subst hv5;have HR1:Hid (ERow w0 w' (.slice a5 (n+1) c5) (n+1) (E++[(jbq p,u)])):=Hd (by rw[←jil, ←jbN]at r1;exact r1);have hla:=jbk (hB.o.keeps HR1.o.ext (fun e=>e))) |(refine jae 272 (.tmp 35) rfl rfl _ _ rfl hla ?_))
 go_loopw [2,37] (fun tv iv wr=>jtR w0 ks p (E++[(jbq p,u)]) tv iv wr) (fun _ iv _=>16 - (intOf iv).toNat)
 case atStart=>exact⟨0,(n+1),by omega,rfl,by rw[show entK ks p 0=[]from rfl,List.append_nil];exact HR1.o⟩
 case round =>
  obtain⟨k,m,hk,rfl,hR⟩:=hrel
  have HRR:=Hd hR;have hml:m≤(E++[(jbq p,u)]).length+sumF (fun i=>cntP (ks i)) k:=by
   have h1:=hR.len';have h2:=ji6 ks p k;rw[List.length_append]at h1;omega
  have HML:=Hd hml
  obtain⟨a2,c2,hvs⟩:=hR.sl
  clear hR hml
  by_cases hlt:k < 16
  ·have hix:=jeB vk hlt
   have hst:=jhx ks p k;rcases (H.o.kid k hlt).at'.kid with⟨hn,hv⟩ |⟨hn,T,x,hv⟩
   ·rw[hn,if_pos rfl,List.append_nil]at hst
    rw[hv]at hix;have HST:=Hd hst;clear hst hn hv;subst hvs;go_wp2;go_roundw
    case rel=>exact⟨k+1,m,by omega,by go_num,by rw[HST.o];exact HRR.o⟩
    case measure=>simp[intOf];omega
   ·rw[hn,if_neg ff]at hst
    rw[hv]at hix;have hq:=jdA T x;have hpo:=H.o.kid k hlt;rw[hv]at hpo;have hmt:=hpo.at'.meth;have hme:∀ w,(Go.method (469+1) T x "guilloche/trie.entries").run Tryz.prog w=.ok (jgf (ks k),x) w:=hmt.ent;have hee:=jeP (ks k);have hcv:=ji4 wr hlt;have hdk:=HDP.o k hn;have hsm:sumF (fun i=>cntP (ks i)) k+cntP (ks k)≤sumF (fun i=>cntP (ks i)) 16:=by
     have h1:=jej (fun i=>cntP (ks i)) (k+1) (15 - k);rw[show k+1+(15 - k)=16 by omega]at h1;exact h1
    have HCALL:=Hd (show ∀ wb,Ext wr wb→Calls Tryz.prog (jgf (ks k)) #[x,.string (p++nib1 k),.slice a2 m c2] wb (EnP w0 ((E++[(jbq p,u)])++entK ks p k++entP (ks k) (p++nib1 k)))from fun wb e=>HIH.o k hlt hn w0 wb T x (Dk k) (p++nib1 k) _ m (kk - 1) _ hpo (by rw[←hvs];exact HRR.o.mono e) hdk.2 (by rw[jdc];have:(nib1 k).size=1:=rfl;have:=HSZ.o;have:=hdk.1;omega) (by have:=HML.o;have:=HCN.o;omega));have HST:=Hd hst;have b1:(k:Int) < 256:=by omega
    have hcz:p.size+(nib1 k).size≤900001:=by have:(nib1 k).size=1:=rfl;have:=HSZ.o;omega
    have b2:(k:Int) < 16:=by omega
    clear hst hn hv hpo hmt hdk hsm;subst hvs;go_wp2_with fail
    refine (HCALL.o _ ((ExtR wr).alloc _)).mono ?_;rintro e w2 ⟨v2,m2,rfl,hR2⟩;have HR2:=Hd hR2
    obtain⟨a3,c3,hv3⟩:=hR2.sl
    subst hv3;clear hR2;go_wp2_with fail
    go_roundw
    case rel=>exact⟨k+1,m2,by omega,by go_num,by rw[HST.o, ←List.append_assoc];exact HR2.o⟩
    case measure=>simp[intOf];omega
  ·obtain rfl:k=16:=by omega
   subst hvs;go_wp2_with fail
   go_ret
   exact⟨_,_,rfl,HRR.o⟩
theorem jrN(w0 W:World)(u p:ByteArray)(ks:Nat→PA)(b:Nat)(vk:Nat→Value)(Dk:Nat→Nat→Prop)(hb:BrRd u ks b vk Dk w0)(v:Value)(n kk:Nat)(E:List Pair)(h:ERow w0 W v n E)(hd:Dp (.br u ks) kk)(hs:p.size+kk≤900000)(hn:n+1+sumF (fun i=>cntP (ks i)) 16≤100000)(ih:∀ i,i < 16→(ks i).isNil=false→EntC (ks i))(ho:jcV p=true)(hu:u.size=0) :
  Calls Tryz.prog 300 #[.pointer (some ⟨b,0,none⟩),.string p,v] W (EnP w0 (E++entK ks p 16)):=by
 have H:=Hd hb;have HDP:=Hd hd;have HSZ:=Hd hs;have HIH:=Hd ih;have HE0:=Hd h.ext;have H0:=Hd h;have hnl:=h.len';have q0:=jaa (hb.blk.cellL (i:=0) (v:=.string u) (by rfl)) h.ext;have hla:=jbk (hb.blk.keeps h.ext (fun e=>e));have hem:(⟨#[]⟩:ByteArray).toList.isEmpty=true:=by rw[ByteArray.toList_eq];rfl
 have hnn:=jjj;have hks:=jlL W p (by omega);unfold keyV at hks
 obtain⟨a,c,hvs0⟩:=h.sl
 rw[ho,if_pos rfl]at hks;have HK:=Hd hks;have hue:=jbF hu;subst hue;have HCN:=Hd (show E.length+sumF (fun i=>cntP (ks i)) 16≤100000 by omega);have hB:=Hd hb.blk;have Q0:=Hd q0;clear hb hd hs ih h hn ho hks hla hu q0;subst hvs0;go_enter Tryz.func300,Tryz.ntmps300;go_wp2_with fail
 refine HK.o.mono ?_;rintro e w1 ⟨rfl,hE⟩;have q0:=jaa Q0.o hE;have hla:=jbk (hB.o.keeps (HE0.o.trans hE) (fun e=>e));have HR1:=Hd (H0.o.mono hE);clear hE hnl;go_wp2_with (refine jae 272 (.tmp 35) rfl rfl _ _ rfl hla ?_)
 go_loopw [2,37] (fun tv iv wr=>jtR w0 ks p E tv iv wr) (fun _ iv _=>16 - (intOf iv).toNat)
 case atStart=>exact⟨0,n,by omega,rfl,by rw[show entK ks p 0=[]from rfl,List.append_nil];exact HR1.o⟩
 case round =>
  obtain⟨k,m,hk,rfl,hR⟩:=hrel
  have HRR:=Hd hR;have hml:m≤E.length+sumF (fun i=>cntP (ks i)) k:=by
   have h1:=hR.len';have h2:=ji6 ks p k;rw[List.length_append]at h1;omega
  have HML:=Hd hml
  obtain⟨a2,c2,hvs⟩:=hR.sl
  clear hR hml
  by_cases hlt:k < 16
  ·have hix:=jeB vk hlt
   have hst:=jhx ks p k;rcases (H.o.kid k hlt).at'.kid with⟨hn,hv⟩ |⟨hn,T,x,hv⟩
   ·rw[hn,if_pos rfl,List.append_nil]at hst
    rw[hv]at hix;have HST:=Hd hst;clear hst hn hv;subst hvs;go_wp2;go_roundw
    case rel=>exact⟨k+1,m,by omega,by go_num,by rw[HST.o];exact HRR.o⟩
    case measure=>simp[intOf];omega
   ·rw[hn,if_neg ff]at hst
    rw[hv]at hix;have hq:=jdA T x;have hpo:=H.o.kid k hlt;rw[hv]at hpo;have hmt:=hpo.at'.meth;have hme:∀ w,(Go.method (469+1) T x "guilloche/trie.entries").run Tryz.prog w=.ok (jgf (ks k),x) w:=hmt.ent;have hee:=jeP (ks k);have hcv:=ji4 wr hlt;have hdk:=HDP.o k hn;have hsm:sumF (fun i=>cntP (ks i)) k+cntP (ks k)≤sumF (fun i=>cntP (ks i)) 16:=by
     have h1:=jej (fun i=>cntP (ks i)) (k+1) (15 - k);rw[show k+1+(15 - k)=16 by omega]at h1;exact h1
    have HCALL:=Hd (show ∀ wb,Ext wr wb→Calls Tryz.prog (jgf (ks k)) #[x,.string (p++nib1 k),.slice a2 m c2] wb (EnP w0 (E++entK ks p k++entP (ks k) (p++nib1 k)))from fun wb e=>HIH.o k hlt hn w0 wb T x (Dk k) (p++nib1 k) _ m (kk - 1) _ hpo (by rw[←hvs];exact HRR.o.mono e) hdk.2 (by rw[jdc];have:(nib1 k).size=1:=rfl;have:=HSZ.o;have:=hdk.1;omega) (by have:=HML.o;have:=HCN.o;omega));have HST:=Hd hst;have b1:(k:Int) < 256:=by omega
    have hcz:p.size+(nib1 k).size≤900001:=by have:(nib1 k).size=1:=rfl;have:=HSZ.o;omega
    have b2:(k:Int) < 16:=by omega
    clear hst hn hv hpo hmt hdk hsm;subst hvs;go_wp2_with fail
    refine (HCALL.o _ ((ExtR wr).alloc _)).mono ?_;rintro e w2 ⟨v2,m2,rfl,hR2⟩;have HR2:=Hd hR2
    obtain⟨a3,c3,hv3⟩:=hR2.sl
    subst hv3;clear hR2;go_wp2_with fail
    go_roundw
    case rel=>exact⟨k+1,m2,by omega,by go_num,by rw[HST.o, ←List.append_assoc];exact HR2.o⟩
    case measure=>simp[intOf];omega
  ·obtain rfl:k=16:=by omega
   subst hvs;go_wp2_with fail
   go_ret
   exact⟨_,_,rfl,HRR.o⟩
end
section
open Go Go.RowKit
theorem jlR:∀ (P:PA),EntC P
 | .nil=>fun w0 W T x D p v n k E h _ _ _ _=>by cases h.at'
 | .no=>fun w0 W T x D p v n k E h hr _ _ _=>by
  have e:Value.iface T x=noV:=h.at';unfold noV at e;injection e with e1 e2;subst e1 e2;show Calls _ _ _ W (EnP w0 (E++[]));rw[List.append_nil];exact juY w0 W p v n E hr
 | .leaf q u=>fun w0 W T x D p v n k E h hr hd hs hn=>by
  obtain⟨b,e,h1,h2⟩:=h.at'
  unfold jh9 at e;injection e with e1 e2;subst e1 e2;have hd:q.size≤k:=hd;have hn:n+1≤100000:=hn;exact jwH w0 W q u p b h2 v n E hr (by omega) (by omega)
 | .ext q m=>fun w0 W T x D p v n k E h hr hd hs hn=>by
  obtain⟨b,T',x',Dn,e,h1,h2,h3,h4,h5⟩:=h.at'
  unfold extV at e;injection e with e1 e2;subst e1 e2;have hn:n+(1+cntP m)≤100000:=hn;have h1:=hd.1;exact jwm w0 W q m T' x' Dn b h2 h3 (fun z hz=>h.lt z (h5 z hz)) p v n (k - q.size) E hr hd.2 (by rw[jdc];omega) (by omega) (jlR m)
 | .br u ks=>fun w0 W T x D p v n k E h hr hd hs hn=>by
  obtain⟨b,vk,Dk,e,h1,h2,h3,h4⟩:=h.at'
  unfold brV at e;injection e with e1 e2;subst e1 e2;have hb:BrRd u ks b vk Dk w0:=⟨h2,fun i hi=>⟨(h3 i hi).1,fun z hz=>h.lt z ((h3 i hi).2.2 z hz)⟩⟩;have hn:n+(1+sumF (fun i=>cntP (ks i)) 16)≤100000:=hn;have ih:∀ i,i < 16→(ks i).isNil=false→EntC (ks i):=fun i _ _=>jlR (ks i);show Calls _ _ _ W (EnP w0 (E++((if u.size=0 then []else keyR p u)++entK ks p 16)));unfold keyR;rw[←List.append_assoc]
  by_cases hu:u.size=0
  ·rw[if_pos hu,List.append_nil]
   cases ho:jcV p with
   | true=>exact jrN w0 W u p ks b vk Dk hb v n k E hr hd hs (by omega) ih ho hu
   | false=>exact jpa w0 W u p ks b vk Dk hb v n k E hr hd hs (by omega) ih ho
  ·rw[if_neg hu]
   cases ho:jcV p with
   | true=>rw[if_pos rfl];exact jrO w0 W u p ks b vk Dk hb v n k E hr hd hs (by omega) ih ho hu
   | false=>rw[if_neg ff,List.append_nil];exact jpa w0 W u p ks b vk Dk hb v n k E hr hd hs (by omega) ih ho
end
end Go.Proofs.YtpaacnhboilkkaaGreatDoor
