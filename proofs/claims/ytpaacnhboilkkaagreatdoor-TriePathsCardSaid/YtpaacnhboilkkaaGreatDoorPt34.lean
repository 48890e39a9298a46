/- Parts of the proof, one behind the other: TrK, TrL, TrM, TrN, TrNb, TrO, StoreFb, StoreG, StoreH, StoreL, StoreM, StorePl, HoldA, HoldB. Each is under no condition but those that it states. -/
import Derived.Test.YtpaacnhboilkkaaGreatDoorPt33
import Derived.Test.YtpaacnhboilkkaaGreatDoorPt27
import Derived.Test.YtpaacnhboilkkaaGreatDoorPt22
import Derived.Test.YtpaacnhboilkkaaGreatDoorPt29
import Derived.Test.YtpaacnhboilkkaaGreatDoorPt19
namespace Go.Proofs.YtpaacnhboilkkaaGreatDoor
set_option linter.unusedSimpArgs false
set_option linter.unusedVariables false
set_option maxRecDepth 100000
set_option maxHeartbeats 16000000
section
open Go Go.RowKit
attribute [local go_sem] Oper.semAt_some
def cutV(s p:ByteArray):Value:=if preB p s then .tuple #[.string (s.extract p.size s.size),.bool true]else .tuple #[.string s,.bool false]
theorem cutPrefix0_c(w:World)(s p:ByteArray)(hs:s.size≤1000000)(hp:p.size≤1000000):Calls Tryz.prog 235 #[.string s,.string p] w fun e w'=>e=.returned (cutV s p)∧w'=w:=by
 unfold cutV
 cases hb:preB p s with
 | true =>
  have hle:=pre_size hb
  have c1:(p.size:Int)≤(s.size:Int):=by omega
  have HB:=Hd hb
  clear hb
  go_enter Tryz.func235,Tryz.ntmps235
  go_wp2_with fail
  refine (prefix_c w s p hs hp).mono ?_
  rintro e w1 ⟨rfl,rfl⟩
  rw[HB.out]
  go_wp2_with fail
  go_ret2
  exact⟨rfl,rfl⟩
 | false =>
  have HB:=Hd hb
  clear hb
  go_enter Tryz.func235,Tryz.ntmps235
  go_wp2_with fail
  refine (prefix_c w s p hs hp).mono ?_
  rintro e w1 ⟨rfl,rfl⟩
  rw[HB.out]
  go_wp2_with fail
  go_ret2
  exact⟨rfl,rfl⟩
theorem cutPrefix_c(w:World)(s p:ByteArray)(hs:s.size≤1000000)(hp:p.size≤1000000):Calls Tryz.prog 219 #[.string s,.string p] w fun e w'=>e=.returned (cutV s p)∧w'=w:=by
 have H:=Hd (cutPrefix0_c w s p hs hp)
 unfold cutV at *
 cases hb:preB p s with
 | true =>
  rw[hb,if_pos rfl]at H
  rw[if_pos rfl]
  clear hb
  go_enter Tryz.func219,Tryz.ntmps219
  go_wp2_with fail
  refine H.out.mono ?_
  rintro e w1 ⟨rfl,rfl⟩
  go_wp2_with fail
  go_ret2
  exact⟨rfl,rfl⟩
 | false =>
  rw[hb,if_neg ff]at H
  rw[if_neg ff]
  clear hb
  go_enter Tryz.func219,Tryz.ntmps219
  go_wp2_with fail
  refine H.out.mono ?_
  rintro e w1 ⟨rfl,rfl⟩
  go_wp2_with fail
  go_ret2
  exact⟨rfl,rfl⟩
def DropC(P:PA):Prop:=∀ (W:World) (T:TypeId) (x:Value) (D:Nat→Prop) (p:ByteArray),PaO P (.iface T x) D W→p.size≤900000→validN p=true→Dp P 900000 →
 Calls Tryz.prog (paDrop P) #[x,.string p] W (PaTo D W (dropP P p))
theorem nodrop_c(W:World)(D:Nat→Prop)(p:ByteArray):Calls Tryz.prog 303 #[.agg #[],.string p] W (PaTo D W .no):=by
 go_enter Tryz.func303,Tryz.ntmps303
 go_wp2_with fail
 go_ret
 exact PaTo.mk1 rfl (((ExtR W).alloc _).mono (fun _ _ e=>e.elim))
theorem ldrop_c(W:World)(D:Nat→Prop)(q v p:ByteArray)(b:Nat)(hB:Blk W b (.cells #[.string q,.string v] 267))(hD:D b):Calls Tryz.prog 289 #[.pointer (some ⟨b,0,none⟩),.string p] W (PaTo D W (dropP (.leaf q v) p)):=by
 have q0:=hB.cell (i:=0) (v:=.string q) (by rfl)
 have HB:=Hd hB
 have HD:=Hd hD
 have e1:dropP (.leaf q v) p=if p=q then .no else .leaf q v:=rfl
 rw[e1]
 clear hB hD e1
 by_cases hpq:p=q
 ·rw[if_pos hpq]
  have heq:(p.toList == q.toList)=true:=by rw[nbeq_sha];exact decide_eq_true hpq
  clear hpq
  go_enter Tryz.func289,Tryz.ntmps289
  go_wp2_with fail
  go_ret
  exact PaTo.mk1 rfl (Keeps.refl _ W)
 ·rw[if_neg hpq]
  have heq:(p.toList == q.toList)=false:=by rw[nbeq_sha];exact decide_eq_false hpq
  clear hpq
  go_enter Tryz.func289,Tryz.ntmps289
  go_wp2_with fail
  go_ret
  exact PaTo.mk1 ⟨b,rfl,.inl HD.out,HB.out⟩ (Keeps.refl _ W)
theorem drop_isNil:∀ (P:PA) (p:ByteArray),(dropP P p).isNil=false
 | .nil,_=>rfl
 | .no,_=>rfl
 | .leaf q v,p=>by
  unfold dropP
  split <;> rfl
 | .ext q n,p=>by
  unfold dropP
  split
  ·exact join_isNil (drop_isNil n _)
  ·rfl
 | .br v ks,p=>by
  have hl:∀ v ks,(leastP v ks).isNil=false:=by
   intro v ks
   have hm:∀ i∈idxK ks,(ks i).isNil=false:=fun i hi=>by
    have:=(List.mem_filter.1 hi).2
    simpa using this
   unfold leastP
   cases e:idxK ks with
   | nil =>
    show (if v.size=0 then PA.no else .leaf ⟨#[]⟩ v).isNil=false
    split <;> rfl
   | cons i r =>
    cases r with
    | nil =>
     show (if v.size=0 then joinP ⟨#[UInt8.ofNat i]⟩ (ks i)else .br v ks).isNil=false
     split
     ·exact join_isNil (hm i (by rw[e];exact List.mem_cons_self))
     ·rfl
    | cons j r=>rfl
  unfold dropP
  split
  ·exact hl _ _
  ·split
   ·rfl
   ·exact hl _ _
theorem edrop_no(W:World)(D:Nat→Prop)(q:ByteArray)(n:PA)(T:TypeId)(x:Value)(Dn:Nat→Prop)(b:Nat)(hB:Blk W b (.cells #[.string q,.iface T x] 270))(hDb:D b)(hv:PaAt n (.iface T x) Dn W)(hbn:¬ Dn b)(hD:∀ x,Dn x→D x∧x < W.heap.size)(p:ByteArray)(hp:validN p=true)(hqs:q.size≤900000)(hps:p.size≤900000)(hf:preB q p=false):Calls Tryz.prog 295 #[.pointer (some ⟨b,0,none⟩),.string p] W (PaTo D W (.ext q n)):=by
 have q0:=hB.cell (i:=0) (v:=.string q) (by rfl)
 have q1:=hB.cell (i:=1) (v:=.iface T x) (by rfl)
 have Q0:=Hd q0
 have Q1:=Hd q1
 have HB:=Hd hB
 have HV:=Hd hv
 have HD:=Hd (show ∀ z,Dn z→D z∧z < W.heap.size from hD)
 have HK:=Hd (And.intro hDb hbn)
 have hcp:=cutPrefix_c W p q (by omega) (by omega)
 unfold cutV at hcp
 rw[hf,if_neg ff]at hcp
 have HC:=Hd hcp
 clear hB hDb hv hbn hD hp hf hcp
 go_enter Tryz.func295,Tryz.ntmps295
 go_wp2_with fail
 refine HC.out.mono ?_
 rintro e w1 ⟨rfl,rfl⟩
 go_wp2_with fail
 go_ret
 exact PaTo.mk1 ⟨b,T,x,Dn,rfl,.inl HK.out.1,HB.out,HV.out,HK.out.2,fun z hz=>.inl (HD.out z hz).1⟩ (Keeps.refl _ _)
theorem edrop_in(W:World)(D:Nat→Prop)(q:ByteArray)(n:PA)(T:TypeId)(x:Value)(Dn:Nat→Prop)(b:Nat)(hB:Blk W b (.cells #[.string q,.iface T x] 270))(hDb:D b)(hv:PaAt n (.iface T x) Dn W)(hbn:¬ Dn b)(hD:∀ x,Dn x→D x∧x < W.heap.size)(p:ByteArray)(hp:validN p=true)(hqs:q.size≤900000)(hps:p.size≤900000)(hd:Dp n 900000)(hk:DropC n)(hf:preB q p=true) :
  Calls Tryz.prog 295 #[.pointer (some ⟨b,0,none⟩),.string p] W (PaTo D W (joinP q (dropP n (p.extract q.size p.size)))):=by
 have q0:=hB.cell (i:=0) (v:=.string q) (by rfl)
 have q1:=hB.cell (i:=1) (v:=.iface T x) (by rfl)
 have Q0:=Hd q0
 have Q1:=Hd q1
 have HB:=Hd hB
 have HV:=Hd hv
 have HD:=Hd (show ∀ z,Dn z→D z∧z < W.heap.size from hD)
 have hcp:=cutPrefix_c W p q (by omega) (by omega)
 unfold cutV at hcp
 rw[hf,if_pos rfl]at hcp
 have HC:=Hd hcp
 have hbl:=hB.lt
 have HNB:=Hd (show ¬(Dn b∨W.heap.size≤b)from fun e=>e.elim hbn (fun e=>by omega))
 have hval:validN (p.extract q.size p.size)=true:=valid_ext hp _ _
 have hsz:(p.extract q.size p.size).size≤900000:=by rw[ext_size];omega
 have HM:=Hd hv.meth
 have CALLEE:=Hd (show ∀ wb,Ext W wb→Calls Tryz.prog (paDrop n) #[x,.string (p.extract q.size p.size)] wb (PaTo Dn wb (dropP n (p.extract q.size p.size)))from fun wb e=>hk wb T x Dn _ ⟨hv.keeps e _ _ _ (fun _ _ e=>e),fun z hz=>Nat.lt_of_lt_of_le (hD z hz).2 e.size⟩ hsz hval hd)
 have HDP:=Hd (show Dp (dropP n (p.extract q.size p.size)) 1000000 from dp_mono _ _ _ (dp_drop n 900000 _ hd) (by omega))
 clear hB hDb hv hbn hD hp hd hk hf hval hsz hcp hbl
 go_enter Tryz.func295,Tryz.ntmps295
 go_wp2_with fail
 refine HC.out.mono ?_
 rintro e Wk ⟨rfl,rfl⟩
 go_wp2_with fail
 refine wp_region_mixD [0,1,2,3,4,5,6,7,8,9,10,11] [9,10] Ext (Keeps (fun z=>Dn z∨Wk.heap.size≤z)) ExtR ExtT (fun x y z h k=>Keeps.trans h k) (fun x y h=>h.mono (fun _ _ h=>h.elim)) (by kernel_rfl) (by kernel_rfl) (by kernel_rfl) ?_
 (refine mixd_pure _ rfl (by kernel_rfl) rfl rfl (fun K hK=>?_);go_big_quiet_op;refine hK _ ?_;clear hK K)
 refine mixd_val _ ((.pointer (some ⟨b,0,none⟩))) rfl (by kernel_rfl) rfl (fun w1 _=>by kernel_rfl) ?_
 simp only[Act.put,sA,sB,sC]
 (refine mixd_pure _ rfl (by kernel_rfl) rfl rfl (fun K hK=>?_);go_big_quiet_op;refine hK _ ?_;clear hK K)
 refine mixd_load ⟨b,0,none⟩ _ rfl (by kernel_rfl) rfl rfl (fun w1 h1=>run_load_na (fun w=>by kernel_rfl) (cell_keeps Q0.out (((Keeps.refl (fun z=>Dn z∨Wk.heap.size≤z) Wk).drew).trans h1) (by exact HNB.out))) ?_
 simp only[Act.put,sA,sB,sC]
 (refine mixd_pure _ rfl (by kernel_rfl) rfl rfl (fun K hK=>?_);go_big_quiet_op;refine hK _ ?_;clear hK K)
 refine mixd_val _ ((.pointer (some ⟨b,0,none⟩))) rfl (by kernel_rfl) rfl (fun w1 _=>by kernel_rfl) ?_
 simp only[Act.put,sA,sB,sC]
 (refine mixd_pure _ rfl (by kernel_rfl) rfl rfl (fun K hK=>?_);go_big_quiet_op;refine hK _ ?_;clear hK K)
 refine mixd_load ⟨b,1,none⟩ _ rfl (by kernel_rfl) rfl rfl (fun w1 h1=>run_load_na (fun w=>by kernel_rfl) (cell_keeps Q1.out (((Keeps.refl (fun z=>Dn z∨Wk.heap.size≤z) Wk).drew).trans h1) (by exact HNB.out))) ?_
 simp only[Act.put,sA,sB,sC]
 (refine mixd_pure _ rfl (by kernel_rfl) rfl rfl (fun K hK=>?_);go_big_quiet_op;refine hK _ ?_;clear hK K)
 refine mixd_hard _ rfl (by kernel_rfl) rfl (fun wb hb K hK=>?_)
 have kb:Ext Wk wb:=((ExtR Wk).drew).trans hb
 refine wp_callop (exec_invoke (f:=paDrop n) (vs:=#[.string (p.extract q.size p.size)]) rfl (HM.out.drop _) (enter_drop _) (by kernel_rfl)) ?_
 refine (CALLEE.out wb kb).mono ?_
 rintro e w2 ⟨v2,rfl,hP2,hk2⟩
 refine⟨v2,rfl,hK _ _ (hk2.mono (fun z _ hz=>.inl hz)) ?_⟩
 have HS:=Hd (And.intro kb (And.intro hP2 hk2))
 clear hK K hb kb hP2 hk2
 simp only[Act.put,sA,sB,sC]
 refine mixd_hard _ rfl (by kernel_rfl) rfl (fun wc hc K hK=>?_)
 obtain⟨kb,hP2,hk2⟩:=HS.out
 have kc:Keeps Dn wb wc:=hk2.trans (hc.mono (fun _ _ e=>e.elim))
 have hPc:PaAt (dropP n (p.extract q.size p.size)) v2 (Grow Dn wb wc) wc:=(hP2.keeps hc _ _ _ (fun _ _ e=>e)).mono (fun z hz=>hz.imp id (fun e=>⟨e.1,Nat.lt_of_lt_of_le e.2 hc.size⟩))
 have hOc:=PaTo.own hPc kc (fun z hz=>Nat.lt_of_lt_of_le (HD.out z hz).2 kb.size)
 refine wp_callop (exec_call Tryz.enterPj (by kernel_rfl)) ((pj_c wc _ q _ v2 hOc (drop_isNil _ _) (by omega) HDP.out).mono ?_)
 rintro e w5 ⟨v5,rfl,hP5,hE5⟩
 refine⟨v5,rfl,hK _ _ (hE5.mono (fun _ _ e=>e.elim)) ?_⟩
 have HZ:=Hd (And.intro kc (And.intro hP5 (And.intro hE5 (grow_lt hOc.lt hE5))))
 clear hK K hc kb hP2 hk2 kc hPc hOc hP5 hE5
 simp only[Act.put,sA,sB,sC]
 (refine mixd_pure _ rfl (by kernel_rfl) rfl rfl (fun K hK=>?_);go_big_quiet_op;refine hK _ ?_;clear hK K)
 refine mixd_end (by kernel_rfl) (fun wd hd=>?_)
 have HQ:=Hd hd
 clear hd
 go_wp2_with fail
 go_ret
 obtain⟨kb,_,_⟩:=HS.out
 obtain⟨kc,hP5,hE5,hl5⟩:=HZ.out
 have hd:=HQ.out
 refine PaTo.mk1 ((hP5.keeps hd _ _ _ (fun _ _ e=>e)).mono (fun z hz=>?_)) (((kb.mono (fun _ _ e=>e.elim):Keeps D Wk wb).trans (kc.mono (fun z _ hz=>(HD.out z hz).1))).trans ((hE5.trans hd).mono (fun _ _ e=>e.elim)))
 have hzl:=Nat.lt_of_lt_of_le (hl5 z hz) hd.size
 rcases hz with (hz | hz) | hz
 ·exact .inl (HD.out z hz).1
 ·exact .inr ⟨Nat.le_trans kb.size hz.1,hzl⟩
 ·exact .inr ⟨Nat.le_trans (Nat.le_trans kb.size kc.size) hz.1,hzl⟩
theorem Tryz.uKids:Tryz.prog.underlying 272=some (.array 16 94):=by kernel_rfl
theorem Tryz.iKids:(Tryz.prog.info? 272).map (·.size)=some 16:=by kernel_rfl
theorem Tryz.partOne:(Tryz.prog.info? 94).map (·.size)=some 1:=by kernel_rfl
theorem Tryz.partAgg(w:World):(isAgg 94).run Tryz.prog w=.ok false w:=by kernel_rfl
def kidsL(vk:Nat→Value):List Value:=(List.range 16).map vk
theorem kidsL_at(vk:Nat→Value){i:Nat}(h:i < 16):(kidsL vk)[i]?=some (vk i):=by
 unfold kidsL
 rw[List.getElem?_map,List.getElem?_range h];rfl
theorem run_load_kids{W:World}{b:Nat}{u:ByteArray}{vk:Nat→Value}(hB:Blk W b (.cells (brC u vk).toArray 274)):(Instr.loadAt 272 (.pointer (some ⟨b,1,none⟩))).run Tryz.prog W=.ok (.agg (kidsL vk).toArray) W:=by
 have hrg:W.rangeAt b 1 (kidsL vk):=fun j v hv=>hB.cellL (by rw[Nat.add_comm];exact hv)
 have hld:=run_loadVar_mid (P:=Tryz.prog) W b 1 272 _ _ hrg Tryz.uKids rfl (by unfold kidsL;simp only[List.length_map,List.length_range];exact Tryz.iKids)
 simp[Instr.loadAt,Instr.sureAddr,Sem.run_bind,Result.andThen,hld]
theorem run_kid(vk:Nat→Value){i:Nat}(h:i < 16)(w:World):(Instr.index 272 (.agg (kidsL vk).toArray) (.int .i64 (i:Int))).run Tryz.prog w=.ok (vk i) w:=
 run_index_one Tryz.uKids Tryz.partOne Tryz.partAgg _ i h _ (kidsL_at vk h) w
theorem neq_part(T:TypeId)(x:Value)(w:World):(binOp .neq 94 (.iface T x) .nilIface).run Tryz.prog w=.ok (.bool true) w:=by kernel_rfl
theorem neq_nil(w:World):(binOp .neq 94 .nilIface .nilIface).run Tryz.prog w=.ok (.bool false) w:=by kernel_rfl
def idxN(ks:Nat→PA)(k:Nat):List Nat:=(List.range k).filter fun i => !(ks i).isNil
theorem idxN_step(ks:Nat→PA)(k:Nat):idxN ks (k+1)=idxN ks k++(if (ks k).isNil then []else [k]):=by
 unfold idxN
 rw[List.range_succ,List.filter_append]
 congr 1
 cases h:(ks k).isNil <;> simp[h]
theorem PaAt.kid{P:PA}{v:Value}{D:Nat→Prop}{W:World}(h:PaAt P v D W):(P.isNil=true∧v=.nilIface)∨(P.isNil=false∧∃ T x,v=.iface T x):=by
 cases hn:P.isNil with
 | true=>rw[isNil_eq hn]at h;exact .inl ⟨rfl,h⟩
 | false=>exact .inr ⟨rfl,h.form hn⟩
def LsRel(ks:Nat→PA)(W:World)(cv ov iv:Value)(wr:World):Prop:=∃ (k c o:Nat),k≤16∧iv=.int .i64 (k:Int)∧cv=.int .i64 (c:Int)∧ov=.int .i64 (o:Int)∧wr=W∧c=(idxN ks k).length∧o=(idxN ks k).getLast?.getD 0
theorem least_none(wr:World)(D:Nat→Prop)(v:ByteArray)(ks:Nat→PA)(b:Nat)(h:PaO (.br v ks) (brV b) D wr)(hi:idxK ks=[])(hv:v.size=0) :
  Calls Tryz.prog 302 #[.pointer (some ⟨b,0,none⟩)] wr (PaTo D wr .no):=by
 obtain⟨vk,Dk,hb⟩:=h.br
 have hla:=run_load_kids hb.blk
 have q0:=hb.blk.cellL (i:=0) (v:=.string v) (by rfl)
 have H:=Hd hb
 have hem:(⟨#[]⟩:ByteArray).toList.isEmpty=true:=by rw[ByteArray.toList_eq];rfl
 obtain⟨W,hW⟩:∃ W,W=wr:=⟨_,rfl⟩
 have hve:=ba_empty hv
 subst hve
 have HI:=Hd hi
 clear h hb hi hv
 rw[←hW]at hla q0 H ⊢
 clear hW
 go_enter Tryz.func302,Tryz.ntmps302
 go_wp2_with (refine wpList_load_known 272 (.tmp 9) rfl rfl _ _ rfl hla ?_)
 go_loopw [3,4,11] (fun cv ov iv wr=>LsRel ks W cv ov iv wr) (fun _ _ iv _=>16 - (intOf iv).toNat)
 case atStart=>exact⟨0,0,0,by omega,rfl,rfl,rfl,rfl,rfl,rfl⟩
 case round =>
  obtain⟨k,c,o,hk,rfl,rfl,rfl,rfl,hc,ho⟩:=hrel
  by_cases hlt:k < 16
  ·have hix:=run_kid vk hlt
   have hst:=idxN_step ks k
   have hcl:c≤16:=by rw[hc];exact Nat.le_trans (List.length_filter_le _ _) (by rw[List.length_range];omega)
   have HCO:=Hd (And.intro hc ho)
   rcases (H.out.kid k hlt).1.kid with⟨hn,hv⟩ |⟨hn,T,x,hv⟩
   ·rw[hn,if_pos rfl,List.append_nil]at hst
    rw[hv]at hix
    have HST:=Hd hst
    clear hst hc ho hn hv
    go_wp2
    go_roundw
    case rel=>exact⟨k+1,c,o,by omega,by go_num,rfl,rfl,rfl,by rw[HST.out];exact HCO.out.1,by rw[HST.out];exact HCO.out.2⟩
    case measure=>simp[intOf];omega
   ·rw[hn,if_neg ff]at hst
    rw[hv]at hix
    have hq:=neq_part T x
    have HST:=Hd hst
    clear hst hc ho hn hv
    go_wp2
    go_roundw
    case rel=>exact⟨k+1,c+1,k,by omega,by go_num,by go_num,rfl,rfl,by rw[HST.out,List.length_append, ←HCO.out.1];rfl,by rw[HST.out];simp⟩
    case measure=>simp[intOf];omega
  ·obtain rfl:k=16:=by omega
   have HCO:=Hd (And.intro hc ho)
   clear hc ho
   have hc0:c=0:=by rw[HCO.out.1];show (idxK ks).length=0;rw[HI.out];rfl
   subst hc0
   go_wp2_with fail
   go_ret
   exact PaTo.mk1 rfl (Keeps.refl _ _)
theorem least_leaf(wr:World)(D:Nat→Prop)(v:ByteArray)(ks:Nat→PA)(b:Nat)(h:PaO (.br v ks) (brV b) D wr)(hi:idxK ks=[])(hv:v.size≠0) :
  Calls Tryz.prog 302 #[.pointer (some ⟨b,0,none⟩)] wr (PaTo D wr (.leaf ⟨#[]⟩ v)):=by
 obtain⟨vk,Dk,hb⟩:=h.br
 have hla:=run_load_kids hb.blk
 have q0:=hb.blk.cellL (i:=0) (v:=.string v) (by rfl)
 have H:=Hd hb
 have hem:(⟨#[]⟩:ByteArray).toList.isEmpty=true:=by rw[ByteArray.toList_eq];rfl
 have hve:=list_ne hv
 clear hv
 obtain⟨W,hW⟩:∃ W,W=wr:=⟨_,rfl⟩
 have HI:=Hd hi
 rw[←hW]at hla q0 H ⊢
 clear h hb hi hW
 go_enter Tryz.func302,Tryz.ntmps302
 go_wp2_with (refine wpList_load_known 272 (.tmp 9) rfl rfl _ _ rfl hla ?_)
 go_loopw [3,4,11] (fun cv ov iv wr=>LsRel ks W cv ov iv wr) (fun _ _ iv _=>16 - (intOf iv).toNat)
 case atStart=>exact⟨0,0,0,by omega,rfl,rfl,rfl,rfl,rfl,rfl⟩
 case round =>
  obtain⟨k,c,o,hk,rfl,rfl,rfl,rfl,hc,ho⟩:=hrel
  by_cases hlt:k < 16
  ·have hix:=run_kid vk hlt
   have hst:=idxN_step ks k
   have hcl:c≤16:=by rw[hc];exact Nat.le_trans (List.length_filter_le _ _) (by rw[List.length_range];omega)
   have HCO:=Hd (And.intro hc ho)
   rcases (H.out.kid k hlt).1.kid with⟨hn,hv⟩ |⟨hn,T,x,hv⟩
   ·rw[hn,if_pos rfl,List.append_nil]at hst
    rw[hv]at hix
    have HST:=Hd hst
    clear hst hc ho hn hv
    go_wp2
    go_roundw
    case rel=>exact⟨k+1,c,o,by omega,by go_num,rfl,rfl,rfl,by rw[HST.out];exact HCO.out.1,by rw[HST.out];exact HCO.out.2⟩
    case measure=>simp[intOf];omega
   ·rw[hn,if_neg ff]at hst
    rw[hv]at hix
    have hq:=neq_part T x
    have HST:=Hd hst
    clear hst hc ho hn hv
    go_wp2
    go_roundw
    case rel=>exact⟨k+1,c+1,k,by omega,by go_num,by go_num,rfl,rfl,by rw[HST.out,List.length_append, ←HCO.out.1];rfl,by rw[HST.out];simp⟩
    case measure=>simp[intOf];omega
  ·obtain rfl:k=16:=by omega
   have HCO:=Hd (And.intro hc ho)
   clear hc ho
   have hc0:c=0:=by rw[HCO.out.1];show (idxK ks).length=0;rw[HI.out];rfl
   subst hc0
   go_wp2_with fail
   go_ret
   have hB:=Blk.new wr (.cells #[.string ⟨#[]⟩,.string v] 267)
   exact PaTo.mk1 ⟨_,rfl,.inr ⟨Nat.le_refl _,hB.lt⟩,hB⟩ (((ExtR wr).alloc _).mono (fun _ _ e=>e.elim))
theorem least_keep1(wr:World)(D:Nat→Prop)(v:ByteArray)(ks:Nat→PA)(b:Nat)(h:PaO (.br v ks) (brV b) D wr)(i:Nat)(hi:idxK ks=[i])(hv:v.size≠0) :
  Calls Tryz.prog 302 #[.pointer (some ⟨b,0,none⟩)] wr (PaTo D wr (.br v ks)):=by
 obtain⟨vk,Dk,hb⟩:=h.br
 have hla:=run_load_kids hb.blk
 have q0:=hb.blk.cellL (i:=0) (v:=.string v) (by rfl)
 have H:=Hd hb
 have hem:(⟨#[]⟩:ByteArray).toList.isEmpty=true:=by rw[ByteArray.toList_eq];rfl
 have hve:=list_ne hv
 clear hv
 obtain⟨W,hW⟩:∃ W,W=wr:=⟨_,rfl⟩
 have HI:=Hd hi
 rw[←hW]at hla q0 H ⊢
 clear h hb hi hW
 go_enter Tryz.func302,Tryz.ntmps302
 go_wp2_with (refine wpList_load_known 272 (.tmp 9) rfl rfl _ _ rfl hla ?_)
 go_loopw [3,4,11] (fun cv ov iv wr=>LsRel ks W cv ov iv wr) (fun _ _ iv _=>16 - (intOf iv).toNat)
 case atStart=>exact⟨0,0,0,by omega,rfl,rfl,rfl,rfl,rfl,rfl⟩
 case round =>
  obtain⟨k,c,o,hk,rfl,rfl,rfl,rfl,hc,ho⟩:=hrel
  by_cases hlt:k < 16
  ·have hix:=run_kid vk hlt
   have hst:=idxN_step ks k
   have hcl:c≤16:=by rw[hc];exact Nat.le_trans (List.length_filter_le _ _) (by rw[List.length_range];omega)
   have HCO:=Hd (And.intro hc ho)
   rcases (H.out.kid k hlt).1.kid with⟨hn,hv⟩ |⟨hn,T,x,hv⟩
   ·rw[hn,if_pos rfl,List.append_nil]at hst
    rw[hv]at hix
    have HST:=Hd hst
    clear hst hc ho hn hv
    go_wp2
    go_roundw
    case rel=>exact⟨k+1,c,o,by omega,by go_num,rfl,rfl,rfl,by rw[HST.out];exact HCO.out.1,by rw[HST.out];exact HCO.out.2⟩
    case measure=>simp[intOf];omega
   ·rw[hn,if_neg ff]at hst
    rw[hv]at hix
    have hq:=neq_part T x
    have HST:=Hd hst
    clear hst hc ho hn hv
    go_wp2
    go_roundw
    case rel=>exact⟨k+1,c+1,k,by omega,by go_num,by go_num,rfl,rfl,by rw[HST.out,List.length_append, ←HCO.out.1];rfl,by rw[HST.out];simp⟩
    case measure=>simp[intOf];omega
  ·obtain rfl:k=16:=by omega
   have HCO:=Hd (And.intro hc ho)
   clear hc ho
   have hc0:c=1:=by rw[HCO.out.1];show (idxK ks).length=1;rw[HI.out];rfl
   subst hc0
   go_wp2_with fail
   go_ret
   exact PaTo.mk1 (H.out.pa.at'.mono (fun x hx=>.inl hx)) (Keeps.refl _ _)
theorem least_keep2(wr:World)(D:Nat→Prop)(v:ByteArray)(ks:Nat→PA)(b:Nat)(h:PaO (.br v ks) (brV b) D wr)(hi:2≤(idxK ks).length) :
  Calls Tryz.prog 302 #[.pointer (some ⟨b,0,none⟩)] wr (PaTo D wr (.br v ks)):=by
 obtain⟨vk,Dk,hb⟩:=h.br
 have hla:=run_load_kids hb.blk
 have q0:=hb.blk.cellL (i:=0) (v:=.string v) (by rfl)
 have H:=Hd hb
 have hem:(⟨#[]⟩:ByteArray).toList.isEmpty=true:=by rw[ByteArray.toList_eq];rfl
 obtain⟨W,hW⟩:∃ W,W=wr:=⟨_,rfl⟩
 have HI:=Hd hi
 rw[←hW]at hla q0 H ⊢
 clear h hb hi hW
 go_enter Tryz.func302,Tryz.ntmps302
 go_wp2_with (refine wpList_load_known 272 (.tmp 9) rfl rfl _ _ rfl hla ?_)
 go_loopw [3,4,11] (fun cv ov iv wr=>LsRel ks W cv ov iv wr) (fun _ _ iv _=>16 - (intOf iv).toNat)
 case atStart=>exact⟨0,0,0,by omega,rfl,rfl,rfl,rfl,rfl,rfl⟩
 case round =>
  obtain⟨k,c,o,hk,rfl,rfl,rfl,rfl,hc,ho⟩:=hrel
  by_cases hlt:k < 16
  ·have hix:=run_kid vk hlt
   have hst:=idxN_step ks k
   have hcl:c≤16:=by rw[hc];exact Nat.le_trans (List.length_filter_le _ _) (by rw[List.length_range];omega)
   have HCO:=Hd (And.intro hc ho)
   rcases (H.out.kid k hlt).1.kid with⟨hn,hv⟩ |⟨hn,T,x,hv⟩
   ·rw[hn,if_pos rfl,List.append_nil]at hst
    rw[hv]at hix
    have HST:=Hd hst
    clear hst hc ho hn hv
    go_wp2
    go_roundw
    case rel=>exact⟨k+1,c,o,by omega,by go_num,rfl,rfl,rfl,by rw[HST.out];exact HCO.out.1,by rw[HST.out];exact HCO.out.2⟩
    case measure=>simp[intOf];omega
   ·rw[hn,if_neg ff]at hst
    rw[hv]at hix
    have hq:=neq_part T x
    have HST:=Hd hst
    clear hst hc ho hn hv
    go_wp2
    go_roundw
    case rel=>exact⟨k+1,c+1,k,by omega,by go_num,by go_num,rfl,rfl,by rw[HST.out,List.length_append, ←HCO.out.1];rfl,by rw[HST.out];simp⟩
    case measure=>simp[intOf];omega
  ·obtain rfl:k=16:=by omega
   have HCO:=Hd (And.intro hc ho)
   clear hc ho
   have hc2:2≤c:=by rw[HCO.out.1];exact HI.out
   have g0:((c:Int) == 0)=false:=by simp;omega
   have g1:((c:Int) == 1)=false:=by simp;omega
   clear hc2
   go_wp2_with fail
   go_ret
   exact PaTo.mk1 (H.out.pa.at'.mono (fun x hx=>.inl hx)) (Keeps.refl _ _)
theorem least_one(wr:World)(D:Nat→Prop)(v:ByteArray)(ks:Nat→PA)(b:Nat)(h:PaO (.br v ks) (brV b) D wr)(i:Nat)(hi:idxK ks=[i])(hv:v.size=0)(hd:Dp (.br v ks) 900000) :
  Calls Tryz.prog 302 #[.pointer (some ⟨b,0,none⟩)] wr (PaTo D wr (joinP (nib1 i) (ks i))):=by
 obtain⟨vk,Dk,hb⟩:=h.br
 have hla:=run_load_kids hb.blk
 have q0:=hb.blk.cellL (i:=0) (v:=.string v) (by rfl)
 have H:=Hd hb
 have hem:(⟨#[]⟩:ByteArray).toList.isEmpty=true:=by rw[ByteArray.toList_eq];rfl
 have hve:=ba_empty hv
 subst hve
 have HDD:=Hd hd
 clear hv hd
 obtain⟨W,hW⟩:∃ W,W=wr:=⟨_,rfl⟩
 have HI:=Hd hi
 rw[←hW]at hla q0 H ⊢
 clear h hb hi hW
 go_enter Tryz.func302,Tryz.ntmps302
 go_wp2_with (refine wpList_load_known 272 (.tmp 9) rfl rfl _ _ rfl hla ?_)
 go_loopw [3,4,11] (fun cv ov iv wr=>LsRel ks W cv ov iv wr) (fun _ _ iv _=>16 - (intOf iv).toNat)
 case atStart=>exact⟨0,0,0,by omega,rfl,rfl,rfl,rfl,rfl,rfl⟩
 case round =>
  obtain⟨k,c,o,hk,rfl,rfl,rfl,rfl,hc,ho⟩:=hrel
  by_cases hlt:k < 16
  ·have hix:=run_kid vk hlt
   have hst:=idxN_step ks k
   have hcl:c≤16:=by rw[hc];exact Nat.le_trans (List.length_filter_le _ _) (by rw[List.length_range];omega)
   have HCO:=Hd (And.intro hc ho)
   rcases (H.out.kid k hlt).1.kid with⟨hn,hv⟩ |⟨hn,T,x,hv⟩
   ·rw[hn,if_pos rfl,List.append_nil]at hst
    rw[hv]at hix
    have HST:=Hd hst
    clear hst hc ho hn hv
    go_wp2
    go_roundw
    case rel=>exact⟨k+1,c,o,by omega,by go_num,rfl,rfl,rfl,by rw[HST.out];exact HCO.out.1,by rw[HST.out];exact HCO.out.2⟩
    case measure=>simp[intOf];omega
   ·rw[hn,if_neg ff]at hst
    rw[hv]at hix
    have hq:=neq_part T x
    have HST:=Hd hst
    clear hst hc ho hn hv
    go_wp2
    go_roundw
    case rel=>exact⟨k+1,c+1,k,by omega,by go_num,by go_num,rfl,rfl,by rw[HST.out,List.length_append, ←HCO.out.1];rfl,by rw[HST.out];simp⟩
    case measure=>simp[intOf];omega
  ·obtain rfl:k=16:=by omega
   have HCO:=Hd (And.intro hc ho)
   clear hc ho
   have hc0:c=1:=by rw[HCO.out.1];show (idxK ks).length=1;rw[HI.out];rfl
   have ho0:o=i:=by rw[HCO.out.2];show (idxK ks).getLast?.getD 0=i;rw[HI.out];rfl
   subst hc0
   have him:i∈idxK ks:=by rw[HI.out];exact List.mem_cons_self
   have hi16:i < 16:=List.mem_range.1 (List.mem_filter.1 him).1
   have hnn:(ks i).isNil=false:=by have:=(List.mem_filter.1 him).2;simpa using this
   rw[←ho0]at him hi16 hnn
   have HOI:=Hd ho0
   have hkid:=H.out.kid o hi16
   obtain⟨T,x,hvk⟩:=hkid.1.form hnn
   have qk:=H.out.blk.cellL (brC_kid ⟨#[]⟩ vk hi16)
   rw[hvk]at qk
   have QK:=Hd qk
   have HKI:=Hd (show PaAt (ks o) (.iface T x) (Dk o) wr∧(∀ z,Dk o z→z < wr.heap.size)∧(ks o).isNil=false∧Dp (ks o) 1000000 from⟨by rw[←hvk];exact hkid.1,fun z hz=>H.out.lt z (hkid.2.2 z hz),hnn,dp_mono _ _ _ (HDD.out o hnn).2 (by omega)⟩)
   have HDS:=Hd hkid.2.2
   have ho16:o < 16:=hi16
   have c1:(o:Int) < 16:=by omega
   have c2:(o:Int) < 256:=by omega
   clear him hi16 hnn hkid hvk qk ho0 hla
   go_wp2_with fail
   refine wp_region_mixK [0,1,4,5,6,7,8,9,2,3,10,11] (Ext) ExtR ExtT (by kernel_rfl) (by kernel_rfl) (by kernel_rfl) ?_
   iterate 4 (refine mixk_pure _ rfl (by kernel_rfl) rfl rfl (fun K hK=>?_);go_big_quiet_op;refine hK _ ?_;clear hK K)
   refine mixk_val _ ((.pointer (some ⟨b,0,none⟩))) rfl (by kernel_rfl) rfl (fun w1 _=>by kernel_rfl) ?_
   simp only[Act.put,sA,sB,sC]
   iterate 2 (refine mixk_pure _ rfl (by kernel_rfl) rfl rfl (fun K hK=>?_);go_big_quiet_op;refine hK _ ?_;clear hK K)
   refine mixk_load ⟨b,1+o,none⟩ _ rfl (by kernel_rfl) rfl rfl (fun w1 h1=>run_load_na (fun w=>by kernel_rfl) (cell_ext (cell_ext QK.out (drewE _)) h1)) ?_
   simp only[Act.put,sA,sB,sC]
   refine mixk_hard _ rfl (by kernel_rfl) rfl (fun w2 he K hK=>?_)
   have HX2:=Hd (show Ext wr w2 from(drewE _).trans he)
   clear he
   go_simp
   refine hK _ _ ((Keeps.refl _ w2).alloc _) ?_
   clear hK K
   refine mixk_val _ (.string (nib1 o)) rfl (by kernel_rfl) rfl (fun w3 h3=>exec_conv_lit (by kernel_rfl) h3 (fun e=>e) ho16) ?_
   simp only[Act.put,sA,sB,sC]
   refine mixk_hard _ rfl (by kernel_rfl) rfl (fun wc hc K hK=>?_)
   have kc:Ext wr wc:=(HX2.out.alloc _).trans hc
   refine wp_callop (exec_call Tryz.enterPj (by kernel_rfl)) ((pj_c wc (Dk o) (nib1 o) (ks o) (.iface T x) ⟨HKI.out.1.keeps kc _ _ _ (fun _ _ e=>e),fun z hz=>Nat.lt_of_lt_of_le (HKI.out.2.1 z hz) kc.size⟩ HKI.out.2.2.1 (by show 1≤_;omega) HKI.out.2.2.2).mono ?_)
   rintro e w5 ⟨v5,rfl,hP5,hE5⟩
   refine⟨v5,rfl,hK _ _ hE5 ?_⟩
   have HZ:=Hd (And.intro kc (And.intro hP5 hE5))
   clear hK K hc kc hP5 hE5
   simp only[Act.put,sA,sB,sC]
   (refine mixk_pure _ rfl (by kernel_rfl) rfl rfl (fun K hK=>?_);go_big_quiet_op;refine hK _ ?_;clear hK K)
   refine mixk_end (by kernel_rfl) (fun wd hd=>?_)
   have HQ:=Hd hd
   clear hd
   go_wp2_with fail
   go_ret
   obtain⟨kc,hP5,hE5⟩:=HZ.out
   have hd:=HQ.out
   rw[←HOI.out]
   refine PaTo.mk1 ((hP5.keeps hd _ _ _ (fun _ _ e=>e)).mono (fun z hz=>?_)) (((kc.trans hE5).trans hd).mono (fun _ _ e=>e.elim))
   rcases hz with hz | hz
   ·exact .inl (HDS.out z hz)
   ·exact .inr ⟨Nat.le_trans kc.size hz.1,Nat.lt_of_lt_of_le hz.2 hd.size⟩
theorem least_c(W:World)(D:Nat→Prop)(v:ByteArray)(ks:Nat→PA)(b:Nat)(h:PaO (.br v ks) (brV b) D W)(hd:Dp (.br v ks) 900000) :
  Calls Tryz.prog 302 #[.pointer (some ⟨b,0,none⟩)] W (PaTo D W (leastP v ks)):=by
 unfold leastP
 cases hi:idxK ks with
 | nil =>
  show Calls _ _ _ W (PaTo D W (if v.size=0 then PA.no else .leaf ⟨#[]⟩ v))
  by_cases h0:v.size=0
  ·rw[if_pos h0];exact least_none W D v ks b h hi h0
  ·rw[if_neg h0];exact least_leaf W D v ks b h hi h0
 | cons i r =>
  cases r with
  | nil =>
   show Calls _ _ _ W (PaTo D W (if v.size=0 then joinP ⟨#[UInt8.ofNat i]⟩ (ks i)else .br v ks))
   by_cases h0:v.size=0
   ·rw[if_pos h0];exact least_one W D v ks b h i hi h0 hd
   ·rw[if_neg h0];exact least_keep1 W D v ks b h i hi h0
  | cons j r=>exact least_keep2 W D v ks b h (by rw[hi];simp)
theorem bdrop_nil(W:World)(D:Nat→Prop)(v:ByteArray)(ks:Nat→PA)(b:Nat)(h:PaO (.br v ks) (brV b) D W)(hd:Dp (.br v ks) 900000):Calls Tryz.prog 299 #[.pointer (some ⟨b,0,none⟩),.string ⟨#[]⟩] W (PaTo D W (leastP ⟨#[]⟩ ks)):=by
 obtain⟨vk,Dk,hb⟩:=h.br
 have q0:=hb.blk.cellL (i:=0) (v:=.string v) (by rfl)
 have f0:W.frozen? ⟨b,0,none⟩=false:=hb.blk.frozen
 have H:=Hd hb
 have HD:=Hd (show Dp (.br ⟨#[]⟩ ks) 900000 from hd)
 have hem:(⟨#[]⟩:ByteArray).toList.isEmpty=true:=by rw[ByteArray.toList_eq];rfl
 clear h hb hd
 go_enter Tryz.func299,Tryz.ntmps299
 go_wp2_with fail
 obtain⟨W1,hW1⟩:∃ W1,W1=W.setCell ⟨b,0,none⟩ (.string ⟨#[]⟩):=⟨_,rfl⟩
 have hk1:Keeps D W W1:=by rw[hW1];exact (Keeps.oneSet W ⟨b,0,none⟩ (.string ⟨#[]⟩)).mono (fun x _ e=>by have e:x=b:=e;rw[e];exact H.out.mem)
 have hb1:=H.out.val ⟨#[]⟩
 rw[←hW1]at hb1 ⊢
 have HB:=Hd (And.intro hb1 hk1)
 clear hb1 hk1 hW1
 refine (least_c W1 D ⟨#[]⟩ ks b HB.out.1.pa HD.out).mono ?_
 rintro e w2 ⟨v2,rfl,hP2,hk2⟩
 have HZ:=Hd (And.intro hP2 hk2)
 clear hP2 hk2
 go_wp2_with fail
 go_ret
 obtain⟨hP2,hk2⟩:=HZ.out
 exact PaTo.mk1 (hP2.mono (fun x hx=>hx.imp id (fun e=>⟨Nat.le_trans HB.out.2.size e.1,e.2⟩))) (HB.out.2.trans hk2)
theorem bdrop_no(W:World)(D:Nat→Prop)(v:ByteArray)(ks:Nat→PA)(b:Nat)(h:PaO (.br v ks) (brV b) D W)(p:ByteArray)(h0:p.size≠0)(hp:validN p=true)(hs:p.size≤900000)(hn:(ks (headN p)).isNil=true):Calls Tryz.prog 299 #[.pointer (some ⟨b,0,none⟩),.string p] W (PaTo D W (.br v ks)):=by
 obtain⟨vk,Dk,hb⟩:=h.br
 obtain⟨y,t,hy⟩:=size_ne h0
 obtain⟨e1,e2⟩:=headN_of hy
 have hi16:=head_lt hp h0
 obtain⟨g0,hg0⟩:=first_is hy
 have hne:=list_ne h0
 have hval:=valid_rest hp
 have hrs:(restB p).size≤900000:=by unfold restB;rw[ext_size];omega
 have hI:headN p=(p[0]'g0).toNat:=by rw[e1,hg0]
 have hkid:=hb.kid (headN p) hi16
 have hvk:vk (headN p)=.nilIface:=by have:=hkid.1;rw[isNil_eq hn]at this;exact this
 have q1:=hb.blk.cellL (brC_kid v vk hi16)
 rw[hvk]at q1
 have HB:=Hd hb
 have HHI:=Hd hI
 have HI16:=Hd hi16
 have c1:(0:Int) < (p.size:Int):=by omega
 have c2:((p[0]'g0).toNat:Int) < 16:=by omega
 have c3:(1:Int)≤(p.size:Int):=by omega
 rw[hI]at q1
 have hq:=eq_nil
 clear h hvk hy e1 e2 h0 hp hn hg0 hval hrs hi16 hI hb hkid
 go_enter Tryz.func299,Tryz.ntmps299
 go_wp2_with fail
 go_ret
 exact PaTo.mk1 (HB.out.pa.at'.mono (fun x hx=>.inl hx)) (Keeps.refl _ _)
theorem part_isno{P:PA}{T:TypeId}{x:Value}{D:Nat→Prop}{W:World}(h:PaAt P (.iface T x) D W)(hn:P.isNo=false)(w:World):(Instr.typeAssert (.iface T x) 94 276 true).run Tryz.prog w=.ok (.tuple #[.agg #[],.bool false]) w:=by
 cases P with
 | nil=>cases h
 | no=>cases hn
 | leaf q u=>obtain⟨b,h,_⟩:=h;unfold leafV at h;injection h with h1 h2;subst h1 h2;kernel_rfl
 | ext q n=>obtain⟨b,_,_,_,h,_⟩:=h;unfold extV at h;injection h with h1 h2;subst h1 h2;kernel_rfl
 | br u ks=>obtain⟨b,_,_,h,_⟩:=h;unfold brV at h;injection h with h1 h2;subst h1 h2;kernel_rfl
theorem bdrop_kid(W:World)(D:Nat→Prop)(v:ByteArray)(ks:Nat→PA)(b:Nat)(h:PaO (.br v ks) (brV b) D W)(p:ByteArray)(h0:p.size≠0)(hp:validN p=true)(hs:p.size≤900000)(hn:(ks (headN p)).isNil=false)(hd:Dp (.br v ks) 900000)(hk:DropC (ks (headN p)))(hno:(dropP (ks (headN p)) (restB p)).isNo=false) :
  Calls Tryz.prog 299 #[.pointer (some ⟨b,0,none⟩),.string p] W (PaTo D W (leastP v (setK ks (headN p) (dropP (ks (headN p)) (restB p))))):=by
 obtain⟨vk,Dk,hb⟩:=h.br
 obtain⟨y,t,hy⟩:=size_ne h0
 obtain⟨e1,e2⟩:=headN_of hy
 have hi16:=head_lt hp h0
 obtain⟨g0,hg0⟩:=first_is hy
 have hne:=list_ne h0
 have hval:=valid_rest hp
 have hrs:(restB p).size≤900000:=by unfold restB;rw[ext_size];omega
 have hI:headN p=(p[0]'g0).toNat:=by rw[e1,hg0]
 have hkid:=hb.kid (headN p) hi16
 obtain⟨T,x,hvk⟩:=hkid.1.form hn
 have q1:=hb.blk.cellL (brC_kid v vk hi16)
 rw[hvk]at q1
 have Q1:=Hd q1
 have HB:=Hd hb
 have HM:=Hd ((show PaAt (ks (headN p)) (.iface T x) (Dk (headN p)) W by rw[←hvk];exact hkid.1).meth)
 have hd1:=hd (headN p) hn
 have CALLEE:=Hd (show ∀ wb,Ext W wb→Calls Tryz.prog (paDrop (ks (headN p))) #[x,.string (restB p)] wb (PaTo (Dk (headN p)) wb (dropP (ks (headN p)) (restB p)))from fun wb e=>hk wb T x _ _ ⟨(show PaAt (ks (headN p)) (.iface T x) (Dk (headN p)) W by rw[←hvk];exact hkid.1).keeps e _ _ _ (fun _ _ e=>e),fun z hz=>Nat.lt_of_lt_of_le (hb.lt z (hkid.2.2 z hz)) e.size⟩ hrs hval (dp_mono _ _ _ hd1.2 (by omega)))
 have HDL:=Hd (show Dp (.br v (setK ks (headN p) (dropP (ks (headN p)) (restB p)))) 900000 from dp_set hd hd1.1 (dp_drop _ _ _ hd1.2) v)
 have HNF:=Hd (show ¬(Dk (headN p) b∨W.heap.size≤b)from fun e=>e.elim (hb.kid _ hi16).2.1 (fun e=>by have:=hb.lt b hb.mem;omega))
 have hQ:=eq_part T x
 have HHI:=Hd hI
 have HI16:=Hd hi16
 have c1:(0:Int) < (p.size:Int):=by omega
 have c2:((p[0]'g0).toNat:Int) < 16:=by omega
 have c3:(1:Int)≤(p.size:Int):=by omega
 rw[hI]at q1
 have HNO:=Hd hno
 clear h hvk hy e1 e2 h0 hp hn hg0 hval hrs hi16 hI hb hkid hd hd1 hk hno
 go_enter Tryz.func299,Tryz.ntmps299
 go_wp2_with fail
 refine wp_region_mixZ [0,1,2,3,4,5,6,7,8,9,10,11,13,14,12,15] 16 [12] Ext (Keeps (fun z=>Dk (headN p) z∨W.heap.size≤z)) ExtR ExtT (fun x y z h k=>Keeps.trans h k) (fun x y h=>h.mono (fun _ _ h=>h.elim)) (by kernel_rfl) (by kernel_rfl) (by kernel_rfl) ?_
 iterate 4 (refine mixz_pure _ rfl (by kernel_rfl) rfl rfl (fun K hK=>?_);go_big_quiet_op;refine hK _ ?_;clear hK K)
 refine mixz_any _ ((.pointer (some ⟨b,0,none⟩))) rfl (by kernel_rfl) rfl (fun w1=>by kernel_rfl) ?_
 simp only[Act.put,sA,sB,sC]
 iterate 2 (refine mixz_pure _ rfl (by kernel_rfl) rfl rfl (fun K hK=>?_);go_big_quiet_op;refine hK _ ?_;clear hK K)
 refine mixz_load ⟨b,1+(p[0]'g0).toNat,none⟩ _ rfl (by kernel_rfl) (by kernel_rfl) rfl rfl (fun w1 h1=>run_load_na (fun w=>by kernel_rfl) (by rw[←HHI.out];exact cell_keeps Q1.out (((Keeps.refl (fun z=>Dk (headN p) z∨W.heap.size≤z) W).drew).trans h1) (by exact HNF.out))) ?_
 simp only[Act.put,sA,sB,sC]
 iterate 2 (refine mixz_pure _ rfl (by kernel_rfl) rfl rfl (fun K hK=>?_);go_big_quiet_op;refine hK _ ?_;clear hK K)
 refine mixz_any _ (.iface T x) rfl (by kernel_rfl) rfl (fun w1=>by kernel_rfl) ?_
 simp only[Act.put,sA,sB,sC]
 (refine mixz_pure _ rfl (by kernel_rfl) rfl rfl (fun K hK=>?_);go_big_quiet_op;refine hK _ ?_;clear hK K)
 refine mixz_any _ ((.pointer (some ⟨b,0,none⟩))) rfl (by kernel_rfl) rfl (fun w1=>by kernel_rfl) ?_
 simp only[Act.put,sA,sB,sC]
 (refine mixz_pure _ rfl (by kernel_rfl) rfl rfl (fun K hK=>?_);go_big_quiet_op;refine hK _ ?_;clear hK K)
 refine mixz_hard _ rfl (by kernel_rfl) rfl (fun wb hb K hK=>?_)
 have kb:Ext W wb:=(drewE _).trans hb
 refine wp_callop (exec_invoke (f:=paDrop (ks (headN p))) (vs:=#[.string (restB p)]) rfl (HM.out.drop _) (enter_drop _) (by kernel_rfl)) ?_
 refine (CALLEE.out wb kb).mono ?_
 rintro e w2 ⟨v2,rfl,hP2,hk2⟩
 refine⟨v2,rfl,hK _ _ (hk2.mono (fun z _ hz=>.inl hz)) ?_⟩
 have HS:=Hd (And.intro kb (And.intro hP2 hk2))
 clear hK K hb kb hP2 hk2
 simp only[Act.put,sA,sB,sC]
 (refine mixz_pure _ rfl (by kernel_rfl) rfl rfl (fun K hK=>?_);go_big_quiet_op;refine hK _ ?_;clear hK K)
 refine mixz_last _ rfl (by kernel_rfl) rfl (fun wc hc K hK=>?_)
 obtain⟨hb,hP2,hk2⟩:=HS.out
 have hb2:=HB.out.keeps (F:=fun _=>False) (hb) (fun _ _ e=>e)
 have kc:Keeps (Dk (headN p)) wb wc:=hk2.trans (hc.mono (fun _ _ e=>e.elim))
 have hPc:PaAt (dropP (ks (headN p)) (restB p)) v2 (Grow (Dk (headN p)) wb wc) wc:=(hP2.keeps hc _ _ _ (fun _ _ e=>e)).mono (fun z hz=>hz.imp id (fun e=>⟨e.1,Nat.lt_of_lt_of_le e.2 hc.size⟩))
 obtain⟨T2,x2,rfl⟩:=hPc.form (drop_isNil _ _)
 have ht:=hb2.turn HI16.out kc hPc
 have htk:=hb2.turn_keeps HI16.out kc (.iface T2 x2)
 obtain⟨old,q7⟩:∃ v,wc.cell? ⟨b,1+headN p,none⟩=some v:=⟨_,(hb2.blk.keeps kc (hb2.kid _ HI16.out).2.1).cellL (List.getElem?_eq_getElem (by rw[brC_len];have:=HI16.out;omega))⟩
 have f7:wc.frozen? ⟨b,1+headN p,none⟩=false:=(hb2.blk.keeps kc (hb2.kid _ HI16.out).2.1).frozen
 obtain⟨W3,hW3⟩:∃ W3,W3=wc.setCell ⟨b,1+headN p,none⟩ (.iface T2 x2):=⟨_,rfl⟩
 rw[←hW3]at ht htk
 obtain⟨vk3,hvk3⟩:∃ vk3,vk3=setV vk (headN p) (.iface T2 x2):=⟨_,rfl⟩
 obtain⟨Dk3,hDk3⟩:∃ Dk3,Dk3=(fun j=>if j=headN p then Grow (Dk (headN p)) wb wc else Dk j):=⟨_,rfl⟩
 rw[←hvk3, ←hDk3]at ht
 have hq3:W3.cell? ⟨b,1+headN p,none⟩=some (.iface T2 x2):=by
  have:=ht.blk.cellL (brC_kid v vk3 HI16.out)
  rw[this,hvk3];show some (setV vk (headN p) (.iface T2 x2) (headN p))=_;unfold setV;rw[if_pos rfl]
 have HT:=Hd (And.intro ht (And.intro htk (And.intro hb (show W3.heap.size=wc.heap.size by rw[hW3];exact World.size_setCell _ _ _))))
 have HPF:=Hd hPc
 rw[HHI.out]at q7 f7 hW3 hq3
 clear hb hP2 hk2 hb2 kc hPc ht htk hc
 go_simp
 rw[←hW3]
 refine hK _ _ ?_
 clear hK K q7 f7 hW3 hvk3 hDk3
 have hta:∀ w,(Instr.typeAssert (.iface T2 x2) 94 276 true).run Tryz.prog w=.ok (.tuple #[.agg #[],.bool false]) w:=part_isno HPF.out HNO.out
 go_wp2_with fail
 obtain⟨W4,hW4⟩:∃ W4,W4=W3.alloc (.cells #[] 276):=⟨_,rfl⟩
 have hE4:Ext W3 W4:=by rw[hW4];exact (ExtR W3).alloc _
 rw[←hW4]
 have HB4:=Hd (And.intro (HT.out.1.keeps hE4 (fun _ _ e=>e)) hE4)
 clear hE4 hW4
 refine (least_c W4 _ v _ b HB4.out.1.pa HDL.out).mono ?_
 rintro e w6 ⟨v6,rfl,hP6,hk6⟩
 have HZ:=Hd (And.intro hP6 (And.intro hk6 (grow_lt HB4.out.1.lt hk6)))
 clear hP6 hk6
 go_wp2_with fail
 go_ret
 obtain⟨hP6,hk6,hl6⟩:=HZ.out
 obtain⟨ht,htk,hb,hs3⟩:=HT.out
 obtain⟨_,hE4⟩:=HB4.out
 have hsz:W.heap.size≤W3.heap.size:=by have:=hb.size;have:=htk.size;omega
 have hsz4:=hE4.size
 have g1:∀ z,Grow D wb wc z→D z∨W.heap.size≤z:=fun z hz=>hz.imp id (fun e=>Nat.le_trans hb.size e.1)
 refine PaTo.mk1 (hP6.mono (fun z hz=>?_)) ?_
 ·have hl:=hl6 z hz
  rcases hz with hz | hz
  ·exact (g1 z hz).imp id (fun e=>⟨e,hl⟩)
  ·exact .inr ⟨by have:=hz.1;omega,hl⟩
 ·have k1:Keeps D W W3:=(hb.mono (fun _ _ e=>e.elim):Keeps D W wb).trans htk
  have k2:Keeps D W W4:=k1.trans (hE4.mono (fun _ _ e=>e.elim))
  exact k2.trans' hk6 (fun z hz e=>(g1 z e).elim id (fun e=>by omega))
theorem bdrop_gone(W:World)(D:Nat→Prop)(v:ByteArray)(ks:Nat→PA)(b:Nat)(h:PaO (.br v ks) (brV b) D W)(p:ByteArray)(h0:p.size≠0)(hp:validN p=true)(hs:p.size≤900000)(hn:(ks (headN p)).isNil=false)(hd:Dp (.br v ks) 900000)(hk:DropC (ks (headN p)))(hno:(dropP (ks (headN p)) (restB p)).isNo=true) :
  Calls Tryz.prog 299 #[.pointer (some ⟨b,0,none⟩),.string p] W (PaTo D W (leastP v (setK ks (headN p) .nil))):=by
 obtain⟨vk,Dk,hb⟩:=h.br
 obtain⟨y,t,hy⟩:=size_ne h0
 obtain⟨e1,e2⟩:=headN_of hy
 have hi16:=head_lt hp h0
 obtain⟨g0,hg0⟩:=first_is hy
 have hne:=list_ne h0
 have hval:=valid_rest hp
 have hrs:(restB p).size≤900000:=by unfold restB;rw[ext_size];omega
 have hI:headN p=(p[0]'g0).toNat:=by rw[e1,hg0]
 have hkid:=hb.kid (headN p) hi16
 obtain⟨T,x,hvk⟩:=hkid.1.form hn
 have q1:=hb.blk.cellL (brC_kid v vk hi16)
 rw[hvk]at q1
 have Q1:=Hd q1
 have HB:=Hd hb
 have HM:=Hd ((show PaAt (ks (headN p)) (.iface T x) (Dk (headN p)) W by rw[←hvk];exact hkid.1).meth)
 have hd1:=hd (headN p) hn
 have CALLEE:=Hd (show ∀ wb,Ext W wb→Calls Tryz.prog (paDrop (ks (headN p))) #[x,.string (restB p)] wb (PaTo (Dk (headN p)) wb (dropP (ks (headN p)) (restB p)))from fun wb e=>hk wb T x _ _ ⟨(show PaAt (ks (headN p)) (.iface T x) (Dk (headN p)) W by rw[←hvk];exact hkid.1).keeps e _ _ _ (fun _ _ e=>e),fun z hz=>Nat.lt_of_lt_of_le (hb.lt z (hkid.2.2 z hz)) e.size⟩ hrs hval (dp_mono _ _ _ hd1.2 (by omega)))
 have HDL:=Hd (show Dp (.br v (setK ks (headN p) .nil)) 900000 from dp_set hd hd1.1 ((show Dp PA.nil (900000 - 1)from trivial)) v)
 have HNF:=Hd (show ¬(Dk (headN p) b∨W.heap.size≤b)from fun e=>e.elim (hb.kid _ hi16).2.1 (fun e=>by have:=hb.lt b hb.mem;omega))
 have hQ:=eq_part T x
 have HHI:=Hd hI
 have HI16:=Hd hi16
 have c1:(0:Int) < (p.size:Int):=by omega
 have c2:((p[0]'g0).toNat:Int) < 16:=by omega
 have c3:(1:Int)≤(p.size:Int):=by omega
 rw[hI]at q1
 have HNO:=Hd hno
 clear h hvk hy e1 e2 h0 hp hn hg0 hval hrs hi16 hI hb hkid hd hd1 hk hno
 go_enter Tryz.func299,Tryz.ntmps299
 go_wp2_with fail
 refine wp_region_mixZ [0,1,2,3,4,5,6,7,8,9,10,11,13,14,12,15] 16 [12] Ext (Keeps (fun z=>Dk (headN p) z∨W.heap.size≤z)) ExtR ExtT (fun x y z h k=>Keeps.trans h k) (fun x y h=>h.mono (fun _ _ h=>h.elim)) (by kernel_rfl) (by kernel_rfl) (by kernel_rfl) ?_
 iterate 4 (refine mixz_pure _ rfl (by kernel_rfl) rfl rfl (fun K hK=>?_);go_big_quiet_op;refine hK _ ?_;clear hK K)
 refine mixz_any _ ((.pointer (some ⟨b,0,none⟩))) rfl (by kernel_rfl) rfl (fun w1=>by kernel_rfl) ?_
 simp only[Act.put,sA,sB,sC]
 iterate 2 (refine mixz_pure _ rfl (by kernel_rfl) rfl rfl (fun K hK=>?_);go_big_quiet_op;refine hK _ ?_;clear hK K)
 refine mixz_load ⟨b,1+(p[0]'g0).toNat,none⟩ _ rfl (by kernel_rfl) (by kernel_rfl) rfl rfl (fun w1 h1=>run_load_na (fun w=>by kernel_rfl) (by rw[←HHI.out];exact cell_keeps Q1.out (((Keeps.refl (fun z=>Dk (headN p) z∨W.heap.size≤z) W).drew).trans h1) (by exact HNF.out))) ?_
 simp only[Act.put,sA,sB,sC]
 iterate 2 (refine mixz_pure _ rfl (by kernel_rfl) rfl rfl (fun K hK=>?_);go_big_quiet_op;refine hK _ ?_;clear hK K)
 refine mixz_any _ (.iface T x) rfl (by kernel_rfl) rfl (fun w1=>by kernel_rfl) ?_
 simp only[Act.put,sA,sB,sC]
 (refine mixz_pure _ rfl (by kernel_rfl) rfl rfl (fun K hK=>?_);go_big_quiet_op;refine hK _ ?_;clear hK K)
 refine mixz_any _ ((.pointer (some ⟨b,0,none⟩))) rfl (by kernel_rfl) rfl (fun w1=>by kernel_rfl) ?_
 simp only[Act.put,sA,sB,sC]
 (refine mixz_pure _ rfl (by kernel_rfl) rfl rfl (fun K hK=>?_);go_big_quiet_op;refine hK _ ?_;clear hK K)
 refine mixz_hard _ rfl (by kernel_rfl) rfl (fun wb hb K hK=>?_)
 have kb:Ext W wb:=(drewE _).trans hb
 refine wp_callop (exec_invoke (f:=paDrop (ks (headN p))) (vs:=#[.string (restB p)]) rfl (HM.out.drop _) (enter_drop _) (by kernel_rfl)) ?_
 refine (CALLEE.out wb kb).mono ?_
 rintro e w2 ⟨v2,rfl,hP2,hk2⟩
 refine⟨v2,rfl,hK _ _ (hk2.mono (fun z _ hz=>.inl hz)) ?_⟩
 have HS:=Hd (And.intro kb (And.intro hP2 hk2))
 clear hK K hb kb hP2 hk2
 simp only[Act.put,sA,sB,sC]
 (refine mixz_pure _ rfl (by kernel_rfl) rfl rfl (fun K hK=>?_);go_big_quiet_op;refine hK _ ?_;clear hK K)
 refine mixz_last _ rfl (by kernel_rfl) rfl (fun wc hc K hK=>?_)
 obtain⟨hb,hP2,hk2⟩:=HS.out
 have hb2:=HB.out.keeps (F:=fun _=>False) (hb) (fun _ _ e=>e)
 have kc:Keeps (Dk (headN p)) wb wc:=hk2.trans (hc.mono (fun _ _ e=>e.elim))
 have hPc:PaAt (dropP (ks (headN p)) (restB p)) v2 (Grow (Dk (headN p)) wb wc) wc:=(hP2.keeps hc _ _ _ (fun _ _ e=>e)).mono (fun z hz=>hz.imp id (fun e=>⟨e.1,Nat.lt_of_lt_of_le e.2 hc.size⟩))
 obtain⟨T2,x2,rfl⟩:=hPc.form (drop_isNil _ _)
 have ht:=hb2.turn HI16.out kc hPc
 have htk:=hb2.turn_keeps HI16.out kc (.iface T2 x2)
 obtain⟨old,q7⟩:∃ v,wc.cell? ⟨b,1+headN p,none⟩=some v:=⟨_,(hb2.blk.keeps kc (hb2.kid _ HI16.out).2.1).cellL (List.getElem?_eq_getElem (by rw[brC_len];have:=HI16.out;omega))⟩
 have f7:wc.frozen? ⟨b,1+headN p,none⟩=false:=(hb2.blk.keeps kc (hb2.kid _ HI16.out).2.1).frozen
 obtain⟨W3,hW3⟩:∃ W3,W3=wc.setCell ⟨b,1+headN p,none⟩ (.iface T2 x2):=⟨_,rfl⟩
 rw[←hW3]at ht htk
 obtain⟨vk3,hvk3⟩:∃ vk3,vk3=setV vk (headN p) (.iface T2 x2):=⟨_,rfl⟩
 obtain⟨Dk3,hDk3⟩:∃ Dk3,Dk3=(fun j=>if j=headN p then Grow (Dk (headN p)) wb wc else Dk j):=⟨_,rfl⟩
 rw[←hvk3, ←hDk3]at ht
 have hq3:W3.cell? ⟨b,1+headN p,none⟩=some (.iface T2 x2):=by
  have:=ht.blk.cellL (brC_kid v vk3 HI16.out)
  rw[this,hvk3];show some (setV vk (headN p) (.iface T2 x2) (headN p))=_;unfold setV;rw[if_pos rfl]
 have HT:=Hd (And.intro ht (And.intro htk (And.intro hb (show W3.heap.size=wc.heap.size by rw[hW3];exact World.size_setCell _ _ _))))
 have HPF:=Hd hPc
 rw[HHI.out]at q7 f7 hW3 hq3
 clear hb hP2 hk2 hb2 kc hPc ht htk hc
 go_simp
 rw[←hW3]
 refine hK _ _ ?_
 clear hK K q7 f7 hW3 hvk3 hDk3
 have hnv:Value.iface T2 x2=noV:=by have:=HPF.out;rw[isNo_eq HNO.out]at this;exact this
 unfold noV at hnv
 injection hnv with hn1 hn2
 subst hn1 hn2
 have hta:∀ w,(Instr.typeAssert (.iface 276 (.agg #[])) 94 276 true).run Tryz.prog w=.ok (.tuple #[.agg #[],.bool true]) w:=fun w=>by kernel_rfl
 have q4:(W3.alloc (.cells #[] 276)).cell? ⟨b,1+(p[0]'g0).toNat,none⟩=some (.iface 276 (.agg #[])):=cell_ext hq3 ((ExtR W3).alloc _)
 have f4:(W3.alloc (.cells #[] 276)).frozen? ⟨b,1+(p[0]'g0).toNat,none⟩=false:=(HT.out.1.blk.alloc _).frozen
 clear q4
 have q4:=cell_ext hq3 ((ExtR W3).alloc (.cells #[] 276))
 go_wp2_with fail
 obtain⟨W4,hW4⟩:∃ W4,W4=W3.alloc (.cells #[] 276):=⟨_,rfl⟩
 have hE4:Ext W3 W4:=by rw[hW4];exact (ExtR W3).alloc _
 rw[←hW4]at q4 f4 ⊢
 have hb4:=HT.out.1.keeps hE4 (fun _ _ e=>e)
 have hb5:=hb4.turn HI16.out (P:=.nil) (v:=.nilIface) (Keeps.refl _ W4) rfl
 have hk5:=hb4.turn_keeps HI16.out (Keeps.refl _ W4) .nilIface
 obtain⟨W5,hW5⟩:∃ W5,W5=W4.setCell ⟨b,1+headN p,none⟩ .nilIface:=⟨_,rfl⟩
 rw[←hW5]at hb5 hk5
 rw[HHI.out]at hW5
 rw[←hW5]
 have hks:setK (setK ks (headN p) (dropP (ks (headN p)) (restB p))) (headN p) .nil=setK ks (headN p) .nil:=by
  funext j
  unfold setK
  by_cases e:j=headN p
  ·rw[if_pos e,if_pos e]
  ·rw[if_neg e,if_neg e,if_neg e]
 rw[hks]at hb5
 have hsz5:W4.heap.size≤W5.heap.size:=hk5.size
 have HB5:=Hd (And.intro hb5 (And.intro hk5 (And.intro hE4 hsz5)))
 clear hb4 hb5 hk5 hE4 hW4 hW5 q4 f4 hks hsz5
 refine (least_c W5 _ v _ b HB5.out.1.pa HDL.out).mono ?_
 rintro e w6 ⟨v6,rfl,hP6,hk6⟩
 have HZ:=Hd (And.intro hP6 (And.intro hk6 (grow_lt HB5.out.1.lt hk6)))
 clear hP6 hk6
 go_wp2_with fail
 go_ret
 obtain⟨hP6,hk6,hl6⟩:=HZ.out
 obtain⟨ht,htk,hb,hs3⟩:=HT.out
 obtain⟨_,hk5,hE4,hs5⟩:=HB5.out
 have hsz:W.heap.size≤W3.heap.size:=by have:=hb.size;have:=htk.size;omega
 have hsz4:=hE4.size
 have g1:∀ z,Grow D wb wc z→D z∨W.heap.size≤z:=fun z hz=>hz.imp id (fun e=>Nat.le_trans hb.size e.1)
 have g2:∀ z,Grow (Grow D wb wc) W4 W4 z→D z∨W.heap.size≤z:=fun z hz=>hz.elim (g1 z) (fun e=>by omega)
 refine PaTo.mk1 (hP6.mono (fun z hz=>?_)) ?_
 ·have hl:=hl6 z hz
  rcases hz with hz | hz
  ·exact (g2 z hz).imp id (fun e=>⟨e,hl⟩)
  ·exact .inr ⟨by have:=hz.1;omega,hl⟩
 ·have k1:Keeps D W W3:=(hb.mono (fun _ _ e=>e.elim):Keeps D W wb).trans htk
  have k2:Keeps D W W4:=k1.trans (hE4.mono (fun _ _ e=>e.elim))
  have k3:Keeps D W W5:=k2.trans' hk5 (fun z hz e=>(g1 z e).elim id (fun e=>by omega))
  exact k3.trans' hk6 (fun z hz e=>(g2 z e).elim id (fun e=>by omega))
theorem padrop_c:∀ (P:PA),VaP P→DropC P
 | .nil,_=>fun W T x D p h _ _ _=>by cases h.at'
 | .no,_=>fun W T x D p h _ _ _=>by
  have e:Value.iface T x=noV:=h.at'
  unfold noV at e
  injection e with e1 e2
  subst e1 e2
  exact nodrop_c W D p
 | .leaf q v,hv=>fun W T x D p h hp hn hd=>by
  obtain⟨b,e,h1,h2⟩:=h.at'
  unfold leafV at e
  injection e with e1 e2
  subst e1 e2
  exact ldrop_c W D q v p b h2 h1
 | .ext q n,hv=>fun W T x D p h hp hn hd=>by
  obtain⟨b,T',x',Dn,e,h1,h2,h3,h4,h5⟩:=h.at'
  unfold extV at e
  injection e with e1 e2
  subst e1 e2
  have hDn:∀ z,Dn z→D z∧z < W.heap.size:=fun z hz=>⟨h5 z hz,h.lt z (h5 z hz)⟩
  show Calls _ _ _ W (PaTo D W (dropP (.ext q n) p))
  unfold dropP
  cases hf:preB q p with
  | true =>
   rw[if_pos rfl]
   exact edrop_in W D q n T' x' Dn b h2 h1 h3 h4 hDn p hn hd.1 hp (dp_mono _ _ _ hd.2 (by omega)) (padrop_c n hv.2) hf
  | false =>
   rw[if_neg ff]
   exact edrop_no W D q n T' x' Dn b h2 h1 h3 h4 hDn p hn hd.1 hp hf
 | .br v ks,hv=>fun W T x D p h hp hn hd=>by
  obtain⟨b,vk,Dk,e,_⟩:=h.at'
  unfold brV at e
  injection e with e1 e2
  subst e1 e2
  show Calls _ _ _ W (PaTo D W (dropP (.br v ks) p))
  unfold dropP
  by_cases h0:p.size=0
  ·rw[if_pos h0,ba_empty h0]
   exact bdrop_nil W D v ks b h hd
  ·rw[if_neg h0]
   cases hk:(ks (headN p)).isNil with
   | true=>rw[if_pos rfl];exact bdrop_no W D v ks b h p h0 hn hp hk
   | false =>
    rw[if_neg ff]
    unfold unNo
    cases hno:(dropP (ks (headN p)) (restB p)).isNo with
    | true=>rw[if_pos rfl];exact bdrop_gone W D v ks b h p h0 hn hp hk hd (padrop_c (ks (headN p)) (hv _)) hno
    | false=>rw[if_neg ff];exact bdrop_kid W D v ks b h p h0 hn hp hk hd (padrop_c (ks (headN p)) (hv _)) hno
def cntP:PA→Nat
 | .nil=>0
 | .no=>1
 | .leaf _ _=>1
 | .ext _ n=>1+cntP n
 | .br _ ks=>1+sumF (fun i=>cntP (ks i)) 16
theorem keyR_len(p v:ByteArray):(keyR p v).length≤1:=by unfold keyR;split <;> simp
theorem flat_sum{α:Type}(g:Nat→List α)(f:Nat→Nat)(h:∀ i,(g i).length≤f i):∀ n,((List.range n).flatMap g).length≤sumF f n
 | 0=>by simp
 | n+1=>by
  rw[List.range_succ,List.flatMap_append,List.length_append]
  have:=flat_sum g f h n
  have:=h n
  simp only[List.flatMap_cons,List.flatMap_nil,List.append_nil,sumF]
  omega
theorem ent_len:∀ (P:PA) (p:ByteArray),(entP P p).length≤cntP P
 | .nil,_=>Nat.le_refl _
 | .no,_=>Nat.zero_le _
 | .leaf q v,p=>keyR_len _ _
 | .ext q n,p=>Nat.le_trans (ent_len n (p++q)) (Nat.le_add_left _ _)
 | .br v ks,p=>by
  show ((if v.size=0 then []else keyR p v)++(List.range 16).flatMap fun i=>if (ks i).isNil then []else entP (ks i) (p++nib1 i)).length≤1+sumF (fun i=>cntP (ks i)) 16
  rw[List.length_append]
  have h1:(if v.size=0 then []else keyR p v:List Pair).length≤1:=by
   split
   ·simp
   ·exact keyR_len _ _
  have h2:=flat_sum (fun i=>if (ks i).isNil then []else entP (ks i) (p++nib1 i)) (fun i=>cntP (ks i)) (fun i=>by
   show (if (ks i).isNil=true then ([]:List Pair)else entP (ks i) (p++nib1 i)).length≤cntP (ks i)
   split
   ·simp
   ·exact ent_len (ks i) _) 16
  omega
theorem ERow.len'{w0 w:World}{v:Value}{n:Nat}{xs:List Pair}(h:ERow w0 w v n xs):n=xs.length:=by have:=h.len;rw[cellsP_len]at this;omega
def EnP(w0:World)(xs:List Pair)(e:Ending)(w':World):Prop:=∃ v n,e=.returned v∧ERow w0 w' v n xs
def EntC(P:PA):Prop:=∀ (w0 W:World) (T:TypeId) (x:Value) (D:Nat→Prop) (p:ByteArray) (v:Value) (n k:Nat) (E:List Pair),PaO P (.iface T x) D w0→ERow w0 W v n E→Dp P k→p.size+k≤900000→n+cntP P≤100000 →
 Calls Tryz.prog (paEnt P) #[x,.string p,v] W (EnP w0 (E++entP P p))
theorem noent_c(w0 W:World)(p:ByteArray)(v:Value)(n:Nat)(E:List Pair)(h:ERow w0 W v n E):Calls Tryz.prog 304 #[.agg #[],.string p,v] W (EnP w0 E):=by
 have H:=Hd h
 obtain⟨a,c,rfl⟩:=h.sl
 clear h
 go_enter Tryz.func304,Tryz.ntmps304
 go_wp2_with fail
 go_ret
 exact⟨_,n,rfl,H.out.mono ((ExtR W).alloc _)⟩
theorem cellsP_one(k v:ByteArray):cellsP [(k,v)]=[.string k,.string v]:=rfl
theorem lent_c(w0 W:World)(q u p:ByteArray)(b:Nat)(hB:Blk w0 b (.cells #[.string q,.string u] 267))(v:Value)(n:Nat)(E:List Pair)(h:ERow w0 W v n E)(hs:p.size+q.size≤900000)(hn:n≤100000) :
  Calls Tryz.prog 290 #[.pointer (some ⟨b,0,none⟩),.string p,v] W (EnP w0 (E++keyR (p++q) u)):=by
 have q0:=cell_ext (hB.cell (i:=0) (v:=.string q) (by rfl)) h.ext
 have Q1:=Hd (cell_ext (hB.cell (i:=1) (v:=.string u) (by rfl)) h.ext)
 have H:=Hd h
 obtain⟨a,c,rfl⟩:=h.sl
 have hk:=fun w=>key_c w (p++q) (by rw[app_size];omega)
 unfold keyV at hk
 unfold keyR
 cases hok:keyOk (p++q)with
 | false =>
  rw[if_neg ff,List.append_nil]
  rw[hok,if_neg ff]at hk
  have HK:=Hd hk
  clear h hB hk hok
  go_enter Tryz.func290,Tryz.ntmps290
  go_wp2_with fail
  refine (HK.out W).mono ?_
  rintro e w1 ⟨rfl,hE⟩
  have HE:=Hd hE
  clear hE
  go_wp2_with fail
  go_ret
  exact⟨_,n,rfl,H.out.mono HE.out⟩
 | true =>
  rw[if_pos rfl]
  rw[hok,if_pos rfl]at hk
  have HK:=Hd hk
  clear h hB hk hok
  go_enter Tryz.func290,Tryz.ntmps290
  go_wp2_with fail
  refine (HK.out W).mono ?_
  rintro e w1 ⟨rfl,hE⟩
  have HE:=Hd hE
  have q1:=cell_ext Q1.out hE
  have HR:=Hd (H.out.mono hE)
  clear hE
  go_wp2_with (at_builtin;refine wpList_app Tryz.sEnts (HR.out.mono ((ExtR w1).alloc _)) (.tmp 20) (.tmp 27) rfl rfl rfl (news_blk (Blk.new w1 _)) (news:=[.string (pairsB (p++q)),.string u]) (by intro u hu;simp at hu;rcases hu with rfl | rfl <;> rfl) rfl rfl (by unfold maxLen;omega) (by omega) (fun v' w' r1 r2 r3=>?_);obtain⟨a5,c5,hv5⟩:=r1.sl;subst hv5;have HR5:=Hd r1)
  go_ret
  exact⟨_,n+1,rfl,by have:=HR5.out;rw[←cellsP_one, ←cellsP_append]at this;exact this⟩
def Along(w0 a b:World):Prop:=Ext w0 a→Ext w0 b
theorem along_trans(w0 x y z:World)(h:Along w0 x y)(k:Along w0 y z):Along w0 x z:=fun e=>k (h e)
theorem along_ext(w0 x y:World)(h:Ext x y):Along w0 x y:=fun e=>e.trans h
theorem eent_c(w0 W:World)(q:ByteArray)(n:PA)(T:TypeId)(x:Value)(Dn:Nat→Prop)(b:Nat)(hB:Blk w0 b (.cells #[.string q,.iface T x] 270))(hv:PaAt n (.iface T x) Dn w0)(hD:∀ x,Dn x→x < w0.heap.size)(p:ByteArray)(v:Value)(m k:Nat)(E:List Pair)(h:ERow w0 W v m E)(hd:Dp n k)(hs:(p++q).size+k≤900000)(hn:m+cntP n≤100000)(hk:EntC n) :
  Calls Tryz.prog 296 #[.pointer (some ⟨b,0,none⟩),.string p,v] W (EnP w0 (E++entP n (p++q))):=by
 have Q0:=Hd (hB.cell (i:=0) (v:=.string q) (by rfl))
 have Q1:=Hd (hB.cell (i:=1) (v:=.iface T x) (by rfl))
 have HE0:=Hd h.ext
 have HM:=Hd hv.meth
 have hz:p.size+q.size≤900000:=by rw[←app_size];omega
 obtain⟨a,c,hvs⟩:=h.sl
 have CALLEE:=Hd (show ∀ wb,Ext W wb→Calls Tryz.prog (paEnt n) #[x,.string (p++q),v] wb (EnP w0 (E++entP n (p++q)))from fun wb e=>hk w0 wb T x Dn (p++q) v m k E ⟨hv,hD⟩ (h.mono e) hd hs hn)
 subst hvs
 clear hB hv hD h hd hs hn hk
 go_enter Tryz.func296,Tryz.ntmps296
 go_wp2_with fail
 refine wp_region_mixD [0,1,2,3,4,5,6,7,8,9,10,11,12,13,14] [13] Ext (Along w0) ExtR ExtT (along_trans w0) (along_ext w0) (by kernel_rfl) (by kernel_rfl) (by kernel_rfl) ?_
 (refine mixd_pure _ rfl (by kernel_rfl) rfl rfl (fun K hK=>?_);go_big_quiet_op;refine hK _ ?_;clear hK K)
 refine mixd_val _ ((.pointer (some ⟨b,0,none⟩))) rfl (by kernel_rfl) rfl (fun w1 _=>by kernel_rfl) ?_
 simp only[Act.put,sA,sB,sC]
 (refine mixd_pure _ rfl (by kernel_rfl) rfl rfl (fun K hK=>?_);go_big_quiet_op;refine hK _ ?_;clear hK K)
 refine mixd_load ⟨b,1,none⟩ _ rfl (by kernel_rfl) rfl rfl (fun w1 h1=>run_load_na (fun w=>by kernel_rfl) (cell_ext Q1.out (h1 (HE0.out.trans (drewE _))))) ?_
 simp only[Act.put,sA,sB,sC]
 iterate 2 (refine mixd_pure _ rfl (by kernel_rfl) rfl rfl (fun K hK=>?_);go_big_quiet_op;refine hK _ ?_;clear hK K)
 refine mixd_val _ ((.pointer (some ⟨b,0,none⟩))) rfl (by kernel_rfl) rfl (fun w1 _=>by kernel_rfl) ?_
 simp only[Act.put,sA,sB,sC]
 (refine mixd_pure _ rfl (by kernel_rfl) rfl rfl (fun K hK=>?_);go_big_quiet_op;refine hK _ ?_;clear hK K)
 refine mixd_load ⟨b,0,none⟩ _ rfl (by kernel_rfl) rfl rfl (fun w1 h1=>run_load_na (fun w=>by kernel_rfl) (cell_ext Q0.out (h1 (HE0.out.trans (drewE _))))) ?_
 simp only[Act.put,sA,sB,sC]
 iterate 2 (refine mixd_pure _ rfl (by kernel_rfl) rfl rfl (fun K hK=>?_);go_big_quiet_op;refine hK _ ?_;clear hK K)
 refine mixd_val _ (.iface T x) rfl (by kernel_rfl) rfl (fun w1 _=>by kernel_rfl) ?_
 simp only[Act.put,sA,sB,sC]
 (refine mixd_pure _ rfl (by kernel_rfl) rfl rfl (fun K hK=>?_);go_big_quiet_op;refine hK _ ?_;clear hK K)
 refine mixd_hard _ rfl (by kernel_rfl) rfl (fun wb hb K hK=>?_)
 have kb:Ext W wb:=(drewE _).trans hb
 refine wp_callop (exec_invoke (f:=paEnt n) (vs:=#[.string (p++q),.slice a m c]) rfl (HM.out.ent _) (enter_ent _) (by kernel_rfl)) ?_
 refine (CALLEE.out wb kb).mono ?_
 rintro e w2 ⟨v2,m2,rfl,hR2⟩
 refine⟨v2,rfl,hK _ _ (fun _=>hR2.ext) ?_⟩
 have HS:=Hd hR2
 clear hK K hb kb hR2
 simp only[Act.put,sA,sB,sC]
 (refine mixd_pure _ rfl (by kernel_rfl) rfl rfl (fun K hK=>?_);go_big_quiet_op;refine hK _ ?_;clear hK K)
 refine mixd_end (by kernel_rfl) (fun wd hd=>?_)
 have HQ:=Hd hd
 clear hd
 go_wp2_with fail
 go_ret
 exact⟨_,_,rfl,HS.out.mono HQ.out⟩
def entK(ks:Nat→PA)(p:ByteArray)(k:Nat):List Pair:=(List.range k).flatMap fun i=>if (ks i).isNil then []else entP (ks i) (p++nib1 i)
theorem entK_step(ks:Nat→PA)(p:ByteArray)(k:Nat):entK ks p (k+1)=entK ks p k++(if (ks k).isNil then []else entP (ks k) (p++nib1 k)):=by
 unfold entK
 rw[List.range_succ,List.flatMap_append]
 simp
theorem entK_len(ks:Nat→PA)(p:ByteArray)(k:Nat):(entK ks p k).length≤sumF (fun i=>cntP (ks i)) k:=flat_sum _ _ (fun i=>by
 show (if (ks i).isNil=true then ([]:List Pair)else entP (ks i) (p++nib1 i)).length≤cntP (ks i)
 split
 ·simp
 ·exact ent_len (ks i) _) k
theorem sumF_mono(f:Nat→Nat)(k:Nat):∀ d,sumF f k≤sumF f (k+d)
 | 0=>Nat.le_refl _
 | d+1=>Nat.le_trans (sumF_mono f k d) (Nat.le_add_right _ _)
def EkRel(w0:World)(ks:Nat→PA)(p:ByteArray)(E:List Pair)(tv iv:Value)(wr:World):Prop:=∃ (k m:Nat),k≤16∧iv=.int .i64 (k:Int)∧ERow w0 wr tv m (E++entK ks p k)
theorem conv_lit(w:World){m:Nat}(hm:m < 16):(convert 89 9 (.slice (some ⟨w.heap.size,0,none⟩) 1 1)).run Tryz.prog (w.alloc (.cells #[.int .u8 (m:Int)] 5))=.ok (.string (nib1 m)) (w.alloc (.cells #[.int .u8 (m:Int)] 5)):=by
 have hbm:(m:Int)=((UInt8.ofNat m).toNat:Int):=by rw[u8_of m (by omega)]
 rw[hbm]
 exact Tryz.run_lit1 w (UInt8.ofNat m)
structure BrRd(u:ByteArray)(ks:Nat→PA)(b:Nat)(vk:Nat→Value)(Dk:Nat→Nat→Prop)(W:World):Prop where
 blk:Blk W b (.cells (brC u vk).toArray 274)
 kid:∀ i,i < 16→PaO (ks i) (vk i) (Dk i) W
theorem bent_no(w0 W:World)(u p:ByteArray)(ks:Nat→PA)(b:Nat)(vk:Nat→Value)(Dk:Nat→Nat→Prop)(hb:BrRd u ks b vk Dk w0)(v:Value)(n kk:Nat)(E:List Pair)(h:ERow w0 W v n E)(hd:Dp (.br u ks) kk)(hs:p.size+kk≤900000)(hn:n+1+sumF (fun i=>cntP (ks i)) 16≤100000)(ih:∀ i,i < 16→(ks i).isNil=false→EntC (ks i))(ho:keyOk p=false) :
  Calls Tryz.prog 300 #[.pointer (some ⟨b,0,none⟩),.string p,v] W (EnP w0 (E++entK ks p 16)):=by
 have H:=Hd hb
 have HDP:=Hd hd
 have HSZ:=Hd hs
 have HIH:=Hd ih
 have HE0:=Hd h.ext
 have H0:=Hd h
 have hnl:=h.len'
 have q0:=cell_ext (hb.blk.cellL (i:=0) (v:=.string u) (by rfl)) h.ext
 have hla:=run_load_kids (hb.blk.keeps h.ext (fun e=>e))
 have hem:(⟨#[]⟩:ByteArray).toList.isEmpty=true:=by rw[ByteArray.toList_eq];rfl
 have hnn:=neq_nil
 have hks:=key_c W p (by omega)
 unfold keyV at hks
 obtain⟨a,c,hvs0⟩:=h.sl
 rw[ho,if_neg ff]at hks
 have HK:=Hd hks
 have HCN:=Hd (show E.length+sumF (fun i=>cntP (ks i)) 16≤100000 by omega)
 have hB:=Hd hb.blk
 clear hb hd hs ih h hn ho hks hla
 subst hvs0
 go_enter Tryz.func300,Tryz.ntmps300
 go_wp2_with fail
 refine HK.out.mono ?_
 rintro e w1 ⟨rfl,hE⟩
 have hla:=run_load_kids (hB.out.keeps (HE0.out.trans hE) (fun e=>e))
 have HR1:=Hd (H0.out.mono hE)
 clear hE q0
 clear hnl
 go_wp2_with (refine wpList_load_known 272 (.tmp 35) rfl rfl _ _ rfl hla ?_)
 go_loopw [2,37] (fun tv iv wr=>EkRel w0 ks p E tv iv wr) (fun _ iv _=>16 - (intOf iv).toNat)
 case atStart=>exact⟨0,n,by omega,rfl,by rw[show entK ks p 0=[]from rfl,List.append_nil];exact HR1.out⟩
 case round =>
  obtain⟨k,m,hk,rfl,hR⟩:=hrel
  have HRR:=Hd hR
  have hml:m≤E.length+sumF (fun i=>cntP (ks i)) k:=by
   have h1:=hR.len'
   have h2:=entK_len ks p k
   rw[List.length_append]at h1;omega
  have HML:=Hd hml
  obtain⟨a2,c2,hvs⟩:=hR.sl
  clear hR hml
  by_cases hlt:k < 16
  ·have hix:=run_kid vk hlt
   have hst:=entK_step ks p k
   rcases (H.out.kid k hlt).at'.kid with⟨hn,hv⟩ |⟨hn,T,x,hv⟩
   ·rw[hn,if_pos rfl,List.append_nil]at hst
    rw[hv]at hix
    have HST:=Hd hst
    clear hst hn hv
    subst hvs
    go_wp2
    go_roundw
    case rel=>exact⟨k+1,m,by omega,by go_num,by rw[HST.out];exact HRR.out⟩
    case measure=>simp[intOf];omega
   ·rw[hn,if_neg ff]at hst
    rw[hv]at hix
    have hq:=neq_part T x
    have hpo:=H.out.kid k hlt
    rw[hv]at hpo
    have hmt:=hpo.at'.meth
    have hme:∀ w,(Go.method (469+1) T x "guilloche/trie.entries").run Tryz.prog w=.ok (paEnt (ks k),x) w:=hmt.ent
    have hee:=enter_ent (ks k)
    have hcv:=conv_lit wr hlt
    have hdk:=HDP.out k hn
    have hsm:sumF (fun i=>cntP (ks i)) k+cntP (ks k)≤sumF (fun i=>cntP (ks i)) 16:=by
     have h1:=sumF_mono (fun i=>cntP (ks i)) (k+1) (15 - k)
     rw[show k+1+(15 - k)=16 by omega]at h1
     exact h1
    have HCALL:=Hd (show ∀ wb,Ext wr wb→Calls Tryz.prog (paEnt (ks k)) #[x,.string (p++nib1 k),.slice a2 m c2] wb (EnP w0 (E++entK ks p k++entP (ks k) (p++nib1 k)))from fun wb e=>HIH.out k hlt hn w0 wb T x (Dk k) (p++nib1 k) _ m (kk - 1) _ hpo (by rw[←hvs];exact HRR.out.mono e) hdk.2 (by rw[app_size];have:(nib1 k).size=1:=rfl;have:=HSZ.out;have:=hdk.1;omega) (by have:=HML.out;have:=HCN.out;omega))
    have HST:=Hd hst
    have b1:(k:Int) < 256:=by omega
    have hcz:p.size+(nib1 k).size≤900001:=by have:(nib1 k).size=1:=rfl;have:=HSZ.out;omega
    have b2:(k:Int) < 16:=by omega
    clear hst hn hv hpo hmt hdk hsm
    subst hvs
    go_wp2_with fail
    refine (HCALL.out _ ((ExtR wr).alloc _)).mono ?_
    rintro e w2 ⟨v2,m2,rfl,hR2⟩
    have HR2:=Hd hR2
    obtain⟨a3,c3,hv3⟩:=hR2.sl
    subst hv3
    clear hR2
    go_wp2_with fail
    go_roundw
    case rel=>exact⟨k+1,m2,by omega,by go_num,by rw[HST.out, ←List.append_assoc];exact HR2.out⟩
    case measure=>simp[intOf];omega
  ·obtain rfl:k=16:=by omega
   subst hvs
   go_wp2_with fail
   go_ret
   exact⟨_,_,rfl,HRR.out⟩
theorem bent_yes(w0 W:World)(u p:ByteArray)(ks:Nat→PA)(b:Nat)(vk:Nat→Value)(Dk:Nat→Nat→Prop)(hb:BrRd u ks b vk Dk w0)(v:Value)(n kk:Nat)(E:List Pair)(h:ERow w0 W v n E)(hd:Dp (.br u ks) kk)(hs:p.size+kk≤900000)(hn:n+1+sumF (fun i=>cntP (ks i)) 16≤100000)(ih:∀ i,i < 16→(ks i).isNil=false→EntC (ks i))(ho:keyOk p=true)(hu:u.size≠0) :
  Calls Tryz.prog 300 #[.pointer (some ⟨b,0,none⟩),.string p,v] W (EnP w0 ((E++[(pairsB p,u)])++entK ks p 16)):=by
 have H:=Hd hb
 have HDP:=Hd hd
 have HSZ:=Hd hs
 have HIH:=Hd ih
 have HE0:=Hd h.ext
 have H0:=Hd h
 have hnl:=h.len'
 have q0:=cell_ext (hb.blk.cellL (i:=0) (v:=.string u) (by rfl)) h.ext
 have hla:=run_load_kids (hb.blk.keeps h.ext (fun e=>e))
 have hem:(⟨#[]⟩:ByteArray).toList.isEmpty=true:=by rw[ByteArray.toList_eq];rfl
 have hnn:=neq_nil
 have hks:=key_c W p (by omega)
 unfold keyV at hks
 obtain⟨a,c,hvs0⟩:=h.sl
 rw[ho,if_pos rfl]at hks
 have HK:=Hd hks
 have hue:=list_ne hu
 have HCN:=Hd (show (E++[(pairsB p,u)]).length+sumF (fun i=>cntP (ks i)) 16≤100000 by rw[List.length_append,List.length_singleton];omega)
 have hB:=Hd hb.blk
 have Q0:=Hd q0
 have hnle:n≤100000:=by omega
 clear hb hd hs ih h hn ho hks hla hu q0
 subst hvs0
 go_enter Tryz.func300,Tryz.ntmps300
 go_wp2_with fail
 refine HK.out.mono ?_
 rintro e w1 ⟨rfl,hE⟩
 have q0:=cell_ext Q0.out hE
 have HR0:=Hd (H0.out.mono hE)
 clear hE hnl
 go_wp2_with (first |(at_builtin;refine wpList_app Tryz.sEnts (HR0.out.mono ((ExtR w1).alloc _)) (.tmp 24) (.tmp 31) rfl rfl rfl (news_blk (Blk.new w1 _)) (news:=[.string (pairsB p),.string u]) (by intro u hu;simp at hu;rcases hu with rfl | rfl <;> rfl) rfl rfl (by unfold maxLen;omega) (by omega) (fun v' w' r1 r2 r3=>?_);obtain⟨a5,c5,hv5⟩:=r1.sl;subst hv5;have HR1:Hid (ERow w0 w' (.slice a5 (n+1) c5) (n+1) (E++[(pairsB p,u)])):=Hd (by rw[←cellsP_one, ←cellsP_append]at r1;exact r1);have hla:=run_load_kids (hB.out.keeps HR1.out.ext (fun e=>e))) |(refine wpList_load_known 272 (.tmp 35) rfl rfl _ _ rfl hla ?_))
 go_loopw [2,37] (fun tv iv wr=>EkRel w0 ks p (E++[(pairsB p,u)]) tv iv wr) (fun _ iv _=>16 - (intOf iv).toNat)
 case atStart=>exact⟨0,(n+1),by omega,rfl,by rw[show entK ks p 0=[]from rfl,List.append_nil];exact HR1.out⟩
 case round =>
  obtain⟨k,m,hk,rfl,hR⟩:=hrel
  have HRR:=Hd hR
  have hml:m≤(E++[(pairsB p,u)]).length+sumF (fun i=>cntP (ks i)) k:=by
   have h1:=hR.len'
   have h2:=entK_len ks p k
   rw[List.length_append]at h1;omega
  have HML:=Hd hml
  obtain⟨a2,c2,hvs⟩:=hR.sl
  clear hR hml
  by_cases hlt:k < 16
  ·have hix:=run_kid vk hlt
   have hst:=entK_step ks p k
   rcases (H.out.kid k hlt).at'.kid with⟨hn,hv⟩ |⟨hn,T,x,hv⟩
   ·rw[hn,if_pos rfl,List.append_nil]at hst
    rw[hv]at hix
    have HST:=Hd hst
    clear hst hn hv
    subst hvs
    go_wp2
    go_roundw
    case rel=>exact⟨k+1,m,by omega,by go_num,by rw[HST.out];exact HRR.out⟩
    case measure=>simp[intOf];omega
   ·rw[hn,if_neg ff]at hst
    rw[hv]at hix
    have hq:=neq_part T x
    have hpo:=H.out.kid k hlt
    rw[hv]at hpo
    have hmt:=hpo.at'.meth
    have hme:∀ w,(Go.method (469+1) T x "guilloche/trie.entries").run Tryz.prog w=.ok (paEnt (ks k),x) w:=hmt.ent
    have hee:=enter_ent (ks k)
    have hcv:=conv_lit wr hlt
    have hdk:=HDP.out k hn
    have hsm:sumF (fun i=>cntP (ks i)) k+cntP (ks k)≤sumF (fun i=>cntP (ks i)) 16:=by
     have h1:=sumF_mono (fun i=>cntP (ks i)) (k+1) (15 - k)
     rw[show k+1+(15 - k)=16 by omega]at h1
     exact h1
    have HCALL:=Hd (show ∀ wb,Ext wr wb→Calls Tryz.prog (paEnt (ks k)) #[x,.string (p++nib1 k),.slice a2 m c2] wb (EnP w0 ((E++[(pairsB p,u)])++entK ks p k++entP (ks k) (p++nib1 k)))from fun wb e=>HIH.out k hlt hn w0 wb T x (Dk k) (p++nib1 k) _ m (kk - 1) _ hpo (by rw[←hvs];exact HRR.out.mono e) hdk.2 (by rw[app_size];have:(nib1 k).size=1:=rfl;have:=HSZ.out;have:=hdk.1;omega) (by have:=HML.out;have:=HCN.out;omega))
    have HST:=Hd hst
    have b1:(k:Int) < 256:=by omega
    have hcz:p.size+(nib1 k).size≤900001:=by have:(nib1 k).size=1:=rfl;have:=HSZ.out;omega
    have b2:(k:Int) < 16:=by omega
    clear hst hn hv hpo hmt hdk hsm
    subst hvs
    go_wp2_with fail
    refine (HCALL.out _ ((ExtR wr).alloc _)).mono ?_
    rintro e w2 ⟨v2,m2,rfl,hR2⟩
    have HR2:=Hd hR2
    obtain⟨a3,c3,hv3⟩:=hR2.sl
    subst hv3
    clear hR2
    go_wp2_with fail
    go_roundw
    case rel=>exact⟨k+1,m2,by omega,by go_num,by rw[HST.out, ←List.append_assoc];exact HR2.out⟩
    case measure=>simp[intOf];omega
  ·obtain rfl:k=16:=by omega
   subst hvs
   go_wp2_with fail
   go_ret
   exact⟨_,_,rfl,HRR.out⟩
theorem bent_nov(w0 W:World)(u p:ByteArray)(ks:Nat→PA)(b:Nat)(vk:Nat→Value)(Dk:Nat→Nat→Prop)(hb:BrRd u ks b vk Dk w0)(v:Value)(n kk:Nat)(E:List Pair)(h:ERow w0 W v n E)(hd:Dp (.br u ks) kk)(hs:p.size+kk≤900000)(hn:n+1+sumF (fun i=>cntP (ks i)) 16≤100000)(ih:∀ i,i < 16→(ks i).isNil=false→EntC (ks i))(ho:keyOk p=true)(hu:u.size=0) :
  Calls Tryz.prog 300 #[.pointer (some ⟨b,0,none⟩),.string p,v] W (EnP w0 (E++entK ks p 16)):=by
 have H:=Hd hb
 have HDP:=Hd hd
 have HSZ:=Hd hs
 have HIH:=Hd ih
 have HE0:=Hd h.ext
 have H0:=Hd h
 have hnl:=h.len'
 have q0:=cell_ext (hb.blk.cellL (i:=0) (v:=.string u) (by rfl)) h.ext
 have hla:=run_load_kids (hb.blk.keeps h.ext (fun e=>e))
 have hem:(⟨#[]⟩:ByteArray).toList.isEmpty=true:=by rw[ByteArray.toList_eq];rfl
 have hnn:=neq_nil
 have hks:=key_c W p (by omega)
 unfold keyV at hks
 obtain⟨a,c,hvs0⟩:=h.sl
 rw[ho,if_pos rfl]at hks
 have HK:=Hd hks
 have hue:=ba_empty hu
 subst hue
 have HCN:=Hd (show E.length+sumF (fun i=>cntP (ks i)) 16≤100000 by omega)
 have hB:=Hd hb.blk
 have Q0:=Hd q0
 clear hb hd hs ih h hn ho hks hla hu q0
 subst hvs0
 go_enter Tryz.func300,Tryz.ntmps300
 go_wp2_with fail
 refine HK.out.mono ?_
 rintro e w1 ⟨rfl,hE⟩
 have q0:=cell_ext Q0.out hE
 have hla:=run_load_kids (hB.out.keeps (HE0.out.trans hE) (fun e=>e))
 have HR1:=Hd (H0.out.mono hE)
 clear hE hnl
 go_wp2_with (refine wpList_load_known 272 (.tmp 35) rfl rfl _ _ rfl hla ?_)
 go_loopw [2,37] (fun tv iv wr=>EkRel w0 ks p E tv iv wr) (fun _ iv _=>16 - (intOf iv).toNat)
 case atStart=>exact⟨0,n,by omega,rfl,by rw[show entK ks p 0=[]from rfl,List.append_nil];exact HR1.out⟩
 case round =>
  obtain⟨k,m,hk,rfl,hR⟩:=hrel
  have HRR:=Hd hR
  have hml:m≤E.length+sumF (fun i=>cntP (ks i)) k:=by
   have h1:=hR.len'
   have h2:=entK_len ks p k
   rw[List.length_append]at h1;omega
  have HML:=Hd hml
  obtain⟨a2,c2,hvs⟩:=hR.sl
  clear hR hml
  by_cases hlt:k < 16
  ·have hix:=run_kid vk hlt
   have hst:=entK_step ks p k
   rcases (H.out.kid k hlt).at'.kid with⟨hn,hv⟩ |⟨hn,T,x,hv⟩
   ·rw[hn,if_pos rfl,List.append_nil]at hst
    rw[hv]at hix
    have HST:=Hd hst
    clear hst hn hv
    subst hvs
    go_wp2
    go_roundw
    case rel=>exact⟨k+1,m,by omega,by go_num,by rw[HST.out];exact HRR.out⟩
    case measure=>simp[intOf];omega
   ·rw[hn,if_neg ff]at hst
    rw[hv]at hix
    have hq:=neq_part T x
    have hpo:=H.out.kid k hlt
    rw[hv]at hpo
    have hmt:=hpo.at'.meth
    have hme:∀ w,(Go.method (469+1) T x "guilloche/trie.entries").run Tryz.prog w=.ok (paEnt (ks k),x) w:=hmt.ent
    have hee:=enter_ent (ks k)
    have hcv:=conv_lit wr hlt
    have hdk:=HDP.out k hn
    have hsm:sumF (fun i=>cntP (ks i)) k+cntP (ks k)≤sumF (fun i=>cntP (ks i)) 16:=by
     have h1:=sumF_mono (fun i=>cntP (ks i)) (k+1) (15 - k)
     rw[show k+1+(15 - k)=16 by omega]at h1
     exact h1
    have HCALL:=Hd (show ∀ wb,Ext wr wb→Calls Tryz.prog (paEnt (ks k)) #[x,.string (p++nib1 k),.slice a2 m c2] wb (EnP w0 (E++entK ks p k++entP (ks k) (p++nib1 k)))from fun wb e=>HIH.out k hlt hn w0 wb T x (Dk k) (p++nib1 k) _ m (kk - 1) _ hpo (by rw[←hvs];exact HRR.out.mono e) hdk.2 (by rw[app_size];have:(nib1 k).size=1:=rfl;have:=HSZ.out;have:=hdk.1;omega) (by have:=HML.out;have:=HCN.out;omega))
    have HST:=Hd hst
    have b1:(k:Int) < 256:=by omega
    have hcz:p.size+(nib1 k).size≤900001:=by have:(nib1 k).size=1:=rfl;have:=HSZ.out;omega
    have b2:(k:Int) < 16:=by omega
    clear hst hn hv hpo hmt hdk hsm
    subst hvs
    go_wp2_with fail
    refine (HCALL.out _ ((ExtR wr).alloc _)).mono ?_
    rintro e w2 ⟨v2,m2,rfl,hR2⟩
    have HR2:=Hd hR2
    obtain⟨a3,c3,hv3⟩:=hR2.sl
    subst hv3
    clear hR2
    go_wp2_with fail
    go_roundw
    case rel=>exact⟨k+1,m2,by omega,by go_num,by rw[HST.out, ←List.append_assoc];exact HR2.out⟩
    case measure=>simp[intOf];omega
  ·obtain rfl:k=16:=by omega
   subst hvs
   go_wp2_with fail
   go_ret
   exact⟨_,_,rfl,HRR.out⟩
end
section
open Go Go.RowKit
theorem paent_c:∀ (P:PA),EntC P
 | .nil=>fun w0 W T x D p v n k E h _ _ _ _=>by cases h.at'
 | .no=>fun w0 W T x D p v n k E h hr _ _ _=>by
  have e:Value.iface T x=noV:=h.at'
  unfold noV at e
  injection e with e1 e2
  subst e1 e2
  show Calls _ _ _ W (EnP w0 (E++[]))
  rw[List.append_nil]
  exact noent_c w0 W p v n E hr
 | .leaf q u=>fun w0 W T x D p v n k E h hr hd hs hn=>by
  obtain⟨b,e,h1,h2⟩:=h.at'
  unfold leafV at e
  injection e with e1 e2
  subst e1 e2
  have hd:q.size≤k:=hd
  have hn:n+1≤100000:=hn
  exact lent_c w0 W q u p b h2 v n E hr (by omega) (by omega)
 | .ext q m=>fun w0 W T x D p v n k E h hr hd hs hn=>by
  obtain⟨b,T',x',Dn,e,h1,h2,h3,h4,h5⟩:=h.at'
  unfold extV at e
  injection e with e1 e2
  subst e1 e2
  have hn:n+(1+cntP m)≤100000:=hn
  have h1:=hd.1
  exact eent_c w0 W q m T' x' Dn b h2 h3 (fun z hz=>h.lt z (h5 z hz)) p v n (k - q.size) E hr hd.2 (by rw[app_size];omega) (by omega) (paent_c m)
 | .br u ks=>fun w0 W T x D p v n k E h hr hd hs hn=>by
  obtain⟨b,vk,Dk,e,h1,h2,h3,h4⟩:=h.at'
  unfold brV at e
  injection e with e1 e2
  subst e1 e2
  have hb:BrRd u ks b vk Dk w0:=⟨h2,fun i hi=>⟨(h3 i hi).1,fun z hz=>h.lt z ((h3 i hi).2.2 z hz)⟩⟩
  have hn:n+(1+sumF (fun i=>cntP (ks i)) 16)≤100000:=hn
  have ih:∀ i,i < 16→(ks i).isNil=false→EntC (ks i):=fun i _ _=>paent_c (ks i)
  show Calls _ _ _ W (EnP w0 (E++((if u.size=0 then []else keyR p u)++entK ks p 16)))
  unfold keyR
  rw[←List.append_assoc]
  by_cases hu:u.size=0
  ·rw[if_pos hu,List.append_nil]
   cases ho:keyOk p with
   | true=>exact bent_nov w0 W u p ks b vk Dk hb v n k E hr hd hs (by omega) ih ho hu
   | false=>exact bent_no w0 W u p ks b vk Dk hb v n k E hr hd hs (by omega) ih ho
  ·rw[if_neg hu]
   cases ho:keyOk p with
   | true=>rw[if_pos rfl];exact bent_yes w0 W u p ks b vk Dk hb v n k E hr hd hs (by omega) ih ho hu
   | false=>rw[if_neg ff,List.append_nil];exact bent_no w0 W u p ks b vk Dk hb v n k E hr hd hs (by omega) ih ho
end
section
open Go Go.RowKit
attribute [local go_sem] Oper.semAt_some
def bumpU(k:Key)(L:List Nd5):List Nd5:=L.map fun x=>if x.1=k then (x.1,x.2.1,putF 2 (x.2.2.used+1) x.2.2)else x
def bumps(T:List ByteArray)(L:List Nd5):List Nd5:=T.foldl (fun L r=>bumpU r.data.toList L) L
theorem bumps_snoc(T:List ByteArray)(r:ByteArray)(L:List Nd5):bumps (T++[r]) L=bumpU r.data.toList (bumps T L):=by unfold bumps;rw[List.foldl_append];rfl
theorem bumpU_keys(k:Key)(L:List Nd5):(bumpU k L).map (·.1)=L.map (·.1):=by
 unfold bumpU;rw[List.map_map]
 refine List.map_congr_left (fun x _=>?_)
 simp only[Function.comp];split <;> rfl
theorem bumpU_blks(k:Key)(L:List Nd5):(bumpU k L).map (·.2.1)=L.map (·.2.1):=by
 unfold bumpU;rw[List.map_map]
 refine List.map_congr_left (fun x _=>?_)
 simp only[Function.comp];split <;> rfl
theorem bumps_keys:∀ (T:List ByteArray) (L:List Nd5),(bumps T L).map (·.1)=L.map (·.1)
 | [],_=>rfl
 | r :: T,L=>by
  show (bumps T (bumpU r.data.toList L)).map (·.1)=_
  rw[bumps_keys T,bumpU_keys]
theorem bumps_blks:∀ (T:List ByteArray) (L:List Nd5),(bumps T L).map (·.2.1)=L.map (·.2.1)
 | [],_=>rfl
 | r :: T,L=>by
  show (bumps T (bumpU r.data.toList L)).map (·.2.1)=_
  rw[bumps_blks T,bumpU_blks]
theorem atL_keys{A B:List Nd5}(h:A.map (·.1)=B.map (·.1))(k:Key):(atL A k).isSome=(atL B k).isSome:=by
 have e:∀ L:List Nd5,(atL L k).isSome=(L.map (·.1)).any (fun y=>decide (k=y)):=fun L=>by
  unfold atL;rw[List.isSome_find?,List.any_map];rfl
 rw[e,e,h]
theorem bumps_used:∀ (T:List ByteArray) (L:List Nd5) (lo hi:Int),(∀ x∈L,lo≤x.2.2.used∧x.2.2.used≤hi)→∀ x∈bumps T L,lo≤x.2.2.used∧x.2.2.used≤hi+T.length
 | [],L,lo,hi,h=>fun x hx=>by have:=h x hx;simp;exact this
 | r :: T,L,lo,hi,h=>fun x hx=>by
  have:=bumps_used T (bumpU r.data.toList L) lo (hi+1) (fun y hy=>by
   obtain⟨z,hz,rfl⟩:=List.mem_map.1 hy
   have:=h z hz
   split
   ·simp only[putF,if_true];omega
   ·omega) x hx
  rw[List.length_cons];omega
def kvR(x:Nd5):Nat × ByteArray × List ByteArray:=(x.2.1,x.2.2.text,x.2.2.refs)
def Like(W:World)(bg:Nat)(G:List Nd5):Prop:=∃ G',MapAt W bg G'∧∀ k,(atL G' k).map kvR=(atL G k).map kvR
theorem atL_setB(f c:Nat)(v:Int)(L:List Nd5)(k:Key):atL (L.map (setB f c v)) k=(atL L k).map (setB f c v):=by
 unfold atL
 rw[List.find?_map]
 congr 1
 refine congrFun (congrArg _ (funext fun x=>?_)) L
 simp only[Function.comp,setB];split <;> rfl
theorem kvR_setB(f c:Nat)(v:Int)(x:Nd5):kvR (setB f c v x)=kvR x:=by
 unfold setB kvR putF
 by_cases e:x.2.1=c
 ·rw[if_pos e]
  by_cases e2:f=2
  ·rw[if_pos e2]
  ·rw[if_neg e2]
 ·rw[if_neg e]
theorem Like.setF{W:World}{bg:Nat}{G:List Nd5}(h:Like W bg G){c:Nat}{it:It}(hc:ItemAt W c it){f:Nat}(hf:f=2∨f=3)(v:Int):Like (W.setCell ⟨c,f,none⟩ (.int .i64 v)) bg G:=by
 obtain⟨G',h1,h2⟩:=h
 refine⟨_,h1.setF hc hf v,fun k=>?_⟩
 rw[atL_setB,Option.map_map, ←h2 k]
 congr 1
 funext x
 exact kvR_setB f c v x
theorem setB_bump{W:World}{bm:Nat}{L:List Nd5}(h:MapAt W bm L){k:Key}{y:Nd5}(hy:atL L k=some y):L.map (setB 2 y.2.1 (y.2.2.used+1))=bumpU k L:=by
 obtain⟨es,ck,_,h2⟩:=h.mp
 have hk:=h2.keys
 rw[List.map_map]at hk
 have hk:(L.map (·.1)).Nodup:=hk
 unfold bumpU
 refine List.map_congr_left (fun x hx=>?_)
 unfold setB
 by_cases e:x.2.1=y.2.1
 ·have:x=y:=nodup_map_inj h.blks hx (atL_mem hy).1 e
  subst this
  rw[if_pos rfl,if_pos (atL_mem hy).2]
 ·rw[if_neg e,if_neg]
  intro e2
  have:x=y:=nodup_map_inj hk hx (atL_mem hy).1 (e2.trans (atL_mem hy).2.symm)
  subst this
  exact e rfl
structure Ad2(w5:World)(s bm bg:Nat)(room:Int)(S1 G:List Nd5)(F:List ByteArray)(v:Value)(T:List ByteArray)(W:World):Prop where
 kp:Keeps (fun z=>z∈S1.map (·.2.1)) w5 W
 st:StoreAt W s bm room (bumps T S1)
 gv:Like W bg G
 row:W.ownsRow 0 9 1 v F.length (F.map Value.string)
theorem Ad2.bump{w5:World}{s bm bg:Nat}{room:Int}{S1 G:List Nd5}{F:List ByteArray}{v:Value}{T:List ByteArray}{W:World}(h:Ad2 w5 s bm bg room S1 G F v T W)
  (hu:∀ x∈S1,0≤x.2.2.used∧x.2.2.used≤1000000000) (hT:T.length≤1000000) (r:ByteArray) (hr:(atL S1 r.data.toList).isSome=true) :
  ∃ (zb:Nat) (u:Int),(Instr.lookup 109 (.map (some bm)) (.string r) false).run Tryz.prog W=.ok (.pointer (some ⟨zb,0,none⟩)) W∧W.cell? ⟨zb,2,none⟩=some (.int .i64 u)∧W.frozen? ⟨zb,2,none⟩=false∧0≤u∧u≤2000000000 ∧
   Ad2 w5 s bm bg room S1 G F v (T++[r]) (W.setCell ⟨zb,2,none⟩ (.int .i64 (u+1)))∧∀ rv n xs,W.ownsRow 0 9 1 rv n xs→(W.setCell ⟨zb,2,none⟩ (.int .i64 (u+1))).ownsRow 0 9 1 rv n xs:=by
 have hs:(atL (bumps T S1) r.data.toList).isSome=true:=by rw[atL_keys (bumps_keys T S1)];exact hr
 obtain⟨y,hy⟩:=Option.isSome_iff_exists.1 hs
 have hym:=(atL_mem hy).1
 have hi:=h.st.mp.items y hym
 obtain⟨rv,hb,hrw⟩:=hi.cells
 have hlk:=h.st.mp.look r false
 rw[hy]at hlk
 simp only[Bool.false_eq_true,if_false]at hlk
 have hK:Keeps (fun z=>z=y.2.1) W (W.setCell ⟨y.2.1,2,none⟩ (.int .i64 (y.2.2.used+1))):=Keeps.oneSet W ⟨y.2.1,2,none⟩ _
 have hN:NoRow W (fun z=>z=y.2.1):=fun z cur fz e hz=>by
  have e:z=y.2.1:=e
  subst e
  have:=hb.uniq hz;injection this with _ h2;exact absurd h2 (by decide)
 have hyb:y.2.1∈S1.map (·.2.1):=by rw[←bumps_blks T S1];exact List.mem_map.2 ⟨y,hym,rfl⟩
 have hub:=bumps_used T S1 0 1000000000 hu y hym
 refine⟨y.2.1,y.2.2.used,hlk,hb.cell (i:=2) (by rfl),hb.frozen,hub.1,by omega,⟨h.kp.trans (hK.mono (fun z _ e=>by have e:z=_:=e;rw[e];exact hyb)),⟨h.st.st.keeps hK (fun e=>?_),?_⟩,h.gv.setF hi (.inl rfl) _,row_keeps h.row hK hN⟩,fun rv n xs hx=>row_keeps hx hK hN⟩
 ·have e:s=y.2.1:=e
  rw[e]at h
  have:=hb.uniq h.st.st;injection this with _ h2;exact absurd h2 (by decide)
 ·rw[bumps_snoc, ←setB_bump h.st.mp hy]
  exact h.st.mp.setF hi (.inl rfl) _
def bumpH(k:Key)(L:List Nd5):List Nd5:=L.map fun x=>if x.1=k then (x.1,x.2.1,putF 3 (x.2.2.held+1) x.2.2)else x
theorem setB_bumpH{W:World}{bm:Nat}{L:List Nd5}(h:MapAt W bm L){k:Key}{y:Nd5}(hy:atL L k=some y):L.map (setB 3 y.2.1 (y.2.2.held+1))=bumpH k L:=by
 obtain⟨es,ck,_,h2⟩:=h.mp
 have hk:=h2.keys
 rw[List.map_map]at hk
 have hk:(L.map (·.1)).Nodup:=hk
 unfold bumpH
 refine List.map_congr_left (fun x hx=>?_)
 unfold setB
 by_cases e:x.2.1=y.2.1
 ·have:x=y:=nodup_map_inj h.blks hx (atL_mem hy).1 e
  subst this
  rw[if_pos rfl,if_pos (atL_mem hy).2]
 ·rw[if_neg e,if_neg]
  intro e2
  have:x=y:=nodup_map_inj hk hx (atL_mem hy).1 (e2.trans (atL_mem hy).2.symm)
  subst this
  exact e rfl
theorem bumps_held:∀ (T:List ByteArray) (L:List Nd5) (lo hi:Int),(∀ x∈L,lo≤x.2.2.held∧x.2.2.held≤hi)→∀ x∈bumps T L,lo≤x.2.2.held∧x.2.2.held≤hi
 | [],L,lo,hi,h=>fun x hx=>h x hx
 | r :: T,L,lo,hi,h=>fun x hx=>by
  refine bumps_held T (bumpU r.data.toList L) lo hi (fun y hy=>?_) x hx
  obtain⟨z,hz,rfl⟩:=List.mem_map.1 hy
  have:=h z hz
  split
  ·simp only[putF,if_true];exact this
  ·exact this
theorem Ad2.hold{w5:World}{s bm bg:Nat}{room:Int}{S1 G:List Nd5}{F:List ByteArray}{v:Value}{T:List ByteArray}{W:World}(h:Ad2 w5 s bm bg room S1 G F v T W)
  (hu:∀ x∈S1,0≤x.2.2.held∧x.2.2.held≤1000000000) (r:ByteArray) (hr:(atL S1 r.data.toList).isSome=true) :
  ∃ (zb:Nat) (u:Int),(Instr.lookup 109 (.map (some bm)) (.string r) false).run Tryz.prog W=.ok (.pointer (some ⟨zb,0,none⟩)) W∧W.cell? ⟨zb,3,none⟩=some (.int .i64 u)∧W.frozen? ⟨zb,3,none⟩=false∧0≤u∧u≤1000000000 ∧
   StoreAt (W.setCell ⟨zb,3,none⟩ (.int .i64 (u+1))) s bm room (bumpH r.data.toList (bumps T S1))∧Keeps (fun z=>z∈S1.map (·.2.1)) w5 (W.setCell ⟨zb,3,none⟩ (.int .i64 (u+1))):=by
 have hs:(atL (bumps T S1) r.data.toList).isSome=true:=by rw[atL_keys (bumps_keys T S1)];exact hr
 obtain⟨y,hy⟩:=Option.isSome_iff_exists.1 hs
 have hym:=(atL_mem hy).1
 have hi:=h.st.mp.items y hym
 obtain⟨rv,hb,hrw⟩:=hi.cells
 have hlk:=h.st.mp.look r false
 rw[hy]at hlk
 simp only[Bool.false_eq_true,if_false]at hlk
 have hK:Keeps (fun z=>z=y.2.1) W (W.setCell ⟨y.2.1,3,none⟩ (.int .i64 (y.2.2.held+1))):=Keeps.oneSet W ⟨y.2.1,3,none⟩ _
 have hyb:y.2.1∈S1.map (·.2.1):=by rw[←bumps_blks T S1];exact List.mem_map.2 ⟨y,hym,rfl⟩
 have hub:=bumps_held T S1 0 1000000000 hu y hym
 refine⟨y.2.1,y.2.2.held,hlk,hb.cell (i:=3) (by rfl),hb.frozen,hub.1,hub.2,⟨h.st.st.keeps hK (fun e=>?_),?_⟩,h.kp.trans (hK.mono (fun z _ e=>by have e:z=_:=e;rw[e];exact hyb))⟩
 ·have e:s=y.2.1:=e
  rw[e]at h
  have:=hb.uniq h.st.st;injection this with _ h2;exact absurd h2 (by decide)
 ·rw[←setB_bumpH h.st.mp hy]
  exact h.st.mp.setF hi (.inr rfl) _
def picks(G:List Nd5)(F:List ByteArray):List Nd5:=F.filterMap fun x=>atL G x.data.toList
theorem picks_step{G:List Nd5}{F:List ByteArray}{i:Nat}{x:ByteArray}{y:Nd5}(hx:F[i]?=some x)(hy:atL G x.data.toList=some y):picks G (F.take (i+1))=picks G (F.take i)++[y]:=by
 unfold picks
 rw[List.take_add_one,hx,List.filterMap_append]
 simp[hy]
theorem picks_mem{G:List Nd5}{F:List ByteArray}{y:Nd5}(h:y∈picks G F):y∈G∧∃ x∈F,y.1=x.data.toList:=by
 obtain⟨x,hx,e⟩:=List.mem_filterMap.1 h
 exact⟨(atL_mem e).1,x,hx,(atL_mem e).2⟩
theorem atL_app{A B:List Nd5}{k:Key}(h:∀ x∈B,k≠x.1):atL (A++B) k=atL A k:=by
 unfold atL
 rw[List.find?_append]
 have:B.find? (fun x=>decide (k=x.1))=none:=by rw[List.find?_eq_none];simpa using h
 rw[this];simp
theorem MapAt.notRow{W:World}{bm:Nat}{L:List Nd5}(h:MapAt W bm L):NoRow W (fun z=>z=bm):=fun z cur fz e hz=>by
 obtain⟨es,ck,h1,_⟩:=h.mp
 have e:z=bm:=e
 subst e
 have:=h1.uniq hz;cases this
structure Ad1(w4:World)(s bm bg:Nat)(room:Int)(S G:List Nd5)(F:List ByteArray)(v:Value)(i:Nat)(W:World):Prop where
 kp:Keeps (fun z=>z=bm) w4 W
 st:StoreAt W s bm room (S++picks G (F.take i))
 gv:MapAt W bg G
 row:W.ownsRow 0 9 1 v F.length (F.map Value.string)
theorem Ad1.ext{w4:World}{s bm bg:Nat}{room:Int}{S G:List Nd5}{F:List ByteArray}{v:Value}{i:Nat}{W W':World}(h:Ad1 w4 s bm bg room S G F v i W)(e:Ext W W'):Ad1 w4 s bm bg room S G F v i W':=
 ⟨h.kp.trans (e.mono (fun _ _ g=>g.elim)),h.st.ext e,h.gv.ext e,own_ext h.row e⟩
theorem Ad1.put{w4:World}{s bm bg:Nat}{room:Int}{S G:List Nd5}{F:List ByteArray}{v:Value}{i:Nat}{W:World}(h:Ad1 w4 s bm bg room S G F v i W)
  (hSG:∀ x∈S,∀ y∈G,x.2.1≠y.2.1) (hbg:bg≠bm) (hv:∀ z,v.ownBlock=some z→z≠bm) (hnd:F.Nodup) (hFS:∀ x∈F,atL S x.data.toList=none)
  {x:ByteArray} {y:Nd5} (hx:F[i]?=some x) (hy:atL G x.data.toList=some y) :
  ∃ o,(Instr.mapUpdate 109 (.map (some bm)) (.string x) (.pointer (some ⟨y.2.1,0,none⟩))).run Tryz.prog W=.ok () (W.putObj bm o)∧Ad1 w4 s bm bg room S G F v (i+1) (W.putObj bm o):=by
 have hk:∀ z∈picks G (F.take i),x.data.toList≠z.1:=fun z hz e=>by
  obtain⟨_,x',hx',e'⟩:=picks_mem hz
  have:=ba_data (e.trans e')
  subst this
  exact nodup_take hnd hx hx'
 have hn:atL (S++picks G (F.take i)) x.data.toList=none:=by rw[atL_app hk];exact hFS x (List.mem_of_getElem? hx)
 have hym:=(atL_mem hy).1
 have hy1:=(atL_mem hy).2
 have hblk:∀ z∈S++picks G (F.take i),z.2.1≠y.2.1:=fun z hz e=>by
  rcases List.mem_append.1 hz with hz | hz
  ·exact hSG z hz y hym e
  ·have:=nodup_map_inj h.gv.blks (picks_mem hz).1 hym e
   subst this
   exact hk z hz hy1.symm
 obtain⟨o,hmu,hA⟩:=h.st.mp.put x hn (h.gv.items y hym) hblk
 have hK:Keeps (fun z=>z=bm) W (W.putObj bm o):=Keeps.onePut W bm o
 have hN:=h.st.mp.notRow
 have hie:∀ {c:Nat} {it:It},ItemAt W c it→¬ c=bm:=fun hi e=>by
  obtain⟨_,hc,_⟩:=hi.cells
  obtain⟨es,ck,h1,_⟩:=h.st.mp.mp
  subst e
  have:=h1.uniq hc;cases this
 refine⟨o,hmu,h.kp.trans hK,⟨h.st.st.keeps hK (fun e=>?_),?_⟩,h.gv.keeps hK hbg (fun z hz=>hie (h.gv.items z hz)) hN,own_keeps h.row hK (fun z hz e=>hv z hz e)⟩
 ·have e:s=bm:=e
  obtain⟨es,ck,h1,_⟩:=h.st.mp.mp
  subst e
  have:=h1.uniq h.st.st;cases this
 ·rw[picks_step hx hy, ←List.append_assoc]
  have e:(x.data.toList,y.2.1,y.2.2)=y:=by rw[←hy1]
  rw[e]at hA
  exact hA
theorem atL_or(A B:List Nd5)(k:Key):(atL (A++B) k).isSome=((atL A k).isSome ||(atL B k).isSome):=by
 unfold atL
 rw[List.find?_append,Option.isSome_or]
def AdR2(w5:World)(s bm bg:Nat)(room:Int)(S1 G:List Nd5)(F:List ByteArray)(v iv:Value)(W:World):Prop:=∃ i:Nat,i≤F.length∧iv=.int .i64 i∧Ad2 w5 s bm bg room S1 G F v ((F.take i).flatMap (refsO G)) W
def AdR3(w5:World)(s bm bg:Nat)(room:Int)(S1 G:List Nd5)(F:List ByteArray)(v:Value)(T R:List ByteArray)(rv jv:Value)(W:World):Prop:=∃ j:Nat,j≤R.length∧jv=.int .i64 j∧Ad2 w5 s bm bg room S1 G F v (T++R.take j) W∧W.ownsRow 0 9 1 rv R.length (R.map Value.string)
def AdR1(w4:World)(s bm bg:Nat)(room:Int)(S G:List Nd5)(F:List ByteArray)(v iv:Value)(W:World):Prop:=∃ i:Nat,i≤F.length∧iv=.int .i64 i∧Ad1 w4 s bm bg room S G F v i W
def InjL(l:List ByteArray):Prop:=∀ x∈l,∀ y∈l,shaB x=shaB y→x=y
theorem InjL.step{L:List ByteArray}{i:Nat}{t:ByteArray}(h:InjL (L.take i))(ht:L[i]?=some t)(hs:∀ x∈L.take i,shaB x=shaB t→x=t):InjL (L.take (i+1)):=by
 intro x hx y hy e
 rw[List.take_add_one,ht]at hx hy
 rcases List.mem_append.1 hx with h1 | h1 <;> rcases List.mem_append.1 hy with h2 | h2
 ·exact h x h1 y h2 e
 ·simp at h2;subst h2;exact hs x h1 e
 ·simp at h1;subst h1;exact (hs y h2 e.symm).symm
 ·simp at h1 h2;rw[h1,h2]
def ApR1(w:World)(L:List ByteArray)(hv iv:Value)(W:World):Prop:=∃ i:Nat,i≤L.length∧iv=.int .i64 i∧SRow w W hv i ((L.take i).map shaB)∧InjL (L.take i)
def ApR2(w4:World)(L:List ByteArray)(t:ByteArray)(i:Nat)(kv:Value)(W:World):Prop:=∃ k:Nat,k≤i∧kv=.int .i64 k∧Ext w4 W∧∀ x∈L.take k,shaB x=shaB t→x=t
def ApP(L:List ByteArray)(w:World)(e:Ending)(w':World):Prop:=∃ b,e=.returned (.bool b)∧(b=true↔InjL L)∧Ext w w'
theorem apart_c(w:World)(hc:Cubes w)(v:Value)(L:List ByteArray)(hv:RdS w v L)(hl:L.length≤1000000):Calls Tryz.prog 31 #[v] w (ApP L w):=by
 obtain⟨a,c,rfl,_⟩:=hv.slice
 have HV:=Hd hv
 have HC:=Hd hc
 clear hv hc
 go_enter Tryz.func31,Tryz.ntmps31
 go_wp2_with fail
 go_loopw [3,4] (fun hv iv wr=>ApR1 w L hv iv wr) (fun _ iv _=>L.length - (intOf iv).toNat)
 case atStart=>exact⟨0,Nat.zero_le _,rfl,ORow.nil _ _ (ExtR w),fun x hx=>by cases hx⟩
 case round =>
  obtain⟨i,hi,rfl,hR,hI⟩:=hrel
  obtain⟨ah,ch,rfl⟩:=hR.sl
  have HR:=Hd hR
  have HI:=Hd hI
  clear hR hI
  by_cases hlt:i < L.length
  ·have b1:(i:Int) < (L.length:Int):=by omega
   obtain⟨t,ht⟩:∃ t,L[i]?=some t:=⟨_,List.getElem?_eq_getElem hlt⟩
   obtain⟨ax,cx,hh,hcell⟩:=HV.out.slice
   obtain⟨ba,oa,hao,hqa⟩:=hcell i t ht
   subst hao
   cases hh
   have q1:=cell_ext hqa HR.out.ext
   have HT:=Hd ht
   have HQT:=Hd hqa
   have HCL:=Hd (show ∀ (j:Nat) x,L[j]?=some x→w.cell? ⟨ba,oa+j,none⟩=some (.string x)from fun j x hx=>by
    obtain⟨b',o',e,h⟩:=hcell j x hx
    cases e;exact h)
   clear hcell hqa ht
   go_wp2_with fail
   refine (of_t _ _ [t] (by simp) (rds_lit wr [t] 9) (HC.out.ext (HR.out.ext.alloc _))).mono ?_
   rintro e w4 ⟨rfl,hE⟩
   rw[catB_one]
   have hx4:=((ExtR wr).alloc (.cells #[.string t] 9)).trans hE
   have HR4:=Hd (HR.out.mono hx4)
   have HX4:=Hd (HR.out.ext.trans hx4)
   obtain⟨sh,hsh⟩:∃ sh,sh=shaB t:=⟨_,rfl⟩
   have HSH:=Hd hsh
   rw[←hsh]
   clear hE hx4 hsh q1 HR
   go_wp2_with fail
   go_loopw [6] (fun kv wr2=>ApR2 w4 L t i kv wr2) (fun kv _=>i - (intOf kv).toNat)
   case atStart=>exact⟨0,Nat.zero_le _,rfl,ExtR w4,fun x hx=>by cases hx⟩
   case round =>
    obtain⟨k,hk,rfl,hE,hs⟩:=hrel
    have HE:=Hd hE
    have HS:=Hd hs
    clear hE hs
    by_cases hlt2:k < i
    ·have b2:(k:Int) < (i:Int):=by omega
     have b3:(k:Int) < (L.length:Int):=by omega
     obtain⟨x,hx⟩:∃ x,L[k]?=some x:=⟨_,List.getElem?_eq_getElem (by omega)⟩
     have hxm:((L.take i).map shaB)[k]?=some (shaB x):=by rw[List.getElem?_map,List.getElem?_take,if_pos hlt2,hx];rfl
     have hrd:=own_rd HR4.out.own
     have hq2:∃ bh oh,ah=some ⟨bh,oh,none⟩∧w4.cell? ⟨bh,oh+k,none⟩=some (.string (shaB x)):=by
      rcases hrd with⟨_,_,_,h0⟩ |⟨bq,oq,cq,hh,_,_,hcell⟩
      ·rw[h0]at hxm;cases hxm
      ·exact⟨bq,oq,(Value.slice.inj hh).1,hcell k _ hxm⟩
     obtain⟨bh,oh,rfl,hq2⟩:=hq2
     obtain⟨sx,hsx⟩:∃ sx,sx=shaB x:=⟨_,rfl⟩
     rw[←hsx]at hq2
     have HSX:=Hd hsx
     have Q1:=Hd (cell_ext hq2 HE.out)
     have Q2:=Hd (cell_ext (HCL.out k x hx) (HX4.out.trans HE.out))
     have Q3:=Hd (cell_ext HQT.out (HX4.out.trans HE.out))
     have HX:=Hd hx
     clear hx hxm hrd hq2 hsx
     go_wp2_with fail
     refine wp_region_mixK [0,1,2,3,4,5,6,7,8,9,10,11,12,13,14,15,16] Ext ExtR ExtT (by kernel_rfl) (by kernel_rfl) (by kernel_rfl) ?_
     iterate 3 (refine mixk_pure _ rfl (by kernel_rfl) rfl rfl (fun K hK=>?_);go_big_quiet_op;refine hK _ ?_;clear hK K)
     refine mixk_load ⟨bh,oh+k,none⟩ _ rfl (by kernel_rfl) rfl rfl (fun w1 h1=>run_load_plain Tryz.underlying9 rfl (cell_ext Q1.out ((drewE _).trans h1))) ?_
     simp only[Act.put,sA,sB,sC]
     iterate 3 (refine mixk_pure _ rfl (by kernel_rfl) rfl rfl (fun K hK=>?_);go_big_quiet_op;refine hK _ ?_;clear hK K)
     cases hq:(sx.toList == sh.toList)with
     | false =>
      have HN:=Hd (show shaB x=shaB t→x=t from fun e=>by
       rw[←HSX.out, ←HSH.out]at e
       rw[e]at hq;simp at hq)
      clear hq
      iterate 9 (refine mixk_skip _ rfl (by kernel_rfl) rfl ?_;simp only[Act.put,sA,sB,sC])
      (refine mixk_pure _ rfl (by kernel_rfl) rfl rfl (fun K hK=>?_);go_big_quiet_op;refine hK _ ?_;clear hK K)
      refine mixk_end (by kernel_rfl) (fun w5 he=>?_)
      have HE5:=Hd (HE.out.trans ((drewE _).trans he))
      have HS5:=Hd (show ∀ z∈L.take (k+1),shaB z=shaB t→z=t from fun z hz e=>by
       rw[List.take_add_one,HX.out]at hz
       rcases List.mem_append.1 hz with h1 | h1
       ·exact HS.out z h1 e
       ·simp at h1;subst h1;exact HN.out e)
      clear he Q1 Q2 Q3 HE HS
      go_wp2_with fail
      go_roundw
      case rel=>exact⟨k+1,by omega,by go_num,HE5.out,HS5.out⟩
      case measure=>simp[intOf];omega
     | true =>
      have HSQ:=Hd (show shaB x=shaB t by rw[←HSX.out, ←HSH.out];exact toList_inj (by simpa using hq))
      clear hq
      iterate 3 (refine mixk_pure _ rfl (by kernel_rfl) rfl rfl (fun K hK=>?_);go_big_quiet_op;refine hK _ ?_;clear hK K)
      refine mixk_load ⟨ba,oa+k,none⟩ _ rfl (by kernel_rfl) rfl rfl (fun w1 h1=>run_load_plain Tryz.underlying9 rfl (cell_ext Q2.out ((drewE _).trans h1))) ?_
      simp only[Act.put,sA,sB,sC]
      iterate 3 (refine mixk_pure _ rfl (by kernel_rfl) rfl rfl (fun K hK=>?_);go_big_quiet_op;refine hK _ ?_;clear hK K)
      refine mixk_load ⟨ba,oa+i,none⟩ _ rfl (by kernel_rfl) rfl rfl (fun w1 h1=>run_load_plain Tryz.underlying9 rfl (cell_ext Q3.out ((drewE _).trans h1))) ?_
      simp only[Act.put,sA,sB,sC]
      (refine mixk_pure _ rfl (by kernel_rfl) rfl rfl (fun K hK=>?_);go_big_quiet_op;refine hK _ ?_;clear hK K)
      cases hq2:(x.toList == t.toList)with
      | true =>
       have HN:=Hd (show x=t from toList_inj (by simpa using hq2))
       have hb:(!true)=false:=rfl
       clear hq2
       rw[hb]
       (refine mixk_pure _ rfl (by kernel_rfl) rfl rfl (fun K hK=>?_);go_big_quiet_op;refine hK _ ?_;clear hK K)
       refine mixk_end (by kernel_rfl) (fun w5 he=>?_)
       have HE5:=Hd (HE.out.trans ((drewE _).trans he))
       have HS5:=Hd (show ∀ z∈L.take (k+1),shaB z=shaB t→z=t from fun z hz e=>by
        rw[List.take_add_one,HX.out]at hz
        rcases List.mem_append.1 hz with h1 | h1
        ·exact HS.out z h1 e
        ·simp at h1;subst h1;exact HN.out)
       clear he Q1 Q2 Q3 HE HS hb
       go_wp2_with fail
       go_roundw
       case rel=>exact⟨k+1,by omega,by go_num,HE5.out,HS5.out⟩
       case measure=>simp[intOf];omega
      | false =>
       have hb:(!false)=true:=rfl
       have HNE:=Hd (show ¬ InjL L from fun h=>by
        have:=h x (List.mem_of_getElem? HX.out) t (List.mem_of_getElem? HT.out) HSQ.out
        rw[this]at hq2;simp at hq2)
       clear hq2
       rw[hb]
       (refine mixk_pure _ rfl (by kernel_rfl) rfl rfl (fun K hK=>?_);go_big_quiet_op;refine hK _ ?_;clear hK K)
       refine mixk_end (by kernel_rfl) (fun w5 he=>?_)
       have HE5:=Hd (HE.out.trans ((drewE _).trans he))
       clear he Q1 Q2 Q3 HE HS hb
       go_wp2_with fail
       go_ret
       exact⟨false,rfl,⟨fun e=>(by cases e),fun h=>absurd h HNE.out⟩,HX4.out.trans HE5.out⟩
    ·have hki:k=i:=by omega
     subst hki
     have HIS:=Hd (HI.out.step HT.out HS.out)
     have HRR:=Hd (HR4.out.mono HE.out)
     have HMS:=Hd (show (L.take (k+1)).map shaB=(L.take k).map shaB++[sh] by rw[List.take_add_one,HT.out,List.map_append,HSH.out];rfl)
     have hm1:k+1≤maxLen:=by unfold maxLen;omega
     have hm2:(k+1) * 16≤140737488355328:=by omega
     clear HS HI HE HR4
     go_wp2_with (at_builtin;refine wpList_app Tryz.sStrs (HRR.out.mono ((ExtR wr).alloc _)) (.tmp 41) (.tmp 43) rfl rfl rfl (news_blk (Blk.new wr _)) (news:=[.string sh]) (by intro u hu;simp at hu;rcases hu with rfl;rfl) rfl rfl hm1 hm2 ?_;intro v' w' r1 r2 r3)
     have r1':SRow w w' v' (k+1) ((L.take (k+1)).map shaB):=by unfold SRow;rw[HMS.out,List.map_append];exact r1
     obtain⟨ah',ch',rfl⟩:=r1'.sl
     have HR9:=Hd r1'
     clear r1 r2 r3 r1'
     go_wp2_with fail
     go_roundw
     case rel=>exact⟨k+1,by omega,by go_num,HR9.out,HIS.out⟩
     case measure=>simp[intOf];omega
  ·have hie:i=L.length:=by omega
   have HIL:=Hd (show InjL L by have:=HI.out;rwa [hie,List.take_length]at this)
   clear HI
   go_wp2_with fail
   go_ret
   exact⟨true,rfl,⟨fun _=>HIL.out,fun _=>rfl⟩,HR.out.ext⟩
end
section
open Go Go.RowKit
def cK(T:List ByteArray)(k:Key):Nat:=(T.map (·.data.toList)).count k
theorem cK_app(A B:List ByteArray)(k:Key):cK (A++B) k=cK A k+cK B k:=by unfold cK;rw[List.map_append,List.count_append]
theorem cK_cons(r:ByteArray)(B:List ByteArray)(k:Key):cK (r :: B) k=cK B k+(if k=r.data.toList then 1 else 0):=by
 unfold cK
 rw[List.map_cons,List.count_cons]
 by_cases h:k=r.data.toList
 ·rw[if_pos h,h];simp
 ·rw[if_neg h,if_neg];simpa using fun e=>h e.symm
theorem cK_none{T:List ByteArray}{k:Key}(h:∀ r∈T,r.data.toList≠k):cK T k=0:=by
 unfold cK
 rw[List.count_eq_zero]
 intro hm
 obtain⟨r,hr,e⟩:=List.mem_map.1 hm
 exact h r hr e
theorem cK_pos{T:List ByteArray}{r:ByteArray}(h:r∈T):1≤cK T r.data.toList:=by
 unfold cK
 exact List.count_pos_iff.2 (List.mem_map.2 ⟨r,h,rfl⟩)
def addU(n:Nat)(x:Nd5):Nd5:=(x.1,x.2.1,⟨x.2.2.text,x.2.2.refs,x.2.2.used+n,x.2.2.held⟩)
def addH(n:Nat)(x:Nd5):Nd5:=(x.1,x.2.1,⟨x.2.2.text,x.2.2.refs,x.2.2.used,x.2.2.held+n⟩)
theorem bumps_is:∀ (T:List ByteArray) (L:List Nd5),bumps T L=L.map fun x=>addU (cK T x.1) x
 | [],L=>by
  show L=_
  have:(fun x:Nd5=>addU (cK [] x.1) x)=id:=by
   funext x
   obtain⟨a,b,⟨t,r,u,h⟩⟩:=x
   unfold addU cK;simp
  rw[this,List.map_id]
 | r :: T,L=>by
  show bumps T (bumpU r.data.toList L)=_
  rw[bumps_is T,bumpU,List.map_map]
  refine List.map_congr_left fun x _=>?_
  show addU (cK T (if x.1=r.data.toList then (x.1,x.2.1,putF 2 (x.2.2.used+1) x.2.2)else x).1) (if x.1=r.data.toList then (x.1,x.2.1,putF 2 (x.2.2.used+1) x.2.2)else x)=_
  rw[cK_cons]
  by_cases h:x.1=r.data.toList
  ·simp only[if_pos h]
   unfold addU putF
   simp only[if_true]
   rw[show x.2.2.used+1+((cK T x.1:Nat):Int)=x.2.2.used+((cK T x.1+1:Nat):Int) by omega]
  ·simp only[if_neg h,Nat.add_zero]
theorem bumpH_is(r:ByteArray)(L:List Nd5):bumpH r.data.toList L=L.map fun x=>addH (cK [r] x.1) x:=by
 unfold bumpH
 refine List.map_congr_left fun x _=>?_
 rw[cK_cons]
 by_cases h:x.1=r.data.toList
 ·rw[if_pos h,if_pos h];rfl
 ·rw[if_neg h,if_neg h]
  obtain⟨a,b,⟨t,r,u,h⟩⟩:=x
  unfold addH cK;simp
def bothU(T:List ByteArray)(r:ByteArray)(x:Nd5):Nd5:=addH (cK [r] x.1) (addU (cK T x.1) x)
theorem both_is(T:List ByteArray)(r:ByteArray)(L:List Nd5):bumpH r.data.toList (bumps T L)=L.map (bothU T r):=by
 rw[bumpH_is,bumps_is,List.map_map];rfl
theorem both_keys(T:List ByteArray)(r:ByteArray)(L:List Nd5):(L.map (bothU T r)).map (·.1)=L.map (·.1):=by
 rw[List.map_map];rfl
theorem both_refs(T:List ByteArray)(r:ByteArray)(L:List Nd5):(L.map (bothU T r)).flatMap (fun y=>y.2.2.refs)=L.flatMap (fun y=>y.2.2.refs):=by
 rw[List.flatMap_map];rfl
theorem picks_refs(G:List Nd5):∀ F:List ByteArray,F.flatMap (refsO G)=(picks G F).flatMap (fun y=>y.2.2.refs)
 | []=>rfl
 | x :: F=>by
  have ih:=picks_refs G F
  unfold picks at *
  rw[List.flatMap_cons,List.filterMap_cons]
  cases h:atL G x.data.toList with
  | none=>rw[ih];unfold refsO;rw[h];rfl
  | some y=>rw[ih,refsO_some h,List.flatMap_cons]
theorem has_iff{S:List Nd5}{k:Key}:(atL S k).isSome=true↔k∈S.map (·.1):=by
 constructor
 ·intro h
  obtain⟨y,hy⟩:=Option.isSome_iff_exists.1 h
  exact List.mem_map.2 ⟨y,(atL_mem hy).1,(atL_mem hy).2⟩
 ·intro h
  obtain⟨y,hy,e⟩:=List.mem_map.1 h
  cases ha:atL S k with
  | some z=>rfl
  | none=>exact absurd e.symm (atL_none.1 ha y hy)
def RootP(L:List ByteArray)(top:ByteArray):Prop:=∀ P:ByteArray→Prop,(∀ t∈L,P (shaB t)→∀ h∈hashesT (nodeOf t),P h)→P (shaB top)→∀ t∈L,P (shaB t)
theorem ky_inj{U:List ByteArray}(hU:InjL U){s t:ByteArray}(hs:s∈U)(ht:t∈U)(h:ky s=ky t):s=t:=hU s hs t ht (ba_data h)
def addS(S G:List Nd5)(M:List ByteArray)(top:ByteArray):List Nd5:=bumpH (shaB top).data.toList (bumps ((frK S M).flatMap (refsO G)) (S++picks G (frK S M)))
theorem addS_is(S G:List Nd5)(M:List ByteArray)(top:ByteArray):addS S G M top=(S++picks G (frK S M)).map (bothU ((frK S M).flatMap (refsO G)) (shaB top)):=both_is _ _ _
theorem reach(w:World)(P:ByteArray→Prop):∀ (f:Nat) (l:List Pair),RowsOk f l→(∀ t∈flatT (buildT (f+1) l),P (shaB t)→∀ h∈hashesT (nodeOf t),P h)→P (shaB (nodeB (nodeF (buildT f) l)))→∀ t∈flatT (buildT (f+1) l),P (shaB t):=by
 intro f
 induction f with
 | zero =>
  intro l h _ h0 t ht
  have e2:belowF (buildT 0) l=[]:=by have:=rows_one h;unfold belowF;rw[if_pos (by omega)]
  have eT:flatT (buildT (0+1) l)=[nodeB (nodeF (buildT 0) l)]:=by
   show flatT (.mk (nodeB (nodeF (buildT 0) l)) (belowF (buildT 0) l))=_
   rw[flatT,e2];simp[flatTs]
  rw[eT,List.mem_singleton]at ht
  subst ht;exact h0
 | succ f ih =>
  intro l h hcl h0 t ht
  have eT:flatT (buildT (f+1+1) l)=nodeB (nodeF (buildT (f+1)) l) :: flatTs (belowF (buildT (f+1)) l):=by
   show flatT (.mk (nodeB (nodeF (buildT (f+1)) l)) (belowF (buildT (f+1)) l))=_
   rw[flatT]
  have hh:=hashes_below (f+1) l h
  have hroot:IsNode (nodeB (nodeF (buildT (f+1)) l)) (nodeF (buildT (f+1)) l):=⟨rfl,f+1,(good (f+1) l h).1⟩
  rw[eT]at ht
  rcases List.mem_cons.1 ht with rfl | ht
  ·exact h0
  obtain⟨K,hK,ht⟩:=flatTs_mem.1 ht
  obtain⟨g,m,eg,e,h1,h32⟩:=below_kid h hK
  obtain rfl:f=g:=by omega
  subst e
  have hsub:∀ t∈flatT (buildT (f+1) m),t∈flatT (buildT (f+1+1) l):=fun t ht=>by
   rw[eT];exact List.mem_cons_of_mem _ (flatTs_mem.2 ⟨_,hK,ht⟩)
  refine ih m h1 (fun t ht=>hcl t (hsub t ht)) ?_ t ht
  refine hcl _ (by rw[eT];exact List.mem_cons_self) h0 _ ?_
  rw[isNode_inj w (nodeOf_is hroot) hroot,hh]
  exact List.mem_map.2 ⟨_,hK,rfl⟩
theorem root_all(w:World){l:List Pair}(h:checkN l=0):RootP (firsts (flatT (trieT l))) (trieT l).text:=fun P h1 h2 t ht =>
 reach w P 12 (rowsL l) (rows_ok (check_ok h)) (fun t ht=>h1 t ((firsts_mem _ _).2 ht)) h2 t ((firsts_mem _ _).1 ht)
theorem texts_shut(w:World){l:List Pair}(h:checkN l=0)(hl:(firsts (flatT (trieT l))).length≤1000):ShutL (firsts (flatT (trieT l))):=
 ⟨fun t ht=>by obtain⟨n,h1,_⟩:=(texts h).node t ht;exact⟨n,h1⟩,
  fun t ht x hx=>by
  obtain⟨n,h1,h2⟩:=(texts h).node t ht
  rw[isNode_inj w (nodeOf_is h1) h1]at hx
  exact h2 x hx,hl⟩
theorem StoreAt.nd{W:World}{s bm:Nat}{room:Int}{S:List Nd5}(h:StoreAt W s bm room S):(S.map (·.1)).Nodup:=by
 obtain⟨es,ck,_,hv⟩:=h.mp.mp
 have:=hv.keys
 rw[List.map_map]at this
 exact this
end
section
open Go Go.RowKit
attribute [local go_sem] Oper.semAt_some
def textsL(l:List Pair):List ByteArray:=firsts (flatT (trieT l))
theorem textsL_len{l:List Pair}(h:checkN l=0):(textsL l).length≤121:=by
 have h1:=(trie_grows h).1
 have h2:=(check_ok h).len
 show (firsts (flatT (trieT l))).length≤_
 omega
def HoldNo(l:List Pair)(w:World)(e:Ending)(w':World):Prop:=e=.returned (.tuple #[.pointer none,.string ⟨#[]⟩])∧Ext w w'∧¬(fewB l=true∧checkN l=0∧InjL (textsL l))
end
end Go.Proofs.YtpaacnhboilkkaaGreatDoor
