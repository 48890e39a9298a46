/- Lemmas; each is under no condition but those that it states. -/
import Derived.Test.YtcpnjmcipainpaaGreatDoorPr29
namespace Go.Proofs.YtcpnjmcipainpaaGreatDoor
set_option linter.unusedSimpArgs false
set_option linter.unusedVariables false
set_option maxRecDepth 100000
set_option maxHeartbeats 16000000
open Go Go.RowKit
section
attribute [local go_sem] Oper.semAt_some
def cutV(s p:vB):Value:=if preB p s then .tuple #[.string (s.extract p.size s.size),.bool true]else .tuple #[.string s,.bool false]
theorem jkI(w:World)(s p:vB)(hs:s.size<=1000000)(hp:p.size<=1000000):vQ 251 #[.string s,.string p] w fun e w'=>e=.returned (cutV s p)/\w'=w:=by
 unfold cutV;cases hb:preB p s with
 | true =>
  have hle:=jtB hb;have c1:(p.size:Int)<=(s.size:Int):=by omega
  have HB:=Hd hb;clear hb;go_enter Tryz.func251,Tryz.ntmps251;go_wp2_with fail
  refine (jjV w s p hs hp).mono ?_;rintro e w1 ⟨rfl,rfl⟩;rw[HB.o];go_wp2_with fail
  go_ret2
  exact⟨rfl,rfl⟩
 | false =>
  have HB:=Hd hb;clear hb;go_enter Tryz.func251,Tryz.ntmps251;go_wp2_with fail
  refine (jjV w s p hs hp).mono ?_;rintro e w1 ⟨rfl,rfl⟩;rw[HB.o];go_wp2_with fail
  go_ret2
  exact⟨rfl,rfl⟩
theorem jhu(w:World)(s p:vB)(hs:s.size<=1000000)(hp:p.size<=1000000):vQ 234 #[.string s,.string p] w fun e w'=>e=.returned (cutV s p)/\w'=w:=by
 have H:=Hd (jkI w s p hs hp);unfold cutV at *;cases hb:preB p s with
 | true =>
  rw[hb,if_pos rfl]at H;rw[if_pos rfl];clear hb;go_enter Tryz.func234,Tryz.ntmps234;go_wp2_with fail
  refine H.o.mono ?_;rintro e w1 ⟨rfl,rfl⟩;go_wp2_with fail
  go_ret2
  exact⟨rfl,rfl⟩
 | false =>
  rw[hb,if_neg ff]at H;rw[if_neg ff];clear hb;go_enter Tryz.func234,Tryz.ntmps234;go_wp2_with fail
  refine H.o.mono ?_;rintro e w1 ⟨rfl,rfl⟩;go_wp2_with fail
  go_ret2
  exact⟨rfl,rfl⟩
def jr8(P:PA):Prop:=∀ (W:World) (T:TypeId) (x:Value) (D:Nat->Prop) (p:vB),PaO P (.iface T x) D W->p.size<=900000->jat p=true->Dp P 900000 ->
 vQ (jeV P) #[x,.string p] W (PaTo D W (jbL P p))
theorem jtq(W:World)(D:Nat->Prop)(p:vB):vQ 319 #[.agg #[],.string p] W (PaTo D W .no):=by
 go_enter Tryz.func319,Tryz.ntmps319;go_wp2_with fail
 go_ret;exact PaTo.mk1 rfl (((ExtR W).alloc _).mono (fun _ _ e=>e.elim))
theorem jvv(W:World)(D:Nat->Prop)(q v p:vB)(b:Nat)(hB:Blk W b (.cells #[.string q,.string v] 283))(hD:D b):vQ 305 #[.pointer (some ⟨b,0,none⟩),.string p] W (PaTo D W (jbL (.leaf q v) p)):=by
 have q0:=hB.cell (i:=0) (v:=.string q) vF;have HB:=Hd hB;have HD:=Hd hD;have e1:jbL (.leaf q v) p=if p=q then .no else .leaf q v:=rfl
 rw[e1];clear hB hD e1
 by_cases hpq:p=q
 ·rw[if_pos hpq]
  have heq:(p.toList == q.toList)=true:=by rw[jjI];exact decide_eq_true hpq
  clear hpq;go_enter Tryz.func305,Tryz.ntmps305;go_wp2_with fail
  go_ret;exact PaTo.mk1 rfl (jae.refl _ W)
 ·rw[if_neg hpq]
  have heq:(p.toList == q.toList)=false:=by rw[jjI];exact decide_eq_false hpq
  clear hpq;go_enter Tryz.func305,Tryz.ntmps305;go_wp2_with fail
  go_ret;exact PaTo.mk1 ⟨b,rfl,.inl HD.o,HB.o⟩ (jae.refl _ W)
theorem jfb:∀ (P:PA) (p:vB),(jbL P p).isNil=false
 | .nil,_=>rfl
 | .no,_=>rfl
 | .leaf q v,p=>by
  unfold jbL;split <;> rfl
 | .ext q n,p=>by
  unfold jbL;split
  ·exact jdn (jfb n _)
  ·rfl
 | .br v ks,p=>by
  have hl:∀ v ks,(jdd v ks).isNil=false:=by
   intro v ks;have hm:∀ i∈idxK ks,(ks i).isNil=false:=fun i hi=>by
    have:=(List.mem_filter.1 hi).2
    simpa using this
   unfold jdd;cases e:idxK ks with
   | nil =>
    show (if v.size=0 then PA.no else .leaf ⟨#[]⟩ v).isNil=false;split <;> rfl
   | cons i r =>
    cases r with
    | nil =>
     show (if v.size=0 then jb8 ⟨#[UInt8.ofNat i]⟩ (ks i)else .br v ks).isNil=false;split
     ·exact jdn (hm i (by rw[e];exact List.mem_cons_self))
     ·rfl
    | cons j r=>rfl
  unfold jbL;split
  ·exact hl _ _
  ·split
   ·rfl
   ·exact hl _ _
theorem jsO(W:World)(D:Nat->Prop)(q:vB)(n:PA)(T:TypeId)(x:Value)(Dn:Nat->Prop)(b:Nat)(hB:Blk W b (.cells #[.string q,.iface T x] 286))(hDb:D b)(hv:PaAt n (.iface T x) Dn W)(hbn:¬ Dn b)(hD:∀ x,Dn x->D x/\x < W.heap.size)(p:vB)(hp:jat p=true)(hqs:q.size<=900000)(hps:p.size<=900000)(hf:preB q p=false):vQ 311 #[.pointer (some ⟨b,0,none⟩),.string p] W (PaTo D W (.ext q n)):=by
 have q0:=hB.cell (i:=0) (v:=.string q) vF;have q1:=hB.cell (i:=1) (v:=.iface T x) vF;have Q0:=Hd q0;have Q1:=Hd q1;have HB:=Hd hB;have HV:=Hd hv;have HD:Hid (∀ z,Dn z->D z/\z < W.heap.size):=hD;have HK:=Hd (And.intro hDb hbn);have hcp:=jhu W p q vO vO;unfold cutV at hcp;rw[hf,if_neg ff]at hcp;have HC:=Hd hcp;clear hB hDb hv hbn hD hp hf hcp;go_enter Tryz.func311,Tryz.ntmps311;go_wp2_with fail
 refine HC.o.mono ?_;rintro e w1 ⟨rfl,rfl⟩;go_wp2_with fail
 go_ret;exact PaTo.mk1 ⟨b,T,x,Dn,rfl,.inl HK.o.1,HB.o,HV.o,HK.o.2,fun z hz=>.inl (HD.o z hz).1⟩ (jae.refl _ _)
theorem jsN(W:World)(D:Nat->Prop)(q:vB)(n:PA)(T:TypeId)(x:Value)(Dn:Nat->Prop)(b:Nat)(hB:Blk W b (.cells #[.string q,.iface T x] 286))(hDb:D b)(hv:PaAt n (.iface T x) Dn W)(hbn:¬ Dn b)(hD:∀ x,Dn x->D x/\x < W.heap.size)(p:vB)(hp:jat p=true)(hqs:q.size<=900000)(hps:p.size<=900000)(hd:Dp n 900000)(hk:jr8 n)(hf:preB q p=true) :
  vQ 311 #[.pointer (some ⟨b,0,none⟩),.string p] W (PaTo D W (jb8 q (jbL n (p.extract q.size p.size)))):=by
 have q0:=hB.cell (i:=0) (v:=.string q) vF;have q1:=hB.cell (i:=1) (v:=.iface T x) vF;have Q0:=Hd q0;have Q1:=Hd q1;have HB:=Hd hB;have HV:=Hd hv;have HD:Hid (∀ z,Dn z->D z/\z < W.heap.size):=hD;have hcp:=jhu W p q vO vO;unfold cutV at hcp;rw[hf,if_pos rfl]at hcp;have HC:=Hd hcp;have hbl:=hB.lt;have HNB:=Hd (show ¬(Dn b\/W.heap.size<=b)from fun e=>e.elim hbn (fun e=>by omega));have hval:jat (p.extract q.size p.size)=true:=jbg hp _ _;have hsz:(p.extract q.size p.size).size<=900000:=by rw[jaR];omega
 have HM:=Hd hv.meth;have CALLEE:=Hd (show ∀ wb,Ext W wb->vQ (jeV n) #[x,.string (p.extract q.size p.size)] wb (PaTo Dn wb (jbL n (p.extract q.size p.size)))from fun wb e=>hk wb T x Dn _ ⟨hv.keeps e _ _ _ (fun _ _ e=>e),fun z hz=>Nat.lt_of_lt_of_le (hD z hz).2 e.size⟩ hsz hval hd);have HDP:Hid (Dp (jbL n (p.extract q.size p.size)) 1000000):=(jb6 _ _ _ (jhB n 900000 _ hd) vO);clear hB hDb hv hbn hD hp hd hk hf hval hsz hcp hbl;go_enter Tryz.func311,Tryz.ntmps311;go_wp2_with fail
 refine HC.o.mono ?_;rintro e Wk ⟨rfl,rfl⟩;go_wp2_with fail
 refine jaD [0,1,2,3,4,5,6,7,8,9,10,11] [9,10] Ext (jae (fun z=>Dn z\/Wk.heap.size<=z)) ExtR ExtT (fun x y z h k=>jae.trans h k) (fun x y h=>h.mono (fun _ _ h=>h.elim)) vY vY vY ?_
 refine vD ?_
 refine qDV _ ((.pointer (some ⟨b,0,none⟩))) rfl (fun w1 _=>by kernel_rfl) ?_;refine vS ?_
 refine vD ?_
 refine qDL ⟨b,0,none⟩ _ rfl (fun w1 h1=>jaz (fun w=>by kernel_rfl) (jaw Q0.o (((jae.refl (fun z=>Dn z\/Wk.heap.size<=z) Wk).drew).trans h1) (by exact HNB.o))) ?_;refine vS ?_
 refine vD ?_
 refine qDV _ ((.pointer (some ⟨b,0,none⟩))) rfl (fun w1 _=>by kernel_rfl) ?_;refine vS ?_
 refine vD ?_
 refine qDL ⟨b,1,none⟩ _ rfl (fun w1 h1=>jaz (fun w=>by kernel_rfl) (jaw Q1.o (((jae.refl (fun z=>Dn z\/Wk.heap.size<=z) Wk).drew).trans h1) (by exact HNB.o))) ?_;refine vS ?_
 refine vD ?_
 refine qDH _ rfl (fun wb hb K hK=>?_);have kb:Ext Wk wb:=((ExtR Wk).drew).trans hb;refine jbv (jcz (f:=jeV n) (vs:=#[.string (p.extract q.size p.size)]) rfl (HM.o.drop _) (jfc _) vY) ?_;refine (CALLEE.o wb kb).mono ?_;rintro e w2 ⟨v2,rfl,hP2,hk2⟩
 refine⟨v2,rfl,hK _ _ (hk2.mono (fun z _ hz=>.inl hz)) ?_⟩
 have HS:=Hd (And.intro kb (And.intro hP2 hk2));clear hK K hb kb hP2 hk2;refine vS ?_;refine qDH _ rfl (fun wc hc K hK=>?_)
 obtain⟨kb,hP2,hk2⟩:=HS.o
 have kc:jae Dn wb wc:=hk2.trans (hc.mono (fun _ _ e=>e.elim));have hPc:PaAt (jbL n (p.extract q.size p.size)) v2 (Grow Dn wb wc) wc:=(hP2.keeps hc _ _ _ (fun _ _ e=>e)).mono (fun z hz=>hz.imp id (fun e=>⟨e.1,Nat.lt_of_lt_of_le e.2 hc.size⟩));have hOc:=PaTo.own hPc kc (fun z hz=>Nat.lt_of_lt_of_le (HD.o z hz).2 kb.size);refine jbv (jay (vX 310) vY) ((pj_c wc _ q _ v2 hOc (jfb _ _) vO HDP.o).mono ?_);rintro e w5 ⟨v5,rfl,hP5,hE5⟩
 refine⟨v5,rfl,hK _ _ (hE5.mono (fun _ _ e=>e.elim)) ?_⟩
 have HZ:=Hd (And.intro kc (And.intro hP5 (And.intro hE5 (jer hOc.lt hE5))));clear hK K hc kb hP2 hk2 kc hPc hOc hP5 hE5;refine vS ?_
 refine vD ?_
 refine qDE (fun wd hd=>?_);have HQ:=Hd hd;clear hd;go_wp2_with fail
 go_ret
 obtain⟨kb,_,_⟩:=HS.o
 obtain⟨kc,hP5,hE5,hl5⟩:=HZ.o
 have hd:=HQ.o;refine PaTo.mk1 ((hP5.keeps hd _ _ _ (fun _ _ e=>e)).mono (fun z hz=>?_)) (((kb.mono (fun _ _ e=>e.elim):jae D Wk wb).trans (kc.mono (fun z _ hz=>(HD.o z hz).1))).trans ((hE5.trans hd).mono (fun _ _ e=>e.elim)));have hzl:=Nat.lt_of_lt_of_le (hl5 z hz) hd.size;rcases hz with (hz | hz) | hz
 ·exact .inl (HD.o z hz).1
 ·exact .inr ⟨Nat.le_trans kb.size hz.1,hzl⟩
 ·exact .inr ⟨Nat.le_trans (Nat.le_trans kb.size kc.size) hz.1,hzl⟩
theorem Tryz.uKids:Tryz.prog.underlying 288=some (.array 16 100):=by kernel_rfl
theorem Tryz.iKids:(Tryz.prog.info? 288).map (·.size)=some 16:=by kernel_rfl
theorem Tryz.partOne:(Tryz.prog.info? 100).map (·.size)=some 1:=by kernel_rfl
theorem Tryz.partAgg(w:World):(isAgg 100).run Tryz.prog w=.ok false w:=by kernel_rfl
def joE(vk:Nat->Value):List Value:=(List.range 16).map vk
theorem jtb(vk:Nat->Value){i:Nat}(h:i < 16):(joE vk)[i]?=some (vk i):=by
 unfold joE;rw[List.getElem?_map,List.getElem?_range h];rfl
theorem jbc{W:World}{b:Nat}{u:vB}{vk:Nat->Value}(hB:Blk W b (.cells (brC u vk).toArray 290)):(Instr.loadAt 288 (.pointer (some ⟨b,1,none⟩))).run Tryz.prog W=.ok (.agg (joE vk).toArray) W:=by
 have hrg:W.rangeAt b 1 (joE vk):=fun j v hv=>hB.cellL (by rw[Nat.add_comm];exact hv);have hld:=run_loadVar_mid (P:=Tryz.prog) W b 1 288 _ _ hrg Tryz.uKids rfl (by unfold joE;simp only[List.length_map,List.length_range];exact Tryz.iKids);simp[Instr.loadAt,Instr.sureAddr,Sem.run_bind,Result.andThen,hld]
theorem jex(vk:Nat->Value){i:Nat}(h:i < 16)(w:World):(Instr.index 288 (.agg (joE vk).toArray) (.int .i64 (i:Int))).run Tryz.prog w=.ok (vk i) w:=
 jew Tryz.uKids Tryz.partOne Tryz.partAgg _ i h _ (jtb vk h) w
theorem jdh(T:TypeId)(x:Value)(w:World):(binOp .neq 100 (.iface T x) .nilIface).run Tryz.prog w=.ok (.bool true) w:=by kernel_rfl
theorem jjJ(w:World):(binOp .neq 100 .nilIface .nilIface).run Tryz.prog w=.ok (.bool false) w:=by kernel_rfl
def idxN(ks:Nat->PA)(k:Nat):List Nat:=(List.range k).filter fun i => !(ks i).isNil
theorem jeS(ks:Nat->PA)(k:Nat):idxN ks (k+1)=idxN ks k++(if (ks k).isNil then []else [k]):=by
 unfold idxN;rw[List.range_succ,List.filter_append]
 congr 1
 cases h:(ks k).isNil <;> simp[h]
theorem PaAt.kid{P:PA}{v:Value}{D:Nat->Prop}{W:World}(h:PaAt P v D W):(P.isNil=true/\v=.nilIface)\/(P.isNil=false/\∃ T x,v=.iface T x):=by
 cases hn:P.isNil with
 | true=>rw[jbo hn]at h;exact .inl ⟨rfl,h⟩
 | false=>exact .inr ⟨rfl,h.form hn⟩
def jpg(ks:Nat->PA)(W:World)(cv ov iv:Value)(wr:World):Prop:=∃ (k c o:Nat),k<=16/\iv=.int .i64 (k:Int)/\cv=.int .i64 (c:Int)/\ov=.int .i64 (o:Int)/\wr=W/\c=(idxN ks k).length/\o=(idxN ks k).getLast?.getD 0
theorem joI(wr:World)(D:Nat->Prop)(v:vB)(ks:Nat->PA)(b:Nat)(h:PaO (.br v ks) (brV b) D wr)(hi:idxK ks=[])(hv:v.size=0) :
  vQ 318 #[.pointer (some ⟨b,0,none⟩)] wr (PaTo D wr .no):=by
 obtain⟨vk,Dk,hb⟩:=h.br
 have hla:=jbc hb.blk;have q0:=hb.blk.cellL (i:=0) (v:=.string v) vF;have H:=Hd hb;have hem:(⟨#[]⟩:vB).toList.isEmpty=true:=by rw[ByteArray.toList_eq];rfl
 obtain⟨W,hW⟩:=vE wr
 have hve:=jbh hv;subst hve;have HI:=Hd hi;clear h hb hi hv;rw[<-hW]at hla q0 H ⊢;clear hW;go_enter Tryz.func318,Tryz.ntmps318;go_wp2_with (refine jaf 288 (.tmp 9) rfl rfl _ _ rfl hla ?_)
 go_loopw [3,4,11] (fun cv ov iv wr=>jpg ks W cv ov iv wr) (fun _ _ iv _=>16 - (intOf iv).toNat)
 case atStart=>exact⟨0,0,0,by omega,rfl,rfl,rfl,rfl,rfl,rfl⟩
 case round =>
  obtain⟨k,c,o,hk,rfl,rfl,rfl,rfl,hc,ho⟩:=hrel
  by_cases hlt:k < 16
  ·have hix:=jex vk hlt
   have hst:=jeS ks k;have hcl:c<=16:=by rw[hc];exact Nat.le_trans (List.length_filter_le _ _) (by rw[List.length_range];omega)
   have HCO:=Hd (And.intro hc ho);rcases (H.o.kid k hlt).1.kid with⟨hn,hv⟩ |⟨hn,T,x,hv⟩
   ·rw[hn,if_pos rfl,List.append_nil]at hst
    rw[hv]at hix;have HST:=Hd hst;clear hst hc ho hn hv;go_wp2;go_roundw
    case rel=>exact⟨k+1,c,o,by omega,by go_num,rfl,rfl,rfl,by rw[HST.o];exact HCO.o.1,by rw[HST.o];exact HCO.o.2⟩
    case measure=>simp[intOf];omega
   ·rw[hn,if_neg ff]at hst
    rw[hv]at hix;have hq:=jdh T x;have HST:=Hd hst;clear hst hc ho hn hv;go_wp2;go_roundw
    case rel=>exact⟨k+1,c+1,k,by omega,by go_num,by go_num,rfl,rfl,by rw[HST.o,List.length_append, <-HCO.o.1];rfl,by rw[HST.o];simp⟩
    case measure=>simp[intOf];omega
  ·obtain rfl:k=16:=by omega
   have HCO:=Hd (And.intro hc ho);clear hc ho;have hc0:c=0:=by rw[HCO.o.1];show (idxK ks).length=0;rw[HI.o];rfl
   subst hc0;go_wp2_with fail
   go_ret;exact PaTo.mk1 rfl (jae.refl _ _)
theorem joH(wr:World)(D:Nat->Prop)(v:vB)(ks:Nat->PA)(b:Nat)(h:PaO (.br v ks) (brV b) D wr)(hi:idxK ks=[])(hv:v.size≠0) :
  vQ 318 #[.pointer (some ⟨b,0,none⟩)] wr (PaTo D wr (.leaf ⟨#[]⟩ v)):=by
 obtain⟨vk,Dk,hb⟩:=h.br
 have hla:=jbc hb.blk;have q0:=hb.blk.cellL (i:=0) (v:=.string v) vF;have H:=Hd hb;have hem:(⟨#[]⟩:vB).toList.isEmpty=true:=by rw[ByteArray.toList_eq];rfl
 have hve:=jcT hv;clear hv
 obtain⟨W,hW⟩:=vE wr
 have HI:=Hd hi;rw[<-hW]at hla q0 H ⊢;clear h hb hi hW;go_enter Tryz.func318,Tryz.ntmps318;go_wp2_with (refine jaf 288 (.tmp 9) rfl rfl _ _ rfl hla ?_)
 go_loopw [3,4,11] (fun cv ov iv wr=>jpg ks W cv ov iv wr) (fun _ _ iv _=>16 - (intOf iv).toNat)
 case atStart=>exact⟨0,0,0,by omega,rfl,rfl,rfl,rfl,rfl,rfl⟩
 case round =>
  obtain⟨k,c,o,hk,rfl,rfl,rfl,rfl,hc,ho⟩:=hrel
  by_cases hlt:k < 16
  ·have hix:=jex vk hlt
   have hst:=jeS ks k;have hcl:c<=16:=by rw[hc];exact Nat.le_trans (List.length_filter_le _ _) (by rw[List.length_range];omega)
   have HCO:=Hd (And.intro hc ho);rcases (H.o.kid k hlt).1.kid with⟨hn,hv⟩ |⟨hn,T,x,hv⟩
   ·rw[hn,if_pos rfl,List.append_nil]at hst
    rw[hv]at hix;have HST:=Hd hst;clear hst hc ho hn hv;go_wp2;go_roundw
    case rel=>exact⟨k+1,c,o,by omega,by go_num,rfl,rfl,rfl,by rw[HST.o];exact HCO.o.1,by rw[HST.o];exact HCO.o.2⟩
    case measure=>simp[intOf];omega
   ·rw[hn,if_neg ff]at hst
    rw[hv]at hix;have hq:=jdh T x;have HST:=Hd hst;clear hst hc ho hn hv;go_wp2;go_roundw
    case rel=>exact⟨k+1,c+1,k,by omega,by go_num,by go_num,rfl,rfl,by rw[HST.o,List.length_append, <-HCO.o.1];rfl,by rw[HST.o];simp⟩
    case measure=>simp[intOf];omega
  ·obtain rfl:k=16:=by omega
   have HCO:=Hd (And.intro hc ho);clear hc ho;have hc0:c=0:=by rw[HCO.o.1];show (idxK ks).length=0;rw[HI.o];rfl
   subst hc0;go_wp2_with fail
   go_ret;have hB:=Blk.new wr (.cells #[.string ⟨#[]⟩,.string v] 283);exact PaTo.mk1 ⟨_,rfl,.inr ⟨Nat.le_refl _,hB.lt⟩,hB⟩ (((ExtR wr).alloc _).mono (fun _ _ e=>e.elim))
theorem jms(wr:World)(D:Nat->Prop)(v:vB)(ks:Nat->PA)(b:Nat)(h:PaO (.br v ks) (brV b) D wr)(i:Nat)(hi:idxK ks=[i])(hv:v.size≠0) :
  vQ 318 #[.pointer (some ⟨b,0,none⟩)] wr (PaTo D wr (.br v ks)):=by
 obtain⟨vk,Dk,hb⟩:=h.br
 have hla:=jbc hb.blk;have q0:=hb.blk.cellL (i:=0) (v:=.string v) vF;have H:=Hd hb;have hem:(⟨#[]⟩:vB).toList.isEmpty=true:=by rw[ByteArray.toList_eq];rfl
 have hve:=jcT hv;clear hv
 obtain⟨W,hW⟩:=vE wr
 have HI:=Hd hi;rw[<-hW]at hla q0 H ⊢;clear h hb hi hW;go_enter Tryz.func318,Tryz.ntmps318;go_wp2_with (refine jaf 288 (.tmp 9) rfl rfl _ _ rfl hla ?_)
 go_loopw [3,4,11] (fun cv ov iv wr=>jpg ks W cv ov iv wr) (fun _ _ iv _=>16 - (intOf iv).toNat)
 case atStart=>exact⟨0,0,0,by omega,rfl,rfl,rfl,rfl,rfl,rfl⟩
 case round =>
  obtain⟨k,c,o,hk,rfl,rfl,rfl,rfl,hc,ho⟩:=hrel
  by_cases hlt:k < 16
  ·have hix:=jex vk hlt
   have hst:=jeS ks k;have hcl:c<=16:=by rw[hc];exact Nat.le_trans (List.length_filter_le _ _) (by rw[List.length_range];omega)
   have HCO:=Hd (And.intro hc ho);rcases (H.o.kid k hlt).1.kid with⟨hn,hv⟩ |⟨hn,T,x,hv⟩
   ·rw[hn,if_pos rfl,List.append_nil]at hst
    rw[hv]at hix;have HST:=Hd hst;clear hst hc ho hn hv;go_wp2;go_roundw
    case rel=>exact⟨k+1,c,o,by omega,by go_num,rfl,rfl,rfl,by rw[HST.o];exact HCO.o.1,by rw[HST.o];exact HCO.o.2⟩
    case measure=>simp[intOf];omega
   ·rw[hn,if_neg ff]at hst
    rw[hv]at hix;have hq:=jdh T x;have HST:=Hd hst;clear hst hc ho hn hv;go_wp2;go_roundw
    case rel=>exact⟨k+1,c+1,k,by omega,by go_num,by go_num,rfl,rfl,by rw[HST.o,List.length_append, <-HCO.o.1];rfl,by rw[HST.o];simp⟩
    case measure=>simp[intOf];omega
  ·obtain rfl:k=16:=by omega
   have HCO:=Hd (And.intro hc ho);clear hc ho;have hc0:c=1:=by rw[HCO.o.1];show (idxK ks).length=1;rw[HI.o];rfl
   subst hc0;go_wp2_with fail
   go_ret;exact PaTo.mk1 (H.o.pa.at'.mono (fun x hx=>.inl hx)) (jae.refl _ _)
theorem jmt(wr:World)(D:Nat->Prop)(v:vB)(ks:Nat->PA)(b:Nat)(h:PaO (.br v ks) (brV b) D wr)(hi:2<=(idxK ks).length) :
  vQ 318 #[.pointer (some ⟨b,0,none⟩)] wr (PaTo D wr (.br v ks)):=by
 obtain⟨vk,Dk,hb⟩:=h.br
 have hla:=jbc hb.blk;have q0:=hb.blk.cellL (i:=0) (v:=.string v) vF;have H:=Hd hb;have hem:(⟨#[]⟩:vB).toList.isEmpty=true:=by rw[ByteArray.toList_eq];rfl
 obtain⟨W,hW⟩:=vE wr
 have HI:=Hd hi;rw[<-hW]at hla q0 H ⊢;clear h hb hi hW;go_enter Tryz.func318,Tryz.ntmps318;go_wp2_with (refine jaf 288 (.tmp 9) rfl rfl _ _ rfl hla ?_)
 go_loopw [3,4,11] (fun cv ov iv wr=>jpg ks W cv ov iv wr) (fun _ _ iv _=>16 - (intOf iv).toNat)
 case atStart=>exact⟨0,0,0,by omega,rfl,rfl,rfl,rfl,rfl,rfl⟩
 case round =>
  obtain⟨k,c,o,hk,rfl,rfl,rfl,rfl,hc,ho⟩:=hrel
  by_cases hlt:k < 16
  ·have hix:=jex vk hlt
   have hst:=jeS ks k;have hcl:c<=16:=by rw[hc];exact Nat.le_trans (List.length_filter_le _ _) (by rw[List.length_range];omega)
   have HCO:=Hd (And.intro hc ho);rcases (H.o.kid k hlt).1.kid with⟨hn,hv⟩ |⟨hn,T,x,hv⟩
   ·rw[hn,if_pos rfl,List.append_nil]at hst
    rw[hv]at hix;have HST:=Hd hst;clear hst hc ho hn hv;go_wp2;go_roundw
    case rel=>exact⟨k+1,c,o,by omega,by go_num,rfl,rfl,rfl,by rw[HST.o];exact HCO.o.1,by rw[HST.o];exact HCO.o.2⟩
    case measure=>simp[intOf];omega
   ·rw[hn,if_neg ff]at hst
    rw[hv]at hix;have hq:=jdh T x;have HST:=Hd hst;clear hst hc ho hn hv;go_wp2;go_roundw
    case rel=>exact⟨k+1,c+1,k,by omega,by go_num,by go_num,rfl,rfl,by rw[HST.o,List.length_append, <-HCO.o.1];rfl,by rw[HST.o];simp⟩
    case measure=>simp[intOf];omega
  ·obtain rfl:k=16:=by omega
   have HCO:=Hd (And.intro hc ho);clear hc ho;have hc2:2<=c:=by rw[HCO.o.1];exact HI.o
   have g0:((c:Int) == 0)=false:=by simp;omega
   have g1:((c:Int) == 1)=false:=by simp;omega
   clear hc2;go_wp2_with fail
   go_ret;exact PaTo.mk1 (H.o.pa.at'.mono (fun x hx=>.inl hx)) (jae.refl _ _)
theorem jqw(wr:World)(D:Nat->Prop)(v:vB)(ks:Nat->PA)(b:Nat)(h:PaO (.br v ks) (brV b) D wr)(i:Nat)(hi:idxK ks=[i])(hv:v.size=0)(hd:Dp (.br v ks) 900000) :
  vQ 318 #[.pointer (some ⟨b,0,none⟩)] wr (PaTo D wr (jb8 (nib1 i) (ks i))):=by
 obtain⟨vk,Dk,hb⟩:=h.br
 have hla:=jbc hb.blk;have q0:=hb.blk.cellL (i:=0) (v:=.string v) vF;have H:=Hd hb;have hem:(⟨#[]⟩:vB).toList.isEmpty=true:=by rw[ByteArray.toList_eq];rfl
 have hve:=jbh hv;subst hve;have HDD:=Hd hd;clear hv hd
 obtain⟨W,hW⟩:=vE wr
 have HI:=Hd hi;rw[<-hW]at hla q0 H ⊢;clear h hb hi hW;go_enter Tryz.func318,Tryz.ntmps318;go_wp2_with (refine jaf 288 (.tmp 9) rfl rfl _ _ rfl hla ?_)
 go_loopw [3,4,11] (fun cv ov iv wr=>jpg ks W cv ov iv wr) (fun _ _ iv _=>16 - (intOf iv).toNat)
 case atStart=>exact⟨0,0,0,by omega,rfl,rfl,rfl,rfl,rfl,rfl⟩
 case round =>
  obtain⟨k,c,o,hk,rfl,rfl,rfl,rfl,hc,ho⟩:=hrel
  by_cases hlt:k < 16
  ·have hix:=jex vk hlt
   have hst:=jeS ks k;have hcl:c<=16:=by rw[hc];exact Nat.le_trans (List.length_filter_le _ _) (by rw[List.length_range];omega)
   have HCO:=Hd (And.intro hc ho);rcases (H.o.kid k hlt).1.kid with⟨hn,hv⟩ |⟨hn,T,x,hv⟩
   ·rw[hn,if_pos rfl,List.append_nil]at hst
    rw[hv]at hix;have HST:=Hd hst;clear hst hc ho hn hv;go_wp2;go_roundw
    case rel=>exact⟨k+1,c,o,by omega,by go_num,rfl,rfl,rfl,by rw[HST.o];exact HCO.o.1,by rw[HST.o];exact HCO.o.2⟩
    case measure=>simp[intOf];omega
   ·rw[hn,if_neg ff]at hst
    rw[hv]at hix;have hq:=jdh T x;have HST:=Hd hst;clear hst hc ho hn hv;go_wp2;go_roundw
    case rel=>exact⟨k+1,c+1,k,by omega,by go_num,by go_num,rfl,rfl,by rw[HST.o,List.length_append, <-HCO.o.1];rfl,by rw[HST.o];simp⟩
    case measure=>simp[intOf];omega
  ·obtain rfl:k=16:=by omega
   have HCO:=Hd (And.intro hc ho);clear hc ho;have hc0:c=1:=by rw[HCO.o.1];show (idxK ks).length=1;rw[HI.o];rfl
   have ho0:o=i:=by rw[HCO.o.2];show (idxK ks).getLast?.getD 0=i;rw[HI.o];rfl
   subst hc0;have him:i∈idxK ks:=by rw[HI.o];exact List.mem_cons_self
   have hi16:i < 16:=List.mem_range.1 (List.mem_filter.1 him).1;have hnn:(ks i).isNil=false:=by have:=(List.mem_filter.1 him).2;simpa using this
   rw[<-ho0]at him hi16 hnn;have HOI:=Hd ho0;have hkid:=H.o.kid o hi16
   obtain⟨T,x,hvk⟩:=hkid.1.form hnn
   have qk:=H.o.blk.cellL (jem ⟨#[]⟩ vk hi16);rw[hvk]at qk;have QK:=Hd qk;have HKI:=Hd (show PaAt (ks o) (.iface T x) (Dk o) wr/\(∀ z,Dk o z->z < wr.heap.size)/\(ks o).isNil=false/\Dp (ks o) 1000000 from⟨by rw[<-hvk];exact hkid.1,fun z hz=>H.o.lt z (hkid.2.2 z hz),hnn,jb6 _ _ _ (HDD.o o hnn).2 vO⟩);have HDS:=Hd hkid.2.2;have ho16:o < 16:=hi16;have c1:(o:Int) < 16:=by omega
   have c2:(o:Int) < 256:=by omega
   clear him hi16 hnn hkid hvk qk ho0 hla;go_wp2_with fail
   refine jai [0,1,4,5,6,7,8,9,2,3,10,11] (Ext) ExtR ExtT vY vY vY ?_;iterate 4 refine vK ?_
   refine jcg _ ((.pointer (some ⟨b,0,none⟩))) rfl vY rfl (fun w1 _=>by kernel_rfl) ?_;refine vS ?_;iterate 2 refine vK ?_
   refine qKL ⟨b,1+o,none⟩ _ rfl (fun w1 h1=>jaz (fun w=>by kernel_rfl) (jaa (jaa QK.o (jaj _)) h1)) ?_;refine vS ?_;refine jd6 _ rfl vY rfl (fun w2 he K hK=>?_);have HX2:=Hd (show Ext wr w2 from(jaj _).trans he);clear he;go_simp;refine hK _ _ ((jae.refl _ w2).alloc _) ?_;clear hK K;refine jcg _ (.string (nib1 o)) rfl vY rfl (fun w3 h3=>jjw vY h3 (fun e=>e) ho16) ?_;refine vS ?_;refine jd6 _ rfl vY rfl (fun wc hc K hK=>?_);have kc:Ext wr wc:=(HX2.o.alloc _).trans hc;refine jbv (jay (vX 310) vY) ((pj_c wc (Dk o) (nib1 o) (ks o) (.iface T x) ⟨HKI.o.1.keeps kc _ _ _ (fun _ _ e=>e),fun z hz=>Nat.lt_of_lt_of_le (HKI.o.2.1 z hz) kc.size⟩ HKI.o.2.2.1 (by show 1<=_;omega) HKI.o.2.2.2).mono ?_);rintro e w5 ⟨v5,rfl,hP5,hE5⟩
   refine⟨v5,rfl,hK _ _ hE5 ?_⟩
   have HZ:=Hd (And.intro kc (And.intro hP5 hE5));clear hK K hc kc hP5 hE5;refine vS ?_
   refine vK ?_
   refine qKE (fun wd hd=>?_);have HQ:=Hd hd;clear hd;go_wp2_with fail
   go_ret
   obtain⟨kc,hP5,hE5⟩:=HZ.o
   have hd:=HQ.o;rw[<-HOI.o];refine PaTo.mk1 ((hP5.keeps hd _ _ _ (fun _ _ e=>e)).mono (fun z hz=>?_)) (((kc.trans hE5).trans hd).mono (fun _ _ e=>e.elim));rcases hz with hz | hz
   ·exact .inl (HDS.o z hz)
   ·exact .inr ⟨Nat.le_trans kc.size hz.1,Nat.lt_of_lt_of_le hz.2 hd.size⟩
theorem jmr(W:World)(D:Nat->Prop)(v:vB)(ks:Nat->PA)(b:Nat)(h:PaO (.br v ks) (brV b) D W)(hd:Dp (.br v ks) 900000) :
  vQ 318 #[.pointer (some ⟨b,0,none⟩)] W (PaTo D W (jdd v ks)):=by
 unfold jdd;cases hi:idxK ks with
 | nil =>
  show Calls _ _ _ W (PaTo D W (if v.size=0 then PA.no else .leaf ⟨#[]⟩ v))
  by_cases h0:v.size=0
  ·rw[if_pos h0];exact joI W D v ks b h hi h0
  ·rw[if_neg h0];exact joH W D v ks b h hi h0
 | cons i r =>
  cases r with
  | nil =>
   show Calls _ _ _ W (PaTo D W (if v.size=0 then jb8 ⟨#[UInt8.ofNat i]⟩ (ks i)else .br v ks))
   by_cases h0:v.size=0
   ·rw[if_pos h0];exact jqw W D v ks b h i hi h0 hd
   ·rw[if_neg h0];exact jms W D v ks b h i hi h0
  | cons j r=>exact jmt W D v ks b h (by rw[hi];simp)
theorem jpz(W:World)(D:Nat->Prop)(v:vB)(ks:Nat->PA)(b:Nat)(h:PaO (.br v ks) (brV b) D W)(hd:Dp (.br v ks) 900000):vQ 315 #[.pointer (some ⟨b,0,none⟩),.string ⟨#[]⟩] W (PaTo D W (jdd ⟨#[]⟩ ks)):=by
 obtain⟨vk,Dk,hb⟩:=h.br
 have q0:=hb.blk.cellL (i:=0) (v:=.string v) vF;have f0:W.frozen? ⟨b,0,none⟩=false:=hb.blk.frozen;have H:=Hd hb;have HD:Hid (Dp (.br ⟨#[]⟩ ks) 900000):=hd;have hem:(⟨#[]⟩:vB).toList.isEmpty=true:=by rw[ByteArray.toList_eq];rfl
 clear h hb hd;go_enter Tryz.func315,Tryz.ntmps315;go_wp2_with fail
 obtain⟨W1,hW1⟩:=vE (W.setCell ⟨b,0,none⟩ (.string ⟨#[]⟩))
 have hk1:jae D W W1:=by rw[hW1];exact (jae.oneSet W ⟨b,0,none⟩ (.string ⟨#[]⟩)).mono (fun x _ e=>by have e:x=b:=e;rw[e];exact H.o.mem)
 have hb1:=H.o.val ⟨#[]⟩;rw[<-hW1]at hb1 ⊢;have HB:=Hd (And.intro hb1 hk1);clear hb1 hk1 hW1;refine (jmr W1 D ⟨#[]⟩ ks b HB.o.1.pa HD.o).mono ?_;rintro e w2 ⟨v2,rfl,hP2,hk2⟩;have HZ:=Hd (And.intro hP2 hk2);clear hP2 hk2;go_wp2_with fail
 go_ret
 obtain⟨hP2,hk2⟩:=HZ.o
 exact PaTo.mk1 (hP2.mono (fun x hx=>hx.imp id (fun e=>⟨Nat.le_trans HB.o.2.size e.1,e.2⟩))) (HB.o.2.trans hk2)
theorem jsn(W:World)(D:Nat->Prop)(v:vB)(ks:Nat->PA)(b:Nat)(h:PaO (.br v ks) (brV b) D W)(p:vB)(h0:p.size≠0)(hp:jat p=true)(hs:p.size<=900000)(hn:(ks (jaq p)).isNil=true):vQ 315 #[.pointer (some ⟨b,0,none⟩),.string p] W (PaTo D W (.br v ks)):=by
 obtain⟨vk,Dk,hb⟩:=h.br
 obtain⟨y,t,hy⟩:=jcc h0
 obtain⟨e1,e2⟩:=jbw hy
 have hi16:=jdx hp h0
 obtain⟨g0,hg0⟩:=jcw hy
 have hne:=jcT h0;have hval:=jcj hp;have hrs:(jbm p).size<=900000:=by unfold jbm;rw[jaR];omega
 have hI:jaq p=(p[0]'g0).toNat:=by rw[e1,hg0]
 have hkid:=hb.kid (jaq p) hi16;have hvk:vk (jaq p)=.nilIface:=by have:=hkid.1;rw[jbo hn]at this;exact this
 have q1:=hb.blk.cellL (jem v vk hi16);rw[hvk]at q1;have HB:=Hd hb;have HHI:=Hd hI;have HI16:=Hd hi16;have c1:(0:Int) < (p.size:Int):=by omega
 have c2:((p[0]'g0).toNat:Int) < 16:=by omega
 have c3:(1:Int)<=(p.size:Int):=by omega
 rw[hI]at q1;have hq:=jxg;clear h hvk hy e1 e2 h0 hp hn hg0 hval hrs hi16 hI hb hkid;go_enter Tryz.func315,Tryz.ntmps315;go_wp2_with fail
 go_ret;exact PaTo.mk1 (HB.o.pa.at'.mono (fun x hx=>.inl hx)) (jae.refl _ _)
theorem jre{P:PA}{T:TypeId}{x:Value}{D:Nat->Prop}{W:World}(h:PaAt P (.iface T x) D W)(hn:P.isNo=false)(w:World):(Instr.typeAssert (.iface T x) 100 292 true).run Tryz.prog w=.ok (.tuple #[.agg #[],.bool false]) w:=by
 cases P with
 | nil=>cases h
 | no=>cases hn
 | leaf q u=>obtain⟨b,h,_⟩:=h;unfold jiw at h;injection h with h1 h2;subst h1 h2;kernel_rfl
 | ext q n=>obtain⟨b,_,_,_,h,_⟩:=h;unfold extV at h;injection h with h1 h2;subst h1 h2;kernel_rfl
 | br u ks=>obtain⟨b,_,_,h,_⟩:=h;unfold brV at h;injection h with h1 h2;subst h1 h2;kernel_rfl
theorem jpy(W:World)(D:Nat->Prop)(v:vB)(ks:Nat->PA)(b:Nat)(h:PaO (.br v ks) (brV b) D W)(p:vB)(h0:p.size≠0)(hp:jat p=true)(hs:p.size<=900000)(hn:(ks (jaq p)).isNil=false)(hd:Dp (.br v ks) 900000)(hk:jr8 (ks (jaq p)))(hno:(jbL (ks (jaq p)) (jbm p)).isNo=false) :
  vQ 315 #[.pointer (some ⟨b,0,none⟩),.string p] W (PaTo D W (jdd v (setK ks (jaq p) (jbL (ks (jaq p)) (jbm p))))):=by
 obtain⟨vk,Dk,hb⟩:=h.br
 obtain⟨y,t,hy⟩:=jcc h0
 obtain⟨e1,e2⟩:=jbw hy
 have hi16:=jdx hp h0
 obtain⟨g0,hg0⟩:=jcw hy
 have hne:=jcT h0;have hval:=jcj hp;have hrs:(jbm p).size<=900000:=by unfold jbm;rw[jaR];omega
 have hI:jaq p=(p[0]'g0).toNat:=by rw[e1,hg0]
 have hkid:=hb.kid (jaq p) hi16
 obtain⟨T,x,hvk⟩:=hkid.1.form hn
 have q1:=hb.blk.cellL (jem v vk hi16);rw[hvk]at q1;have Q1:=Hd q1;have HB:=Hd hb;have HM:=Hd ((show PaAt (ks (jaq p)) (.iface T x) (Dk (jaq p)) W by rw[<-hvk];exact hkid.1).meth);have hd1:=hd (jaq p) hn;have CALLEE:=Hd (show ∀ wb,Ext W wb->vQ (jeV (ks (jaq p))) #[x,.string (jbm p)] wb (PaTo (Dk (jaq p)) wb (jbL (ks (jaq p)) (jbm p)))from fun wb e=>hk wb T x _ _ ⟨(show PaAt (ks (jaq p)) (.iface T x) (Dk (jaq p)) W by rw[<-hvk];exact hkid.1).keeps e _ _ _ (fun _ _ e=>e),fun z hz=>Nat.lt_of_lt_of_le (hb.lt z (hkid.2.2 z hz)) e.size⟩ hrs hval (jb6 _ _ _ hd1.2 vO));have HDL:Hid (Dp (.br v (setK ks (jaq p) (jbL (ks (jaq p)) (jbm p)))) 900000):=jhC hd hd1.1 (jhB _ _ _ hd1.2) v;have HNF:=Hd (show ¬(Dk (jaq p) b\/W.heap.size<=b)from fun e=>e.elim (hb.kid _ hi16).2.1 (fun e=>by have:=hb.lt b hb.mem;omega));have hQ:=jmg T x;have HHI:=Hd hI;have HI16:=Hd hi16;have c1:(0:Int) < (p.size:Int):=by omega
 have c2:((p[0]'g0).toNat:Int) < 16:=by omega
 have c3:(1:Int)<=(p.size:Int):=by omega
 rw[hI]at q1;have HNO:=Hd hno;clear h hvk hy e1 e2 h0 hp hn hg0 hval hrs hi16 hI hb hkid hd hd1 hk hno;go_enter Tryz.func315,Tryz.ntmps315;go_wp2_with fail
 refine jc2 [0,1,2,3,4,5,6,7,8,9,10,11,13,14,12,15] 16 [12] Ext (jae (fun z=>Dk (jaq p) z\/W.heap.size<=z)) ExtR ExtT (fun x y z h k=>jae.trans h k) (fun x y h=>h.mono (fun _ _ h=>h.elim)) vY vY vY ?_;iterate 4 refine vZ ?_
 refine jcx _ ((.pointer (some ⟨b,0,none⟩))) rfl vY rfl (fun w1=>by kernel_rfl) ?_;refine vS ?_;iterate 2 refine vZ ?_
 refine jf5 ⟨b,1+(p[0]'g0).toNat,none⟩ _ rfl vY vY rfl rfl (fun w1 h1=>jaz (fun w=>by kernel_rfl) (by rw[<-HHI.o];exact jaw Q1.o (((jae.refl (fun z=>Dk (jaq p) z\/W.heap.size<=z) W).drew).trans h1) (by exact HNF.o))) ?_;refine vS ?_;iterate 2 refine vZ ?_
 refine jcx _ (.iface T x) rfl vY rfl (fun w1=>by kernel_rfl) ?_;refine vS ?_
 refine vZ ?_
 refine jcx _ ((.pointer (some ⟨b,0,none⟩))) rfl vY rfl (fun w1=>by kernel_rfl) ?_;refine vS ?_
 refine vZ ?_
 refine jf3 _ rfl vY rfl (fun wb hb K hK=>?_);have kb:Ext W wb:=(jaj _).trans hb;refine jbv (jcz (f:=jeV (ks (jaq p))) (vs:=#[.string (jbm p)]) rfl (HM.o.drop _) (jfc _) vY) ?_;refine (CALLEE.o wb kb).mono ?_;rintro e w2 ⟨v2,rfl,hP2,hk2⟩
 refine⟨v2,rfl,hK _ _ (hk2.mono (fun z _ hz=>.inl hz)) ?_⟩
 have HS:=Hd (And.intro kb (And.intro hP2 hk2));clear hK K hb kb hP2 hk2;refine vS ?_
 refine vZ ?_
 refine jf4 _ rfl vY rfl (fun wc hc K hK=>?_)
 obtain⟨hb,hP2,hk2⟩:=HS.o
 have hb2:=HB.o.keeps (F:=fun _=>False) (hb) (fun _ _ e=>e);have kc:jae (Dk (jaq p)) wb wc:=hk2.trans (hc.mono (fun _ _ e=>e.elim));have hPc:PaAt (jbL (ks (jaq p)) (jbm p)) v2 (Grow (Dk (jaq p)) wb wc) wc:=(hP2.keeps hc _ _ _ (fun _ _ e=>e)).mono (fun z hz=>hz.imp id (fun e=>⟨e.1,Nat.lt_of_lt_of_le e.2 hc.size⟩))
 obtain⟨T2,x2,rfl⟩:=hPc.form (jfb _ _)
 have ht:=hb2.turn HI16.o kc hPc;have htk:=hb2.turn_keeps HI16.o kc (.iface T2 x2)
 obtain⟨old,q7⟩:∃ v,wc.cell? ⟨b,1+jaq p,none⟩=some v:=⟨_,(hb2.blk.keeps kc (hb2.kid _ HI16.o).2.1).cellL (List.getElem?_eq_getElem (by rw[jgo];have:=HI16.o;omega))⟩
 have f7:wc.frozen? ⟨b,1+jaq p,none⟩=false:=(hb2.blk.keeps kc (hb2.kid _ HI16.o).2.1).frozen
 obtain⟨W3,hW3⟩:=vE (wc.setCell ⟨b,1+jaq p,none⟩ (.iface T2 x2))
 rw[<-hW3]at ht htk
 obtain⟨vk3,hvk3⟩:=vE (setV vk (jaq p) (.iface T2 x2))
 obtain⟨Dk3,hDk3⟩:=vE (fun j=>if j=jaq p then Grow (Dk (jaq p)) wb wc else Dk j)
 rw[<-hvk3, <-hDk3]at ht;have hq3:W3.cell? ⟨b,1+jaq p,none⟩=some (.iface T2 x2):=by
  have:=ht.blk.cellL (jem v vk3 HI16.o)
  rw[this,hvk3];show some (setV vk (jaq p) (.iface T2 x2) (jaq p))=_;unfold setV;rw[if_pos rfl]
 have HT:=Hd (And.intro ht (And.intro htk (And.intro hb (show W3.heap.size=wc.heap.size by rw[hW3];exact World.size_setCell _ _ _))));have HPF:=Hd hPc;rw[HHI.o]at q7 f7 hW3 hq3;clear hb hP2 hk2 hb2 kc hPc ht htk hc;go_simp;rw[<-hW3];refine hK _ _ ?_;clear hK K q7 f7 hW3 hvk3 hDk3;have hta:∀ w,(Instr.typeAssert (.iface T2 x2) 100 292 true).run Tryz.prog w=.ok (.tuple #[.agg #[],.bool false]) w:=jre HPF.o HNO.o;go_wp2_with fail
 obtain⟨W4,hW4⟩:=vE (W3.alloc (.cells #[] 292))
 have hE4:Ext W3 W4:=by rw[hW4];exact (ExtR W3).alloc _
 rw[<-hW4];have HB4:=Hd (And.intro (HT.o.1.keeps hE4 (fun _ _ e=>e)) hE4);clear hE4 hW4;refine (jmr W4 _ v _ b HB4.o.1.pa HDL.o).mono ?_;rintro e w6 ⟨v6,rfl,hP6,hk6⟩;have HZ:=Hd (And.intro hP6 (And.intro hk6 (jer HB4.o.1.lt hk6)));clear hP6 hk6;go_wp2_with fail
 go_ret
 obtain⟨hP6,hk6,hl6⟩:=HZ.o
 obtain⟨ht,htk,hb,hs3⟩:=HT.o
 obtain⟨_,hE4⟩:=HB4.o
 have hsz:W.heap.size<=W3.heap.size:=by have:=hb.size;have:=htk.size;omega
 have hsz4:=hE4.size;have g1:∀ z,Grow D wb wc z->D z\/W.heap.size<=z:=fun z hz=>hz.imp id (fun e=>Nat.le_trans hb.size e.1);refine PaTo.mk1 (hP6.mono (fun z hz=>?_)) ?_
 ·have hl:=hl6 z hz
  rcases hz with hz | hz
  ·exact (g1 z hz).imp id (fun e=>⟨e,hl⟩)
  ·exact .inr ⟨by have:=hz.1;omega,hl⟩
 ·have k1:jae D W W3:=(hb.mono (fun _ _ e=>e.elim):jae D W wb).trans htk
  have k2:jae D W W4:=k1.trans (hE4.mono (fun _ _ e=>e.elim));exact k2.trans' hk6 (fun z hz e=>(g1 z e).elim id (fun e=>by omega))
theorem jod(W:World)(D:Nat->Prop)(v:vB)(ks:Nat->PA)(b:Nat)(h:PaO (.br v ks) (brV b) D W)(p:vB)(h0:p.size≠0)(hp:jat p=true)(hs:p.size<=900000)(hn:(ks (jaq p)).isNil=false)(hd:Dp (.br v ks) 900000)(hk:jr8 (ks (jaq p)))(hno:(jbL (ks (jaq p)) (jbm p)).isNo=true) :
  vQ 315 #[.pointer (some ⟨b,0,none⟩),.string p] W (PaTo D W (jdd v (setK ks (jaq p) .nil))):=by
 obtain⟨vk,Dk,hb⟩:=h.br
 obtain⟨y,t,hy⟩:=jcc h0
 obtain⟨e1,e2⟩:=jbw hy
 have hi16:=jdx hp h0
 obtain⟨g0,hg0⟩:=jcw hy
 have hne:=jcT h0;have hval:=jcj hp;have hrs:(jbm p).size<=900000:=by unfold jbm;rw[jaR];omega
 have hI:jaq p=(p[0]'g0).toNat:=by rw[e1,hg0]
 have hkid:=hb.kid (jaq p) hi16
 obtain⟨T,x,hvk⟩:=hkid.1.form hn
 have q1:=hb.blk.cellL (jem v vk hi16);rw[hvk]at q1;have Q1:=Hd q1;have HB:=Hd hb;have HM:=Hd ((show PaAt (ks (jaq p)) (.iface T x) (Dk (jaq p)) W by rw[<-hvk];exact hkid.1).meth);have hd1:=hd (jaq p) hn;have CALLEE:=Hd (show ∀ wb,Ext W wb->vQ (jeV (ks (jaq p))) #[x,.string (jbm p)] wb (PaTo (Dk (jaq p)) wb (jbL (ks (jaq p)) (jbm p)))from fun wb e=>hk wb T x _ _ ⟨(show PaAt (ks (jaq p)) (.iface T x) (Dk (jaq p)) W by rw[<-hvk];exact hkid.1).keeps e _ _ _ (fun _ _ e=>e),fun z hz=>Nat.lt_of_lt_of_le (hb.lt z (hkid.2.2 z hz)) e.size⟩ hrs hval (jb6 _ _ _ hd1.2 vO));have HDL:Hid (Dp (.br v (setK ks (jaq p) .nil)) 900000):=jhC hd hd1.1 ((show Dp PA.nil (900000 - 1)from trivial)) v;have HNF:=Hd (show ¬(Dk (jaq p) b\/W.heap.size<=b)from fun e=>e.elim (hb.kid _ hi16).2.1 (fun e=>by have:=hb.lt b hb.mem;omega));have hQ:=jmg T x;have HHI:=Hd hI;have HI16:=Hd hi16;have c1:(0:Int) < (p.size:Int):=by omega
 have c2:((p[0]'g0).toNat:Int) < 16:=by omega
 have c3:(1:Int)<=(p.size:Int):=by omega
 rw[hI]at q1;have HNO:=Hd hno;clear h hvk hy e1 e2 h0 hp hn hg0 hval hrs hi16 hI hb hkid hd hd1 hk hno;go_enter Tryz.func315,Tryz.ntmps315;go_wp2_with fail
 refine jc2 [0,1,2,3,4,5,6,7,8,9,10,11,13,14,12,15] 16 [12] Ext (jae (fun z=>Dk (jaq p) z\/W.heap.size<=z)) ExtR ExtT (fun x y z h k=>jae.trans h k) (fun x y h=>h.mono (fun _ _ h=>h.elim)) vY vY vY ?_;iterate 4 refine vZ ?_
 refine jcx _ ((.pointer (some ⟨b,0,none⟩))) rfl vY rfl (fun w1=>by kernel_rfl) ?_;refine vS ?_;iterate 2 refine vZ ?_
 refine jf5 ⟨b,1+(p[0]'g0).toNat,none⟩ _ rfl vY vY rfl rfl (fun w1 h1=>jaz (fun w=>by kernel_rfl) (by rw[<-HHI.o];exact jaw Q1.o (((jae.refl (fun z=>Dk (jaq p) z\/W.heap.size<=z) W).drew).trans h1) (by exact HNF.o))) ?_;refine vS ?_;iterate 2 refine vZ ?_
 refine jcx _ (.iface T x) rfl vY rfl (fun w1=>by kernel_rfl) ?_;refine vS ?_
 refine vZ ?_
 refine jcx _ ((.pointer (some ⟨b,0,none⟩))) rfl vY rfl (fun w1=>by kernel_rfl) ?_;refine vS ?_
 refine vZ ?_
 refine jf3 _ rfl vY rfl (fun wb hb K hK=>?_);have kb:Ext W wb:=(jaj _).trans hb;refine jbv (jcz (f:=jeV (ks (jaq p))) (vs:=#[.string (jbm p)]) rfl (HM.o.drop _) (jfc _) vY) ?_;refine (CALLEE.o wb kb).mono ?_;rintro e w2 ⟨v2,rfl,hP2,hk2⟩
 refine⟨v2,rfl,hK _ _ (hk2.mono (fun z _ hz=>.inl hz)) ?_⟩
 have HS:=Hd (And.intro kb (And.intro hP2 hk2));clear hK K hb kb hP2 hk2;refine vS ?_
 refine vZ ?_
 refine jf4 _ rfl vY rfl (fun wc hc K hK=>?_)
 obtain⟨hb,hP2,hk2⟩:=HS.o
 have hb2:=HB.o.keeps (F:=fun _=>False) (hb) (fun _ _ e=>e);have kc:jae (Dk (jaq p)) wb wc:=hk2.trans (hc.mono (fun _ _ e=>e.elim));have hPc:PaAt (jbL (ks (jaq p)) (jbm p)) v2 (Grow (Dk (jaq p)) wb wc) wc:=(hP2.keeps hc _ _ _ (fun _ _ e=>e)).mono (fun z hz=>hz.imp id (fun e=>⟨e.1,Nat.lt_of_lt_of_le e.2 hc.size⟩))
 obtain⟨T2,x2,rfl⟩:=hPc.form (jfb _ _)
 have ht:=hb2.turn HI16.o kc hPc;have htk:=hb2.turn_keeps HI16.o kc (.iface T2 x2)
 obtain⟨old,q7⟩:∃ v,wc.cell? ⟨b,1+jaq p,none⟩=some v:=⟨_,(hb2.blk.keeps kc (hb2.kid _ HI16.o).2.1).cellL (List.getElem?_eq_getElem (by rw[jgo];have:=HI16.o;omega))⟩
 have f7:wc.frozen? ⟨b,1+jaq p,none⟩=false:=(hb2.blk.keeps kc (hb2.kid _ HI16.o).2.1).frozen
 obtain⟨W3,hW3⟩:=vE (wc.setCell ⟨b,1+jaq p,none⟩ (.iface T2 x2))
 rw[<-hW3]at ht htk
 obtain⟨vk3,hvk3⟩:=vE (setV vk (jaq p) (.iface T2 x2))
 obtain⟨Dk3,hDk3⟩:=vE (fun j=>if j=jaq p then Grow (Dk (jaq p)) wb wc else Dk j)
 rw[<-hvk3, <-hDk3]at ht;have hq3:W3.cell? ⟨b,1+jaq p,none⟩=some (.iface T2 x2):=by
  have:=ht.blk.cellL (jem v vk3 HI16.o)
  rw[this,hvk3];show some (setV vk (jaq p) (.iface T2 x2) (jaq p))=_;unfold setV;rw[if_pos rfl]
 have HT:=Hd (And.intro ht (And.intro htk (And.intro hb (show W3.heap.size=wc.heap.size by rw[hW3];exact World.size_setCell _ _ _))));have HPF:=Hd hPc;rw[HHI.o]at q7 f7 hW3 hq3;clear hb hP2 hk2 hb2 kc hPc ht htk hc;go_simp;rw[<-hW3];refine hK _ _ ?_;clear hK K q7 f7 hW3 hvk3 hDk3;have hnv:Value.iface T2 x2=noV:=by have:=HPF.o;rw[jqs HNO.o]at this;exact this
 unfold noV at hnv;injection hnv with hn1 hn2;subst hn1 hn2;have hta:∀ w,(Instr.typeAssert (.iface 292 (.agg #[])) 100 292 true).run Tryz.prog w=.ok (.tuple #[.agg #[],.bool true]) w:=fun w=>by kernel_rfl
 have q4:(W3.alloc (.cells #[] 292)).cell? ⟨b,1+(p[0]'g0).toNat,none⟩=some (.iface 292 (.agg #[])):=jaa hq3 ((ExtR W3).alloc _);have f4:(W3.alloc (.cells #[] 292)).frozen? ⟨b,1+(p[0]'g0).toNat,none⟩=false:=(HT.o.1.blk.alloc _).frozen;clear q4;have q4:=jaa hq3 ((ExtR W3).alloc (.cells #[] 292));go_wp2_with fail
 obtain⟨W4,hW4⟩:=vE (W3.alloc (.cells #[] 292))
 have hE4:Ext W3 W4:=by rw[hW4];exact (ExtR W3).alloc _
 rw[<-hW4]at q4 f4 ⊢;have hb4:=HT.o.1.keeps hE4 (fun _ _ e=>e);have hb5:=hb4.turn HI16.o (P:=.nil) (v:=.nilIface) (jae.refl _ W4) rfl;have hk5:=hb4.turn_keeps HI16.o (jae.refl _ W4) .nilIface
 obtain⟨W5,hW5⟩:=vE (W4.setCell ⟨b,1+jaq p,none⟩ .nilIface)
 rw[<-hW5]at hb5 hk5;rw[HHI.o]at hW5;rw[<-hW5];have hks:setK (setK ks (jaq p) (jbL (ks (jaq p)) (jbm p))) (jaq p) .nil=setK ks (jaq p) .nil:=by
  funext j
  unfold setK
  by_cases e:j=jaq p
  ·rw[if_pos e,if_pos e]
  ·rw[if_neg e,if_neg e,if_neg e]
 rw[hks]at hb5;have hsz5:W4.heap.size<=W5.heap.size:=hk5.size;have HB5:=Hd (And.intro hb5 (And.intro hk5 (And.intro hE4 hsz5)));clear hb4 hb5 hk5 hE4 hW4 hW5 q4 f4 hks hsz5;refine (jmr W5 _ v _ b HB5.o.1.pa HDL.o).mono ?_;rintro e w6 ⟨v6,rfl,hP6,hk6⟩;have HZ:=Hd (And.intro hP6 (And.intro hk6 (jer HB5.o.1.lt hk6)));clear hP6 hk6;go_wp2_with fail
 go_ret
 obtain⟨hP6,hk6,hl6⟩:=HZ.o
 obtain⟨ht,htk,hb,hs3⟩:=HT.o
 obtain⟨_,hk5,hE4,hs5⟩:=HB5.o
 have hsz:W.heap.size<=W3.heap.size:=by have:=hb.size;have:=htk.size;omega
 have hsz4:=hE4.size;have g1:∀ z,Grow D wb wc z->D z\/W.heap.size<=z:=fun z hz=>hz.imp id (fun e=>Nat.le_trans hb.size e.1);have g2:∀ z,Grow (Grow D wb wc) W4 W4 z->D z\/W.heap.size<=z:=fun z hz=>hz.elim (g1 z) (fun e=>by omega);refine PaTo.mk1 (hP6.mono (fun z hz=>?_)) ?_
 ·have hl:=hl6 z hz
  rcases hz with hz | hz
  ·exact (g2 z hz).imp id (fun e=>⟨e,hl⟩)
  ·exact .inr ⟨by have:=hz.1;omega,hl⟩
 ·have k1:jae D W W3:=(hb.mono (fun _ _ e=>e.elim):jae D W wb).trans htk
  have k2:jae D W W4:=k1.trans (hE4.mono (fun _ _ e=>e.elim));have k3:jae D W W5:=k2.trans' hk5 (fun z hz e=>(g1 z e).elim id (fun e=>by omega));exact k3.trans' hk6 (fun z hz e=>(g2 z e).elim id (fun e=>by omega))
theorem jhj:∀ (P:PA),VaP P->jr8 P
 | .nil,_=>fun W T x D p h _ _ _=>by cases h.at'
 | .no,_=>fun W T x D p h _ _ _=>by
  have e:Value.iface T x=noV:=h.at';unfold noV at e;injection e with e1 e2;subst e1 e2;exact jtq W D p
 | .leaf q v,hv=>fun W T x D p h hp hn hd=>by
  obtain⟨b,e,h1,h2⟩:=h.at'
  unfold jiw at e;injection e with e1 e2;subst e1 e2;exact jvv W D q v p b h2 h1
 | .ext q n,hv=>fun W T x D p h hp hn hd=>by
  obtain⟨b,T',x',Dn,e,h1,h2,h3,h4,h5⟩:=h.at'
  unfold extV at e;injection e with e1 e2;subst e1 e2;have hDn:∀ z,Dn z->D z/\z < W.heap.size:=fun z hz=>⟨h5 z hz,h.lt z (h5 z hz)⟩;show Calls _ _ _ W (PaTo D W (jbL (.ext q n) p));unfold jbL;cases hf:preB q p with
  | true =>
   rw[if_pos rfl];exact jsN W D q n T' x' Dn b h2 h1 h3 h4 hDn p hn hd.1 hp (jb6 _ _ _ hd.2 vO) (jhj n hv.2) hf
  | false =>
   rw[if_neg ff];exact jsO W D q n T' x' Dn b h2 h1 h3 h4 hDn p hn hd.1 hp hf
 | .br v ks,hv=>fun W T x D p h hp hn hd=>by
  obtain⟨b,vk,Dk,e,_⟩:=h.at'
  unfold brV at e;injection e with e1 e2;subst e1 e2;show Calls _ _ _ W (PaTo D W (jbL (.br v ks) p));unfold jbL
  by_cases h0:p.size=0
  ·rw[if_pos h0,jbh h0]
   exact jpz W D v ks b h hd
  ·rw[if_neg h0]
   cases hk:(ks (jaq p)).isNil with
   | true=>rw[if_pos rfl];exact jsn W D v ks b h p h0 hn hp hk
   | false =>
    rw[if_neg ff];unfold unNo;cases hno:(jbL (ks (jaq p)) (jbm p)).isNo with
    | true=>rw[if_pos rfl];exact jod W D v ks b h p h0 hn hp hk hd (jhj (ks (jaq p)) (hv _)) hno
    | false=>rw[if_neg ff];exact jpy W D v ks b h p h0 hn hp hk hd (jhj (ks (jaq p)) (hv _)) hno
def cntP:PA->Nat
 | .nil=>0
 | .no=>1
 | .leaf _ _=>1
 | .ext _ n=>1+cntP n
 | .br _ ks=>1+sumF (fun i=>cntP (ks i)) 16
theorem jnr(p v:vB):(keyR p v).length<=1:=by unfold keyR;split <;> simp
theorem jfY{α:Type}(g:Nat->List α)(f:Nat->Nat)(h:∀ i,(g i).length<=f i):∀ n,((List.range n).flatMap g).length<=sumF f n
 | 0=>by simp
 | n+1=>by
  rw[List.range_succ,List.flatMap_append,List.length_append]
  have:=jfY g f h n
  have:=h n
  simp only[List.flatMap_cons,List.flatMap_nil,List.append_nil,sumF];omega
theorem jme:∀ (P:PA) (p:vB),(entP P p).length<=cntP P
 | .nil,_=>Nat.le_refl _
 | .no,_=>Nat.zero_le _
 | .leaf q v,p=>jnr _ _
 | .ext q n,p=>Nat.le_trans (jme n (p++q)) (Nat.le_add_left _ _)
 | .br v ks,p=>by
  show ((if v.size=0 then []else keyR p v)++(List.range 16).flatMap fun i=>if (ks i).isNil then []else entP (ks i) (p++nib1 i)).length<=1+sumF (fun i=>cntP (ks i)) 16;rw[List.length_append];have h1:(if v.size=0 then []else keyR p v:List Pair).length<=1:=by
   split
   ·simp
   ·exact jnr _ _
  have h2:=jfY (fun i=>if (ks i).isNil then []else entP (ks i) (p++nib1 i)) (fun i=>cntP (ks i)) (fun i=>by
   show (if (ks i).isNil=true then ([]:List Pair)else entP (ks i) (p++nib1 i)).length<=cntP (ks i);split
   ·simp
   ·exact jme (ks i) _) 16
  omega
theorem ERow.len'{w0 w:World}{v:Value}{n:Nat}{xs:List Pair}(h:ERow w0 w v n xs):n=xs.length:=by have:=h.len;rw[jgr]at this;omega
def EnP(w0:World)(xs:List Pair)(e:Ending)(w':World):Prop:=∃ v n,e=.returned v/\ERow w0 w' v n xs
def EntC(P:PA):Prop:=∀ (w0 W:World) (T:TypeId) (x:Value) (D:Nat->Prop) (p:vB) (v:Value) (n k:Nat) (E:List Pair),PaO P (.iface T x) D w0->ERow w0 W v n E->Dp P k->p.size+k<=900000->n+cntP P<=100000 ->
 vQ (jfF P) #[x,.string p,v] W (EnP w0 (E++entP P p))
theorem jvF(w0 W:World)(p:vB)(v:Value)(n:Nat)(E:List Pair)(h:ERow w0 W v n E):vQ 320 #[.agg #[],.string p,v] W (EnP w0 E):=by
 have H:=Hd h
 obtain⟨a,c,rfl⟩:=h.sl
 clear h;go_enter Tryz.func320,Tryz.ntmps320;go_wp2_with fail
 go_ret
 exact⟨_,n,rfl,H.o.mono ((ExtR W).alloc _)⟩
theorem jiJ(k v:vB):jdX [(k,v)]=[.string k,.string v]:=rfl
theorem jxx(w0 W:World)(q u p:vB)(b:Nat)(hB:Blk w0 b (.cells #[.string q,.string u] 283))(v:Value)(n:Nat)(E:List Pair)(h:ERow w0 W v n E)(hs:p.size+q.size<=900000)(hn:n<=100000) :
  vQ 306 #[.pointer (some ⟨b,0,none⟩),.string p,v] W (EnP w0 (E++keyR (p++q) u)):=by
 have q0:=jaa (hB.cell (i:=0) (v:=.string q) vF) h.ext;have Q1:=Hd (jaa (hB.cell (i:=1) (v:=.string u) vF) h.ext);have H:=Hd h
 obtain⟨a,c,rfl⟩:=h.sl
 have hk:=fun w=>jta w (p++q) (by rw[jcU];omega);unfold keyV at hk;unfold keyR;cases hok:jd3 (p++q)with
 | false =>
  rw[if_neg ff,List.append_nil];rw[hok,if_neg ff]at hk;have HK:=Hd hk;clear h hB hk hok;go_enter Tryz.func306,Tryz.ntmps306;go_wp2_with fail
  refine vC (HK.o W) fun w1 hE=>?_;have HE:=Hd hE;clear hE;go_wp2_with fail
  go_ret
  exact⟨_,n,rfl,H.o.mono HE.o⟩
 | true =>
  rw[if_pos rfl];rw[hok,if_pos rfl]at hk;have HK:=Hd hk;clear h hB hk hok;go_enter Tryz.func306,Tryz.ntmps306;go_wp2_with fail
  refine vC (HK.o W) fun w1 hE=>?_;have HE:=Hd hE;have q1:=jaa Q1.o hE;have HR:=Hd (H.o.mono hE);clear hE;go_wp2_with (at_builtin;refine jba Tryz.sEnts (HR.o.mono ((ExtR w1).alloc _)) (.tmp 20) (.tmp 27) rfl rfl rfl (jaS (Blk.new w1 _)) (news:=[.string (jbr (p++q)),.string u]) (by intro u hu;simp at hu;rcases hu with rfl | rfl <;> rfl) rfl rfl (by unfold maxLen;omega) vO (fun v' w' r1 r2 r3=>?_);obtain⟨a5,c5,hv5⟩:=r1.sl;subst hv5;have HR5:=Hd r1)
  go_ret
  exact⟨_,n+1,rfl,by have:=HR5.o;rw[<-jiJ, <-jbC]at this;exact this⟩
def jpd(w0 a b:World):Prop:=Ext w0 a->Ext w0 b
theorem jlY(w0 x y z:World)(h:jpd w0 x y)(k:jpd w0 y z):jpd w0 x z:=fun e=>k (h e)
theorem jpp(w0 x y:World)(h:Ext x y):jpd w0 x y:=fun e=>e.trans h
theorem jxe(w0 W:World)(q:vB)(n:PA)(T:TypeId)(x:Value)(Dn:Nat->Prop)(b:Nat)(hB:Blk w0 b (.cells #[.string q,.iface T x] 286))(hv:PaAt n (.iface T x) Dn w0)(hD:∀ x,Dn x->x < w0.heap.size)(p:vB)(v:Value)(m k:Nat)(E:List Pair)(h:ERow w0 W v m E)(hd:Dp n k)(hs:(p++q).size+k<=900000)(hn:m+cntP n<=100000)(hk:EntC n) :
  vQ 312 #[.pointer (some ⟨b,0,none⟩),.string p,v] W (EnP w0 (E++entP n (p++q))):=by
 have Q0:=Hd (hB.cell (i:=0) (v:=.string q) vF);have Q1:=Hd (hB.cell (i:=1) (v:=.iface T x) vF);have HE0:=Hd h.ext;have HM:=Hd hv.meth;have hz:p.size+q.size<=900000:=by rw[<-jcU];omega
 obtain⟨a,c,hvs⟩:=h.sl
 have CALLEE:=Hd (show ∀ wb,Ext W wb->vQ (jfF n) #[x,.string (p++q),v] wb (EnP w0 (E++entP n (p++q)))from fun wb e=>hk w0 wb T x Dn (p++q) v m k E ⟨hv,hD⟩ (h.mono e) hd hs hn);subst hvs;clear hB hv hD h hd hs hn hk;go_enter Tryz.func312,Tryz.ntmps312;go_wp2_with fail
 refine jaD [0,1,2,3,4,5,6,7,8,9,10,11,12,13,14] [13] Ext (jpd w0) ExtR ExtT (jlY w0) (jpp w0) vY vY vY ?_
 refine vD ?_
 refine qDV _ ((.pointer (some ⟨b,0,none⟩))) rfl (fun w1 _=>by kernel_rfl) ?_;refine vS ?_
 refine vD ?_
 refine qDL ⟨b,1,none⟩ _ rfl (fun w1 h1=>jaz (fun w=>by kernel_rfl) (jaa Q1.o (h1 (HE0.o.trans (jaj _))))) ?_;refine vS ?_;iterate 2 refine vD ?_
 refine qDV _ ((.pointer (some ⟨b,0,none⟩))) rfl (fun w1 _=>by kernel_rfl) ?_;refine vS ?_
 refine vD ?_
 refine qDL ⟨b,0,none⟩ _ rfl (fun w1 h1=>jaz (fun w=>by kernel_rfl) (jaa Q0.o (h1 (HE0.o.trans (jaj _))))) ?_;refine vS ?_;iterate 2 refine vD ?_
 refine qDV _ (.iface T x) rfl (fun w1 _=>by kernel_rfl) ?_;refine vS ?_
 refine vD ?_
 refine qDH _ rfl (fun wb hb K hK=>?_);have kb:Ext W wb:=(jaj _).trans hb;refine jbv (jcz (f:=jfF n) (vs:=#[.string (p++q),.slice a m c]) rfl (HM.o.ent _) (jdY _) vY) ?_;refine (CALLEE.o wb kb).mono ?_;rintro e w2 ⟨v2,m2,rfl,hR2⟩
 refine⟨v2,rfl,hK _ _ (fun _=>hR2.ext) ?_⟩
 have HS:=Hd hR2;clear hK K hb kb hR2;refine vS ?_
 refine vD ?_
 refine qDE (fun wd hd=>?_);have HQ:=Hd hd;clear hd;go_wp2_with fail
 go_ret
 exact⟨_,_,rfl,HS.o.mono HQ.o⟩
def entK(ks:Nat->PA)(p:vB)(k:Nat):List Pair:=(List.range k).flatMap fun i=>if (ks i).isNil then []else entP (ks i) (p++nib1 i)
theorem jhD(ks:Nat->PA)(p:vB)(k:Nat):entK ks p (k+1)=entK ks p k++(if (ks k).isNil then []else entP (ks k) (p++nib1 k)):=by
 unfold entK;rw[List.range_succ,List.flatMap_append]
 simp
theorem jjv(ks:Nat->PA)(p:vB)(k:Nat):(entK ks p k).length<=sumF (fun i=>cntP (ks i)) k:=jfY _ _ (fun i=>by
 show (if (ks i).isNil=true then ([]:List Pair)else entP (ks i) (p++nib1 i)).length<=cntP (ks i);split
 ·simp
 ·exact jme (ks i) _) k
theorem jec(f:Nat->Nat)(k:Nat):∀ d,sumF f k<=sumF f (k+d)
 | 0=>Nat.le_refl _
 | d+1=>Nat.le_trans (jec f k d) (Nat.le_add_right _ _)
def juD(w0:World)(ks:Nat->PA)(p:vB)(E:List Pair)(tv iv:Value)(wr:World):Prop:=∃ (k m:Nat),k<=16/\iv=.int .i64 (k:Int)/\ERow w0 wr tv m (E++entK ks p k)
theorem jjr(w:World){m:Nat}(hm:m < 16):(convert 92 9 (.slice (some ⟨w.heap.size,0,none⟩) 1 1)).run Tryz.prog (w.alloc (.cells #[.int .u8 (m:Int)] 5))=.ok (.string (nib1 m)) (w.alloc (.cells #[.int .u8 (m:Int)] 5)):=by
 have hbm:(m:Int)=((UInt8.ofNat m).toNat:Int):=by rw[jo8 m vO]
 rw[hbm];exact Tryz.run_lit1 w (UInt8.ofNat m)
structure BrRd(u:vB)(ks:Nat->PA)(b:Nat)(vk:Nat->Value)(Dk:Nat->Nat->Prop)(W:World):Prop where
 blk:Blk W b (.cells (brC u vk).toArray 290)
 kid:∀ i,i < 16->PaO (ks i) (vk i) (Dk i) W
theorem jpB(w0 W:World)(u p:vB)(ks:Nat->PA)(b:Nat)(vk:Nat->Value)(Dk:Nat->Nat->Prop)(hb:BrRd u ks b vk Dk w0)(v:Value)(n kk:Nat)(E:List Pair)(h:ERow w0 W v n E)(hd:Dp (.br u ks) kk)(hs:p.size+kk<=900000)(hn:n+1+sumF (fun i=>cntP (ks i)) 16<=100000)(ih:∀ i,i < 16->(ks i).isNil=false->EntC (ks i))(ho:jd3 p=false) :
  vQ 316 #[.pointer (some ⟨b,0,none⟩),.string p,v] W (EnP w0 (E++entK ks p 16)):=by
 have H:=Hd hb;have HDP:=Hd hd;have HSZ:=Hd hs;have HIH:=Hd ih;have HE0:=Hd h.ext;have H0:=Hd h;have hnl:=h.len';have q0:=jaa (hb.blk.cellL (i:=0) (v:=.string u) vF) h.ext;have hla:=jbc (hb.blk.keeps h.ext (fun e=>e));have hem:(⟨#[]⟩:vB).toList.isEmpty=true:=by rw[ByteArray.toList_eq];rfl
 have hnn:=jjJ;have hks:=jta W p vO;unfold keyV at hks
 obtain⟨a,c,hvs0⟩:=h.sl
 rw[ho,if_neg ff]at hks;have HK:=Hd hks;have HCN:=Hd (show E.length+sumF (fun i=>cntP (ks i)) 16<=100000 by omega);have hB:=Hd hb.blk;clear hb hd hs ih h hn ho hks hla;subst hvs0;go_enter Tryz.func316,Tryz.ntmps316;go_wp2_with fail
 refine HK.o.mono ?_;rintro e w1 ⟨rfl,hE⟩;have hla:=jbc (hB.o.keeps (HE0.o.trans hE) (fun e=>e));have HR1:=Hd (H0.o.mono hE);clear hE q0;clear hnl;go_wp2_with (refine jaf 288 (.tmp 35) rfl rfl _ _ rfl hla ?_)
 go_loopw [2,37] (fun tv iv wr=>juD w0 ks p E tv iv wr) (fun _ iv _=>16 - (intOf iv).toNat)
 case atStart=>exact⟨0,n,by omega,rfl,by rw[show entK ks p 0=[]from rfl,List.append_nil];exact HR1.o⟩
 case round =>
  obtain⟨k,m,hk,rfl,hR⟩:=hrel
  have HRR:=Hd hR;have hml:m<=E.length+sumF (fun i=>cntP (ks i)) k:=by
   have h1:=hR.len';have h2:=jjv ks p k;rw[List.length_append]at h1;omega
  have HML:=Hd hml
  obtain⟨a2,c2,hvs⟩:=hR.sl
  clear hR hml
  by_cases hlt:k < 16
  ·have hix:=jex vk hlt
   have hst:=jhD ks p k;rcases (H.o.kid k hlt).at'.kid with⟨hn,hv⟩ |⟨hn,T,x,hv⟩
   ·rw[hn,if_pos rfl,List.append_nil]at hst
    rw[hv]at hix;have HST:=Hd hst;clear hst hn hv;subst hvs;go_wp2;go_roundw
    case rel=>exact⟨k+1,m,by omega,by go_num,by rw[HST.o];exact HRR.o⟩
    case measure=>simp[intOf];omega
   ·rw[hn,if_neg ff]at hst
    rw[hv]at hix;have hq:=jdh T x;have hpo:=H.o.kid k hlt;rw[hv]at hpo;have hmt:=hpo.at'.meth;have hme:∀ w,(Go.method (487+1) T x "guilloche/trie.entries").run Tryz.prog w=.ok (jfF (ks k),x) w:=hmt.ent;have hee:=jdY (ks k);have hcv:=jjr wr hlt;have hdk:=HDP.o k hn;have hsm:sumF (fun i=>cntP (ks i)) k+cntP (ks k)<=sumF (fun i=>cntP (ks i)) 16:=by
     have h1:=jec (fun i=>cntP (ks i)) (k+1) (15 - k);rw[show k+1+(15 - k)=16 by omega]at h1;exact h1
    have HCALL:=Hd (show ∀ wb,Ext wr wb->vQ (jfF (ks k)) #[x,.string (p++nib1 k),.slice a2 m c2] wb (EnP w0 (E++entK ks p k++entP (ks k) (p++nib1 k)))from fun wb e=>HIH.o k hlt hn w0 wb T x (Dk k) (p++nib1 k) _ m (kk - 1) _ hpo (by rw[<-hvs];exact HRR.o.mono e) hdk.2 (by rw[jcU];have:(nib1 k).size=1:=rfl;have:=HSZ.o;have:=hdk.1;omega) (by have:=HML.o;have:=HCN.o;omega));have HST:=Hd hst;have b1:(k:Int) < 256:=by omega
    have hcz:p.size+(nib1 k).size<=900001:=by have:(nib1 k).size=1:=rfl;have:=HSZ.o;omega
    have b2:(k:Int) < 16:=by omega
    clear hst hn hv hpo hmt hdk hsm;subst hvs;go_wp2_with fail
    refine (HCALL.o _ ((ExtR wr).alloc _)).mono ?_;rintro e w2 ⟨v2,m2,rfl,hR2⟩;have HR2:=Hd hR2
    obtain⟨a3,c3,hv3⟩:=hR2.sl
    subst hv3;clear hR2;go_wp2_with fail
    go_roundw
    case rel=>exact⟨k+1,m2,by omega,by go_num,by rw[HST.o, <-List.append_assoc];exact HR2.o⟩
    case measure=>simp[intOf];omega
  ·obtain rfl:k=16:=by omega
   subst hvs;go_wp2_with fail
   go_ret
   exact⟨_,_,rfl,HRR.o⟩
theorem jsq(w0 W:World)(u p:vB)(ks:Nat->PA)(b:Nat)(vk:Nat->Value)(Dk:Nat->Nat->Prop)(hb:BrRd u ks b vk Dk w0)(v:Value)(n kk:Nat)(E:List Pair)(h:ERow w0 W v n E)(hd:Dp (.br u ks) kk)(hs:p.size+kk<=900000)(hn:n+1+sumF (fun i=>cntP (ks i)) 16<=100000)(ih:∀ i,i < 16->(ks i).isNil=false->EntC (ks i))(ho:jd3 p=true)(hu:u.size≠0) :
  vQ 316 #[.pointer (some ⟨b,0,none⟩),.string p,v] W (EnP w0 ((E++[(jbr p,u)])++entK ks p 16)):=by
 have H:=Hd hb;have HDP:=Hd hd;have HSZ:=Hd hs;have HIH:=Hd ih;have HE0:=Hd h.ext;have H0:=Hd h;have hnl:=h.len';have q0:=jaa (hb.blk.cellL (i:=0) (v:=.string u) vF) h.ext;have hla:=jbc (hb.blk.keeps h.ext (fun e=>e));have hem:(⟨#[]⟩:vB).toList.isEmpty=true:=by rw[ByteArray.toList_eq];rfl
 have hnn:=jjJ;have hks:=jta W p vO;unfold keyV at hks
 obtain⟨a,c,hvs0⟩:=h.sl
 rw[ho,if_pos rfl]at hks;have HK:=Hd hks;have hue:=jcT hu;have HCN:=Hd (show (E++[(jbr p,u)]).length+sumF (fun i=>cntP (ks i)) 16<=100000 by rw[List.length_append,List.length_singleton];omega);have hB:=Hd hb.blk;have Q0:=Hd q0;have hnle:n<=100000:=by omega
 clear hb hd hs ih h hn ho hks hla hu q0;subst hvs0;go_enter Tryz.func316,Tryz.ntmps316;go_wp2_with fail
 refine HK.o.mono ?_;rintro e w1 ⟨rfl,hE⟩;have q0:=jaa Q0.o hE;have HR0:=Hd (H0.o.mono hE);clear hE hnl;go_wp2_with (first |(at_builtin;refine jba Tryz.sEnts (HR0.o.mono ((ExtR w1).alloc _)) (.tmp 24) (.tmp 31) rfl rfl rfl (jaS (Blk.new w1 _)) (news:=[.string (jbr p),.string u]) (by intro u hu;simp at hu;rcases hu with rfl | rfl <;> rfl) rfl rfl (by unfold maxLen;omega) vO (fun v' w' r1 r2 r3=>?_);obtain⟨a5,c5,hv5⟩:=r1.sl;subst hv5;have HR1:Hid (ERow w0 w' (.slice a5 (n+1) c5) (n+1) (E++[(jbr p,u)])):=Hd (by rw[<-jiJ, <-jbC]at r1;exact r1);have hla:=jbc (hB.o.keeps HR1.o.ext (fun e=>e))) |(refine jaf 288 (.tmp 35) rfl rfl _ _ rfl hla ?_))
 go_loopw [2,37] (fun tv iv wr=>juD w0 ks p (E++[(jbr p,u)]) tv iv wr) (fun _ iv _=>16 - (intOf iv).toNat)
 case atStart=>exact⟨0,(n+1),by omega,rfl,by rw[show entK ks p 0=[]from rfl,List.append_nil];exact HR1.o⟩
 case round =>
  obtain⟨k,m,hk,rfl,hR⟩:=hrel
  have HRR:=Hd hR;have hml:m<=(E++[(jbr p,u)]).length+sumF (fun i=>cntP (ks i)) k:=by
   have h1:=hR.len';have h2:=jjv ks p k;rw[List.length_append]at h1;omega
  have HML:=Hd hml
  obtain⟨a2,c2,hvs⟩:=hR.sl
  clear hR hml
  by_cases hlt:k < 16
  ·have hix:=jex vk hlt
   have hst:=jhD ks p k;rcases (H.o.kid k hlt).at'.kid with⟨hn,hv⟩ |⟨hn,T,x,hv⟩
   ·rw[hn,if_pos rfl,List.append_nil]at hst
    rw[hv]at hix;have HST:=Hd hst;clear hst hn hv;subst hvs;go_wp2;go_roundw
    case rel=>exact⟨k+1,m,by omega,by go_num,by rw[HST.o];exact HRR.o⟩
    case measure=>simp[intOf];omega
   ·rw[hn,if_neg ff]at hst
    rw[hv]at hix;have hq:=jdh T x;have hpo:=H.o.kid k hlt;rw[hv]at hpo;have hmt:=hpo.at'.meth;have hme:∀ w,(Go.method (487+1) T x "guilloche/trie.entries").run Tryz.prog w=.ok (jfF (ks k),x) w:=hmt.ent;have hee:=jdY (ks k);have hcv:=jjr wr hlt;have hdk:=HDP.o k hn;have hsm:sumF (fun i=>cntP (ks i)) k+cntP (ks k)<=sumF (fun i=>cntP (ks i)) 16:=by
     have h1:=jec (fun i=>cntP (ks i)) (k+1) (15 - k);rw[show k+1+(15 - k)=16 by omega]at h1;exact h1
    have HCALL:=Hd (show ∀ wb,Ext wr wb->vQ (jfF (ks k)) #[x,.string (p++nib1 k),.slice a2 m c2] wb (EnP w0 ((E++[(jbr p,u)])++entK ks p k++entP (ks k) (p++nib1 k)))from fun wb e=>HIH.o k hlt hn w0 wb T x (Dk k) (p++nib1 k) _ m (kk - 1) _ hpo (by rw[<-hvs];exact HRR.o.mono e) hdk.2 (by rw[jcU];have:(nib1 k).size=1:=rfl;have:=HSZ.o;have:=hdk.1;omega) (by have:=HML.o;have:=HCN.o;omega));have HST:=Hd hst;have b1:(k:Int) < 256:=by omega
    have hcz:p.size+(nib1 k).size<=900001:=by have:(nib1 k).size=1:=rfl;have:=HSZ.o;omega
    have b2:(k:Int) < 16:=by omega
    clear hst hn hv hpo hmt hdk hsm;subst hvs;go_wp2_with fail
    refine (HCALL.o _ ((ExtR wr).alloc _)).mono ?_;rintro e w2 ⟨v2,m2,rfl,hR2⟩;have HR2:=Hd hR2
    obtain⟨a3,c3,hv3⟩:=hR2.sl
    subst hv3;clear hR2;go_wp2_with fail
    go_roundw
    case rel=>exact⟨k+1,m2,by omega,by go_num,by rw[HST.o, <-List.append_assoc];exact HR2.o⟩
    case measure=>simp[intOf];omega
  ·obtain rfl:k=16:=by omega
   subst hvs;go_wp2_with fail
   go_ret
   exact⟨_,_,rfl,HRR.o⟩
theorem jsp(w0 W:World)(u p:vB)(ks:Nat->PA)(b:Nat)(vk:Nat->Value)(Dk:Nat->Nat->Prop)(hb:BrRd u ks b vk Dk w0)(v:Value)(n kk:Nat)(E:List Pair)(h:ERow w0 W v n E)(hd:Dp (.br u ks) kk)(hs:p.size+kk<=900000)(hn:n+1+sumF (fun i=>cntP (ks i)) 16<=100000)(ih:∀ i,i < 16->(ks i).isNil=false->EntC (ks i))(ho:jd3 p=true)(hu:u.size=0) :
  vQ 316 #[.pointer (some ⟨b,0,none⟩),.string p,v] W (EnP w0 (E++entK ks p 16)):=by
 have H:=Hd hb;have HDP:=Hd hd;have HSZ:=Hd hs;have HIH:=Hd ih;have HE0:=Hd h.ext;have H0:=Hd h;have hnl:=h.len';have q0:=jaa (hb.blk.cellL (i:=0) (v:=.string u) vF) h.ext;have hla:=jbc (hb.blk.keeps h.ext (fun e=>e));have hem:(⟨#[]⟩:vB).toList.isEmpty=true:=by rw[ByteArray.toList_eq];rfl
 have hnn:=jjJ;have hks:=jta W p vO;unfold keyV at hks
 obtain⟨a,c,hvs0⟩:=h.sl
 rw[ho,if_pos rfl]at hks;have HK:=Hd hks;have hue:=jbh hu;subst hue;have HCN:=Hd (show E.length+sumF (fun i=>cntP (ks i)) 16<=100000 by omega);have hB:=Hd hb.blk;have Q0:=Hd q0;clear hb hd hs ih h hn ho hks hla hu q0;subst hvs0;go_enter Tryz.func316,Tryz.ntmps316;go_wp2_with fail
 refine HK.o.mono ?_;rintro e w1 ⟨rfl,hE⟩;have q0:=jaa Q0.o hE;have hla:=jbc (hB.o.keeps (HE0.o.trans hE) (fun e=>e));have HR1:=Hd (H0.o.mono hE);clear hE hnl;go_wp2_with (refine jaf 288 (.tmp 35) rfl rfl _ _ rfl hla ?_)
 go_loopw [2,37] (fun tv iv wr=>juD w0 ks p E tv iv wr) (fun _ iv _=>16 - (intOf iv).toNat)
 case atStart=>exact⟨0,n,by omega,rfl,by rw[show entK ks p 0=[]from rfl,List.append_nil];exact HR1.o⟩
 case round =>
  obtain⟨k,m,hk,rfl,hR⟩:=hrel
  have HRR:=Hd hR;have hml:m<=E.length+sumF (fun i=>cntP (ks i)) k:=by
   have h1:=hR.len';have h2:=jjv ks p k;rw[List.length_append]at h1;omega
  have HML:=Hd hml
  obtain⟨a2,c2,hvs⟩:=hR.sl
  clear hR hml
  by_cases hlt:k < 16
  ·have hix:=jex vk hlt
   have hst:=jhD ks p k;rcases (H.o.kid k hlt).at'.kid with⟨hn,hv⟩ |⟨hn,T,x,hv⟩
   ·rw[hn,if_pos rfl,List.append_nil]at hst
    rw[hv]at hix;have HST:=Hd hst;clear hst hn hv;subst hvs;go_wp2;go_roundw
    case rel=>exact⟨k+1,m,by omega,by go_num,by rw[HST.o];exact HRR.o⟩
    case measure=>simp[intOf];omega
   ·rw[hn,if_neg ff]at hst
    rw[hv]at hix;have hq:=jdh T x;have hpo:=H.o.kid k hlt;rw[hv]at hpo;have hmt:=hpo.at'.meth;have hme:∀ w,(Go.method (487+1) T x "guilloche/trie.entries").run Tryz.prog w=.ok (jfF (ks k),x) w:=hmt.ent;have hee:=jdY (ks k);have hcv:=jjr wr hlt;have hdk:=HDP.o k hn;have hsm:sumF (fun i=>cntP (ks i)) k+cntP (ks k)<=sumF (fun i=>cntP (ks i)) 16:=by
     have h1:=jec (fun i=>cntP (ks i)) (k+1) (15 - k);rw[show k+1+(15 - k)=16 by omega]at h1;exact h1
    have HCALL:=Hd (show ∀ wb,Ext wr wb->vQ (jfF (ks k)) #[x,.string (p++nib1 k),.slice a2 m c2] wb (EnP w0 (E++entK ks p k++entP (ks k) (p++nib1 k)))from fun wb e=>HIH.o k hlt hn w0 wb T x (Dk k) (p++nib1 k) _ m (kk - 1) _ hpo (by rw[<-hvs];exact HRR.o.mono e) hdk.2 (by rw[jcU];have:(nib1 k).size=1:=rfl;have:=HSZ.o;have:=hdk.1;omega) (by have:=HML.o;have:=HCN.o;omega));have HST:=Hd hst;have b1:(k:Int) < 256:=by omega
    have hcz:p.size+(nib1 k).size<=900001:=by have:(nib1 k).size=1:=rfl;have:=HSZ.o;omega
    have b2:(k:Int) < 16:=by omega
    clear hst hn hv hpo hmt hdk hsm;subst hvs;go_wp2_with fail
    refine (HCALL.o _ ((ExtR wr).alloc _)).mono ?_;rintro e w2 ⟨v2,m2,rfl,hR2⟩;have HR2:=Hd hR2
    obtain⟨a3,c3,hv3⟩:=hR2.sl
    subst hv3;clear hR2;go_wp2_with fail
    go_roundw
    case rel=>exact⟨k+1,m2,by omega,by go_num,by rw[HST.o, <-List.append_assoc];exact HR2.o⟩
    case measure=>simp[intOf];omega
  ·obtain rfl:k=16:=by omega
   subst hvs;go_wp2_with fail
   go_ret
   exact⟨_,_,rfl,HRR.o⟩
end
theorem jmv:∀ (P:PA),EntC P
 | .nil=>fun w0 W T x D p v n k E h _ _ _ _=>by cases h.at'
 | .no=>fun w0 W T x D p v n k E h hr _ _ _=>by
  have e:Value.iface T x=noV:=h.at';unfold noV at e;injection e with e1 e2;subst e1 e2;show Calls _ _ _ W (EnP w0 (E++[]));rw[List.append_nil];exact jvF w0 W p v n E hr
 | .leaf q u=>fun w0 W T x D p v n k E h hr hd hs hn=>by
  obtain⟨b,e,h1,h2⟩:=h.at'
  unfold jiw at e;injection e with e1 e2;subst e1 e2;have hd:q.size<=k:=hd;have hn:n+1<=100000:=hn;exact jxx w0 W q u p b h2 v n E hr vO vO
 | .ext q m=>fun w0 W T x D p v n k E h hr hd hs hn=>by
  obtain⟨b,T',x',Dn,e,h1,h2,h3,h4,h5⟩:=h.at'
  unfold extV at e;injection e with e1 e2;subst e1 e2;have hn:n+(1+cntP m)<=100000:=hn;have h1:=hd.1;exact jxe w0 W q m T' x' Dn b h2 h3 (fun z hz=>h.lt z (h5 z hz)) p v n (k - q.size) E hr hd.2 (by rw[jcU];omega) vO (jmv m)
 | .br u ks=>fun w0 W T x D p v n k E h hr hd hs hn=>by
  obtain⟨b,vk,Dk,e,h1,h2,h3,h4⟩:=h.at'
  unfold brV at e;injection e with e1 e2;subst e1 e2;have hb:BrRd u ks b vk Dk w0:=⟨h2,fun i hi=>⟨(h3 i hi).1,fun z hz=>h.lt z ((h3 i hi).2.2 z hz)⟩⟩;have hn:n+(1+sumF (fun i=>cntP (ks i)) 16)<=100000:=hn;have ih:∀ i,i < 16->(ks i).isNil=false->EntC (ks i):=fun i _ _=>jmv (ks i);show Calls _ _ _ W (EnP w0 (E++((if u.size=0 then []else keyR p u)++entK ks p 16)));unfold keyR;rw[<-List.append_assoc]
  by_cases hu:u.size=0
  ·rw[if_pos hu,List.append_nil]
   cases ho:jd3 p with
   | true=>exact jsp w0 W u p ks b vk Dk hb v n k E hr hd hs vO ih ho hu
   | false=>exact jpB w0 W u p ks b vk Dk hb v n k E hr hd hs vO ih ho
  ·rw[if_neg hu]
   cases ho:jd3 p with
   | true=>rw[if_pos rfl];exact jsq w0 W u p ks b vk Dk hb v n k E hr hd hs vO ih ho hu
   | false=>rw[if_neg ff,List.append_nil];exact jpB w0 W u p ks b vk Dk hb v n k E hr hd hs vO ih ho
section
attribute [local go_sem] Oper.semAt_some
def jfQ(k:Key)(L:List Nd5):List Nd5:=L.map fun x=>if x.1=k then (x.1,x.2.1,putF 2 (x.2.2.used+1) x.2.2)else x
def jen(T:List vB)(L:List Nd5):List Nd5:=T.foldl (fun L r=>jfQ r.data.toList L) L
theorem joi(T:List vB)(r:vB)(L:List Nd5):jen (T++[r]) L=jfQ r.data.toList (jen T L):=by unfold jen;rw[List.foldl_append];rfl
theorem joh(k:Key)(L:List Nd5):(jfQ k L).map (·.1)=L.map (·.1):=by
 unfold jfQ;rw[List.map_map];refine List.map_congr_left (fun x _=>?_);simp only[Function.comp];split <;> rfl
theorem jog(k:Key)(L:List Nd5):(jfQ k L).map (·.2.1)=L.map (·.2.1):=by
 unfold jfQ;rw[List.map_map];refine List.map_congr_left (fun x _=>?_);simp only[Function.comp];split <;> rfl
theorem jgq:∀ (T:List vB) (L:List Nd5),(jen T L).map (·.1)=L.map (·.1)
 | [],_=>rfl
 | r :: T,L=>by
  show (jen T (jfQ r.data.toList L)).map (·.1)=_;rw[jgq T,joh]
theorem jgp:∀ (T:List vB) (L:List Nd5),(jen T L).map (·.2.1)=L.map (·.2.1)
 | [],_=>rfl
 | r :: T,L=>by
  show (jen T (jfQ r.data.toList L)).map (·.2.1)=_;rw[jgp T,jog]
theorem jmS{A B:List Nd5}(h:A.map (·.1)=B.map (·.1))(k:Key):(atL A k).isSome=(atL B k).isSome:=by
 have e:∀ L:List Nd5,(atL L k).isSome=(L.map (·.1)).any (fun y=>decide (k=y)):=fun L=>by
  unfold atL;rw[List.isSome_find?,List.any_map];rfl
 rw[e,e,h]
theorem jiF:∀ (T:List vB) (L:List Nd5) (lo hi:Int),(∀ x∈L,lo<=x.2.2.used/\x.2.2.used<=hi)->∀ x∈jen T L,lo<=x.2.2.used/\x.2.2.used<=hi+T.length
 | [],L,lo,hi,h=>fun x hx=>by have:=h x hx;simp;exact this
 | r :: T,L,lo,hi,h=>fun x hx=>by
  have:=jiF T (jfQ r.data.toList L) lo (hi+1) (fun y hy=>by
   obtain⟨z,hz,rfl⟩:=List.mem_map.1 hy
   have:=h z hz
   split
   ·simp only[putF,if_true];omega
   ·omega) x hx
  rw[List.length_cons];omega
def kvR(x:Nd5):Nat × vB × List vB:=(x.2.1,x.2.2.text,x.2.2.refs)
def Like(W:World)(bg:Nat)(G:List Nd5):Prop:=∃ G',jc9 W bg G'/\∀ k,(atL G' k).map kvR=(atL G k).map kvR
theorem jsk(f c:Nat)(v:Int)(L:List Nd5)(k:Key):atL (L.map (setB f c v)) k=(atL L k).map (setB f c v):=by
 unfold atL;rw[List.find?_map]
 congr 1
 refine congrFun (congrArg _ (funext fun x=>?_)) L;simp only[Function.comp,setB];split <;> rfl
theorem jtc(f c:Nat)(v:Int)(x:Nd5):kvR (setB f c v x)=kvR x:=by
 unfold setB kvR putF
 by_cases e:x.2.1=c
 ·rw[if_pos e]
  by_cases e2:f=2
  ·rw[if_pos e2]
  ·rw[if_neg e2]
 ·rw[if_neg e]
theorem Like.setF{W:World}{bg:Nat}{G:List Nd5}(h:Like W bg G){c:Nat}{it:It}(hc:jeA W c it){f:Nat}(hf:f=2\/f=3)(v:Int):Like (W.setCell ⟨c,f,none⟩ (.int .i64 v)) bg G:=by
 obtain⟨G',h1,h2⟩:=h
 refine⟨_,h1.setF hc hf v,fun k=>?_⟩
 rw[jsk,Option.map_map, <-h2 k]
 congr 1
 funext x
 exact jtc f c v x
theorem jrK{W:World}{bm:Nat}{L:List Nd5}(h:jc9 W bm L){k:Key}{y:Nd5}(hy:atL L k=some y):L.map (setB 2 y.2.1 (y.2.2.used+1))=jfQ k L:=by
 obtain⟨es,ck,_,h2⟩:=h.mp
 have hk:=h2.keys;rw[List.map_map]at hk;have hk:(L.map (·.1)).Nodup:=hk;unfold jfQ;refine List.map_congr_left (fun x hx=>?_);unfold setB
 by_cases e:x.2.1=y.2.1
 ·have:x=y:=jbD h.blks hx (ja6 hy).1 e
  subst this;rw[if_pos rfl,if_pos (ja6 hy).2]
 ·rw[if_neg e,if_neg]
  intro e2
  have:x=y:=jbD hk hx (ja6 hy).1 (e2.trans (ja6 hy).2.symm)
  subst this;exact e rfl
structure Ad2(w5:World)(s bm bg:Nat)(room:Int)(S1 G:List Nd5)(F:List vB)(v:Value)(T:List vB)(W:World):Prop where
 kp:jae (fun z=>z∈S1.map (·.2.1)) w5 W
 st:jaT W s bm room (jen T S1)
 gv:Like W bg G
 row:W.ownsRow 0 9 1 v F.length (F.map Value.string)
theorem Ad2.bump{w5:World}{s bm bg:Nat}{room:Int}{S1 G:List Nd5}{F:List vB}{v:Value}{T:List vB}{W:World}(h:Ad2 w5 s bm bg room S1 G F v T W)
  (hu:∀ x∈S1,0<=x.2.2.used/\x.2.2.used<=1000000000) (hT:T.length<=1000000) (r:vB) (hr:(atL S1 r.data.toList).isSome=true) :
  ∃ (zb:Nat) (u:Int),(Instr.lookup 115 (.map (some bm)) (.string r) false).run Tryz.prog W=.ok (.pointer (some ⟨zb,0,none⟩)) W/\W.cell? ⟨zb,2,none⟩=some (.int .i64 u)/\W.frozen? ⟨zb,2,none⟩=false/\0<=u/\u<=2000000000 /\
   Ad2 w5 s bm bg room S1 G F v (T++[r]) (W.setCell ⟨zb,2,none⟩ (.int .i64 (u+1)))/\∀ rv n xs,W.ownsRow 0 9 1 rv n xs->(W.setCell ⟨zb,2,none⟩ (.int .i64 (u+1))).ownsRow 0 9 1 rv n xs:=by
 have hs:(atL (jen T S1) r.data.toList).isSome=true:=by rw[jmS (jgq T S1)];exact hr
 obtain⟨y,hy⟩:=Option.isSome_iff_exists.1 hs
 have hym:=(ja6 hy).1;have hi:=h.st.mp.items y hym
 obtain⟨rv,hb,hrw⟩:=hi.cells
 have hlk:=h.st.mp.look r false;rw[hy]at hlk;simp only[Bool.false_eq_true,if_false]at hlk;have hK:jae (fun z=>z=y.2.1) W (W.setCell ⟨y.2.1,2,none⟩ (.int .i64 (y.2.2.used+1))):=jae.oneSet W ⟨y.2.1,2,none⟩ _;have hN:jis W (fun z=>z=y.2.1):=fun z cur fz e hz=>by
  have e:z=y.2.1:=e;subst e
  have:=hb.uniq hz;injection this with _ h2;exact absurd h2 vI
 have hyb:y.2.1∈S1.map (·.2.1):=by rw[<-jgp T S1];exact List.mem_map.2 ⟨y,hym,rfl⟩
 have hub:=jiF T S1 0 1000000000 hu y hym
 refine⟨y.2.1,y.2.2.used,hlk,hb.cell (i:=2) vF,hb.frozen,hub.1,by omega,⟨h.kp.trans (hK.mono (fun z _ e=>by have e:z=_:=e;rw[e];exact hyb)),⟨h.st.st.keeps hK (fun e=>?_),?_⟩,h.gv.setF hi (.inl rfl) _,jgb h.row hK hN⟩,fun rv n xs hx=>jgb hx hK hN⟩
 ·have e:s=y.2.1:=e
  rw[e]at h
  have:=hb.uniq h.st.st;injection this with _ h2;exact absurd h2 vI
 ·rw[joi, <-jrK h.st.mp hy]
  exact h.st.mp.setF hi (.inl rfl) _
def jjm(k:Key)(L:List Nd5):List Nd5:=L.map fun x=>if x.1=k then (x.1,x.2.1,putF 3 (x.2.2.held+1) x.2.2)else x
theorem jo2{W:World}{bm:Nat}{L:List Nd5}(h:jc9 W bm L){k:Key}{y:Nd5}(hy:atL L k=some y):L.map (setB 3 y.2.1 (y.2.2.held+1))=jjm k L:=by
 obtain⟨es,ck,_,h2⟩:=h.mp
 have hk:=h2.keys;rw[List.map_map]at hk;have hk:(L.map (·.1)).Nodup:=hk;unfold jjm;refine List.map_congr_left (fun x hx=>?_);unfold setB
 by_cases e:x.2.1=y.2.1
 ·have:x=y:=jbD h.blks hx (ja6 hy).1 e
  subst this;rw[if_pos rfl,if_pos (ja6 hy).2]
 ·rw[if_neg e,if_neg]
  intro e2
  have:x=y:=jbD hk hx (ja6 hy).1 (e2.trans (ja6 hy).2.symm)
  subst this;exact e rfl
theorem jiE:∀ (T:List vB) (L:List Nd5) (lo hi:Int),(∀ x∈L,lo<=x.2.2.held/\x.2.2.held<=hi)->∀ x∈jen T L,lo<=x.2.2.held/\x.2.2.held<=hi
 | [],L,lo,hi,h=>fun x hx=>h x hx
 | r :: T,L,lo,hi,h=>fun x hx=>by
  refine jiE T (jfQ r.data.toList L) lo hi (fun y hy=>?_) x hx
  obtain⟨z,hz,rfl⟩:=List.mem_map.1 hy
  have:=h z hz
  split
  ·simp only[putF,if_true];exact this
  ·exact this
theorem Ad2.hold{w5:World}{s bm bg:Nat}{room:Int}{S1 G:List Nd5}{F:List vB}{v:Value}{T:List vB}{W:World}(h:Ad2 w5 s bm bg room S1 G F v T W)
  (hu:∀ x∈S1,0<=x.2.2.held/\x.2.2.held<=1000000000) (r:vB) (hr:(atL S1 r.data.toList).isSome=true) :
  ∃ (zb:Nat) (u:Int),(Instr.lookup 115 (.map (some bm)) (.string r) false).run Tryz.prog W=.ok (.pointer (some ⟨zb,0,none⟩)) W/\W.cell? ⟨zb,3,none⟩=some (.int .i64 u)/\W.frozen? ⟨zb,3,none⟩=false/\0<=u/\u<=1000000000 /\
   jaT (W.setCell ⟨zb,3,none⟩ (.int .i64 (u+1))) s bm room (jjm r.data.toList (jen T S1))/\jae (fun z=>z∈S1.map (·.2.1)) w5 (W.setCell ⟨zb,3,none⟩ (.int .i64 (u+1))):=by
 have hs:(atL (jen T S1) r.data.toList).isSome=true:=by rw[jmS (jgq T S1)];exact hr
 obtain⟨y,hy⟩:=Option.isSome_iff_exists.1 hs
 have hym:=(ja6 hy).1;have hi:=h.st.mp.items y hym
 obtain⟨rv,hb,hrw⟩:=hi.cells
 have hlk:=h.st.mp.look r false;rw[hy]at hlk;simp only[Bool.false_eq_true,if_false]at hlk;have hK:jae (fun z=>z=y.2.1) W (W.setCell ⟨y.2.1,3,none⟩ (.int .i64 (y.2.2.held+1))):=jae.oneSet W ⟨y.2.1,3,none⟩ _;have hyb:y.2.1∈S1.map (·.2.1):=by rw[<-jgp T S1];exact List.mem_map.2 ⟨y,hym,rfl⟩
 have hub:=jiE T S1 0 1000000000 hu y hym
 refine⟨y.2.1,y.2.2.held,hlk,hb.cell (i:=3) vF,hb.frozen,hub.1,hub.2,⟨h.st.st.keeps hK (fun e=>?_),?_⟩,h.kp.trans (hK.mono (fun z _ e=>by have e:z=_:=e;rw[e];exact hyb))⟩
 ·have e:s=y.2.1:=e
  rw[e]at h
  have:=hb.uniq h.st.st;injection this with _ h2;exact absurd h2 vI
 ·rw[<-jo2 h.st.mp hy]
  exact h.st.mp.setF hi (.inr rfl) _
def jcN(G:List Nd5)(F:List vB):List Nd5:=F.filterMap fun x=>atL G x.data.toList
theorem joO{G:List Nd5}{F:List vB}{i:Nat}{x:vB}{y:Nd5}(hx:F[i]?=some x)(hy:atL G x.data.toList=some y):jcN G (F.take (i+1))=jcN G (F.take i)++[y]:=by
 unfold jcN;rw[List.take_add_one,hx,List.filterMap_append];simp[hy]
theorem jbW{G:List Nd5}{F:List vB}{y:Nd5}(h:y∈jcN G F):y∈G/\∃ x∈F,y.1=x.data.toList:=by
 obtain⟨x,hx,e⟩:=List.mem_filterMap.1 h
 exact⟨(ja6 e).1,x,hx,(ja6 e).2⟩
theorem juX{A B:List Nd5}{k:Key}(h:∀ x∈B,k≠x.1):atL (A++B) k=atL A k:=by
 unfold atL;rw[List.find?_append]
 have:B.find? (fun x=>decide (k=x.1))=none:=by rw[List.find?_eq_none];simpa using h
 rw[this];simp
theorem jc9.notRow{W:World}{bm:Nat}{L:List Nd5}(h:jc9 W bm L):jis W (fun z=>z=bm):=fun z cur fz e hz=>by
 obtain⟨es,ck,h1,_⟩:=h.mp
 have e:z=bm:=e;subst e
 have:=h1.uniq hz;cases this
structure Ad1(w4:World)(s bm bg:Nat)(room:Int)(S G:List Nd5)(F:List vB)(v:Value)(i:Nat)(W:World):Prop where
 kp:jae (fun z=>z=bm) w4 W
 st:jaT W s bm room (S++jcN G (F.take i))
 gv:jc9 W bg G
 row:W.ownsRow 0 9 1 v F.length (F.map Value.string)
theorem Ad1.ext{w4:World}{s bm bg:Nat}{room:Int}{S G:List Nd5}{F:List vB}{v:Value}{i:Nat}{W W':World}(h:Ad1 w4 s bm bg room S G F v i W)(e:Ext W W'):Ad1 w4 s bm bg room S G F v i W':=
 ⟨h.kp.trans (e.mono (fun _ _ g=>g.elim)),h.st.ext e,h.gv.ext e,jbe h.row e⟩
theorem Ad1.put{w4:World}{s bm bg:Nat}{room:Int}{S G:List Nd5}{F:List vB}{v:Value}{i:Nat}{W:World}(h:Ad1 w4 s bm bg room S G F v i W)
  (hSG:∀ x∈S,∀ y∈G,x.2.1≠y.2.1) (hbg:bg≠bm) (hv:∀ z,v.ownBlock=some z->z≠bm) (hnd:F.Nodup) (hFS:∀ x∈F,atL S x.data.toList=none)
  {x:vB} {y:Nd5} (hx:F[i]?=some x) (hy:atL G x.data.toList=some y) :
  ∃ o,(Instr.mapUpdate 115 (.map (some bm)) (.string x) (.pointer (some ⟨y.2.1,0,none⟩))).run Tryz.prog W=.ok () (W.putObj bm o)/\Ad1 w4 s bm bg room S G F v (i+1) (W.putObj bm o):=by
 have hk:∀ z∈jcN G (F.take i),x.data.toList≠z.1:=fun z hz e=>by
  obtain⟨_,x',hx',e'⟩:=jbW hz
  have:=jl1 (e.trans e')
  subst this;exact joM hnd hx hx'
 have hn:atL (S++jcN G (F.take i)) x.data.toList=none:=by rw[juX hk];exact hFS x (List.mem_of_getElem? hx)
 have hym:=(ja6 hy).1;have hy1:=(ja6 hy).2;have hblk:∀ z∈S++jcN G (F.take i),z.2.1≠y.2.1:=fun z hz e=>by
  rcases List.mem_append.1 hz with hz | hz
  ·exact hSG z hz y hym e
  ·have:=jbD h.gv.blks (jbW hz).1 hym e
   subst this;exact hk z hz hy1.symm
 obtain⟨o,hmu,hA⟩:=h.st.mp.put x hn (h.gv.items y hym) hblk
 have hK:jae (fun z=>z=bm) W (W.putObj bm o):=jae.onePut W bm o;have hN:=h.st.mp.notRow;have hie:∀ {c:Nat} {it:It},jeA W c it->¬ c=bm:=fun hi e=>by
  obtain⟨_,hc,_⟩:=hi.cells
  obtain⟨es,ck,h1,_⟩:=h.st.mp.mp
  subst e
  have:=h1.uniq hc;cases this
 refine⟨o,hmu,h.kp.trans hK,⟨h.st.st.keeps hK (fun e=>?_),?_⟩,h.gv.keeps hK hbg (fun z hz=>hie (h.gv.items z hz)) hN,jaW h.row hK (fun z hz e=>hv z hz e)⟩
 ·have e:s=bm:=e
  obtain⟨es,ck,h1,_⟩:=h.st.mp.mp
  subst e
  have:=h1.uniq h.st.st;cases this
 ·rw[joO hx hy, <-List.append_assoc]
  have e:(x.data.toList,y.2.1,y.2.2)=y:=by rw[<-hy1]
  rw[e]at hA;exact hA
theorem jwW(A B:List Nd5)(k:Key):(atL (A++B) k).isSome=((atL A k).isSome ||(atL B k).isSome):=by
 unfold atL;rw[List.find?_append,Option.isSome_or]
def AdR2(w5:World)(s bm bg:Nat)(room:Int)(S1 G:List Nd5)(F:List vB)(v iv:Value)(W:World):Prop:=∃ i:Nat,i<=F.length/\iv=.int .i64 i/\Ad2 w5 s bm bg room S1 G F v ((F.take i).flatMap (jb3 G)) W
def AdR3(w5:World)(s bm bg:Nat)(room:Int)(S1 G:List Nd5)(F:List vB)(v:Value)(T R:List vB)(rv jv:Value)(W:World):Prop:=∃ j:Nat,j<=R.length/\jv=.int .i64 j/\Ad2 w5 s bm bg room S1 G F v (T++R.take j) W/\W.ownsRow 0 9 1 rv R.length (R.map Value.string)
def AdR1(w4:World)(s bm bg:Nat)(room:Int)(S G:List Nd5)(F:List vB)(v iv:Value)(W:World):Prop:=∃ i:Nat,i<=F.length/\iv=.int .i64 i/\Ad1 w4 s bm bg room S G F v i W
def InjL(l:List vB):Prop:=∀ x∈l,∀ y∈l,shaB x=shaB y->x=y
theorem InjL.step{L:List vB}{i:Nat}{t:vB}(h:InjL (L.take i))(ht:L[i]?=some t)(hs:∀ x∈L.take i,shaB x=shaB t->x=t):InjL (L.take (i+1)):=by
 intro x hx y hy e;rw[List.take_add_one,ht]at hx hy;rcases List.mem_append.1 hx with h1 | h1 <;> rcases List.mem_append.1 hy with h2 | h2
 ·exact h x h1 y h2 e
 ·simp at h2;subst h2;exact hs x h1 e
 ·simp at h1;subst h1;exact (hs y h2 e.symm).symm
 ·simp at h1 h2;rw[h1,h2]
def ApR1(w:World)(L:List vB)(hv iv:Value)(W:World):Prop:=∃ i:Nat,i<=L.length/\iv=.int .i64 i/\SRow w W hv i ((L.take i).map shaB)/\InjL (L.take i)
def ApR2(w4:World)(L:List vB)(t:vB)(i:Nat)(kv:Value)(W:World):Prop:=∃ k:Nat,k<=i/\kv=.int .i64 k/\Ext w4 W/\∀ x∈L.take k,shaB x=shaB t->x=t
def ApP(L:List vB)(w:World)(e:Ending)(w':World):Prop:=∃ b,e=.returned (.bool b)/\(b=true↔InjL L)/\Ext w w'
theorem jpu(w:World)(hc:jb2 w)(v:Value)(L:List vB)(hv:RdS w v L)(hl:L.length<=1000000):vQ 31 #[v] w (ApP L w):=by
 obtain⟨a,c,rfl,_⟩:=hv.slice
 have HV:=Hd hv;have HC:=Hd hc;clear hv hc;go_enter Tryz.func31,Tryz.ntmps31;go_wp2_with fail
 go_loopw [3,4] (fun hv iv wr=>ApR1 w L hv iv wr) (fun _ iv _=>L.length - (intOf iv).toNat)
 case atStart=>exact⟨0,Nat.zero_le _,rfl,ORow.nil _ _ (ExtR w),fun x hx=>by cases hx⟩
 case round =>
  obtain⟨i,hi,rfl,hR,hI⟩:=hrel
  obtain⟨ah,ch,rfl⟩:=hR.sl
  have HR:=Hd hR;have HI:=Hd hI;clear hR hI
  by_cases hlt:i < L.length
  ·have b1:(i:Int) < (L.length:Int):=by omega
   obtain⟨t,ht⟩:∃ t,L[i]?=some t:=⟨_,List.getElem?_eq_getElem hlt⟩
   obtain⟨ax,cx,hh,hcell⟩:=HV.o.slice
   obtain⟨ba,oa,hao,hqa⟩:=hcell i t ht
   subst hao;cases hh;have q1:=jaa hqa HR.o.ext;have HT:=Hd ht;have HQT:=Hd hqa;have HCL:=Hd (show ∀ (j:Nat) x,L[j]?=some x->w.cell? ⟨ba,oa+j,none⟩=some (.string x)from fun j x hx=>by
    obtain⟨b',o',e,h⟩:=hcell j x hx
    cases e;exact h)
   clear hcell hqa ht;go_wp2_with fail
   refine vC (of_t _ _ [t] (by simp) (jdb wr [t] 9) (HC.o.ext (HR.o.ext.alloc _))) fun w4 hE=>?_;rw[jdE];have hx4:=((ExtR wr).alloc (.cells #[.string t] 9)).trans hE;have HR4:=Hd (HR.o.mono hx4);have HX4:=Hd (HR.o.ext.trans hx4)
   obtain⟨sh,hsh⟩:=vE (shaB t)
   have HSH:=Hd hsh;rw[<-hsh];clear hE hx4 hsh q1 HR;go_wp2_with fail
   go_loopw [6] (fun kv wr2=>ApR2 w4 L t i kv wr2) (fun kv _=>i - (intOf kv).toNat)
   case atStart=>exact⟨0,Nat.zero_le _,rfl,ExtR w4,fun x hx=>by cases hx⟩
   case round =>
    obtain⟨k,hk,rfl,hE,hs⟩:=hrel
    have HE:=Hd hE;have HS:=Hd hs;clear hE hs
    by_cases hlt2:k < i
    ·have b2:(k:Int) < (i:Int):=by omega
     have b3:(k:Int) < (L.length:Int):=by omega
     obtain⟨x,hx⟩:∃ x,L[k]?=some x:=⟨_,List.getElem?_eq_getElem vO⟩
     have hxm:((L.take i).map shaB)[k]?=some (shaB x):=by rw[List.getElem?_map,List.getElem?_take,if_pos hlt2,hx];rfl
     have hrd:=jiZ HR4.o.own;have hq2:∃ bh oh,ah=some ⟨bh,oh,none⟩/\w4.cell? ⟨bh,oh+k,none⟩=some (.string (shaB x)):=by
      rcases hrd with⟨_,_,_,h0⟩ |⟨bq,oq,cq,hh,_,_,hcell⟩
      ·rw[h0]at hxm;cases hxm
      ·exact⟨bq,oq,(Value.slice.inj hh).1,hcell k _ hxm⟩
     obtain⟨bh,oh,rfl,hq2⟩:=hq2
     obtain⟨sx,hsx⟩:=vE (shaB x)
     rw[<-hsx]at hq2;have HSX:=Hd hsx;have Q1:=Hd (jaa hq2 HE.o);have Q2:=Hd (jaa (HCL.o k x hx) (HX4.o.trans HE.o));have Q3:=Hd (jaa HQT.o (HX4.o.trans HE.o));have HX:=Hd hx;clear hx hxm hrd hq2 hsx;go_wp2_with fail
     refine jai [0,1,2,3,4,5,6,7,8,9,10,11,12,13,14,15,16] Ext ExtR ExtT vY vY vY ?_;iterate 3 refine vK ?_
     refine qKL ⟨bh,oh+k,none⟩ _ rfl (fun w1 h1=>jab Tryz.underlying9 rfl (jaa Q1.o ((jaj _).trans h1))) ?_;refine vS ?_;iterate 3 refine vK ?_
     cases hq:(sx.toList == sh.toList)with
     | false =>
      have HN:=Hd (show shaB x=shaB t->x=t from fun e=>by
       rw[<-HSX.o, <-HSH.o]at e;rw[e]at hq;simp at hq)
      clear hq;iterate 9 (refine qKS _ rfl ?_;refine vS ?_)
      refine vK ?_
      refine qKE (fun w5 he=>?_);have HE5:=Hd (HE.o.trans ((jaj _).trans he));have HS5:=Hd (show ∀ z∈L.take (k+1),shaB z=shaB t->z=t from fun z hz e=>by
       rw[List.take_add_one,HX.o]at hz;rcases List.mem_append.1 hz with h1 | h1
       ·exact HS.o z h1 e
       ·simp at h1;subst h1;exact HN.o e)
      clear he Q1 Q2 Q3 HE HS;go_wp2_with fail
      go_roundw
      case rel=>exact⟨k+1,by omega,by go_num,HE5.o,HS5.o⟩
      case measure=>simp[intOf];omega
     | true =>
      have HSQ:=Hd (show shaB x=shaB t by rw[<-HSX.o, <-HSH.o];exact jdq (by simpa using hq));clear hq;iterate 3 refine vK ?_
      refine qKL ⟨ba,oa+k,none⟩ _ rfl (fun w1 h1=>jab Tryz.underlying9 rfl (jaa Q2.o ((jaj _).trans h1))) ?_;refine vS ?_;iterate 3 refine vK ?_
      refine qKL ⟨ba,oa+i,none⟩ _ rfl (fun w1 h1=>jab Tryz.underlying9 rfl (jaa Q3.o ((jaj _).trans h1))) ?_;refine vS ?_
      refine vK ?_
      cases hq2:(x.toList == t.toList)with
      | true =>
       have HN:Hid (x=t):=(jdq (by simpa using hq2));have hb:(!true)=false:=rfl;clear hq2;rw[hb]
       refine vK ?_
       refine qKE (fun w5 he=>?_);have HE5:=Hd (HE.o.trans ((jaj _).trans he));have HS5:=Hd (show ∀ z∈L.take (k+1),shaB z=shaB t->z=t from fun z hz e=>by
        rw[List.take_add_one,HX.o]at hz;rcases List.mem_append.1 hz with h1 | h1
        ·exact HS.o z h1 e
        ·simp at h1;subst h1;exact HN.o)
       clear he Q1 Q2 Q3 HE HS hb;go_wp2_with fail
       go_roundw
       case rel=>exact⟨k+1,by omega,by go_num,HE5.o,HS5.o⟩
       case measure=>simp[intOf];omega
      | false =>
       have hb:(!false)=true:=rfl;have HNE:=Hd (show ¬ InjL L from fun h=>by
        have:=h x (List.mem_of_getElem? HX.o) t (List.mem_of_getElem? HT.o) HSQ.o
        rw[this]at hq2;simp at hq2)
       clear hq2;rw[hb]
       refine vK ?_
       refine qKE (fun w5 he=>?_);have HE5:=Hd (HE.o.trans ((jaj _).trans he));clear he Q1 Q2 Q3 HE HS hb;go_wp2_with fail
       go_ret
       exact⟨false,rfl,⟨fun e=>(by cases e),fun h=>absurd h HNE.o⟩,HX4.o.trans HE5.o⟩
    ·have hki:k=i:=by omega
     subst hki;have HIS:=Hd (HI.o.step HT.o HS.o);have HRR:=Hd (HR4.o.mono HE.o);have HMS:=Hd (show (L.take (k+1)).map shaB=(L.take k).map shaB++[sh] by rw[List.take_add_one,HT.o,List.map_append,HSH.o];rfl);have hm1:k+1<=maxLen:=by unfold maxLen;omega
     have hm2:(k+1) * 16<=140737488355328:=by omega
     clear HS HI HE HR4;go_wp2_with (at_builtin;refine jba Tryz.sStrs (HRR.o.mono ((ExtR wr).alloc _)) (.tmp 41) (.tmp 43) rfl rfl rfl (jaS (Blk.new wr _)) (news:=[.string sh]) (by intro u hu;simp at hu;rcases hu with rfl;rfl) rfl rfl hm1 hm2 ?_;intro v' w' r1 r2 r3)
     have r1':SRow w w' v' (k+1) ((L.take (k+1)).map shaB):=by unfold SRow;rw[HMS.o,List.map_append];exact r1
     obtain⟨ah',ch',rfl⟩:=r1'.sl
     have HR9:=Hd r1';clear r1 r2 r3 r1';go_wp2_with fail
     go_roundw
     case rel=>exact⟨k+1,by omega,by go_num,HR9.o,HIS.o⟩
     case measure=>simp[intOf];omega
  ·have hie:i=L.length:=by omega
   have HIL:=Hd (show InjL L by have:=HI.o;rwa [hie,List.take_length]at this);clear HI;go_wp2_with fail
   go_ret
   exact⟨true,rfl,⟨fun _=>HIL.o,fun _=>rfl⟩,HR.o.ext⟩
end
def cK(T:List vB)(k:Key):Nat:=(T.map (·.data.toList)).count k
theorem jw2(A B:List vB)(k:Key):cK (A++B) k=cK A k+cK B k:=by unfold cK;rw[List.map_append,List.count_append]
theorem jjn(r:vB)(B:List vB)(k:Key):cK (r :: B) k=cK B k+(if k=r.data.toList then 1 else 0):=by
 unfold cK;rw[List.map_cons,List.count_cons]
 by_cases h:k=r.data.toList
 ·rw[if_pos h,h];simp
 ·rw[if_neg h,if_neg];simpa using fun e=>h e.symm
theorem ju4{T:List vB}{k:Key}(h:∀ r∈T,r.data.toList≠k):cK T k=0:=by
 unfold cK;rw[List.count_eq_zero];intro hm
 obtain⟨r,hr,e⟩:=List.mem_map.1 hm
 exact h r hr e
theorem juk{T:List vB}{r:vB}(h:r∈T):1<=cK T r.data.toList:=by
 unfold cK;exact List.count_pos_iff.2 (List.mem_map.2 ⟨r,h,rfl⟩)
def addU(n:Nat)(x:Nd5):Nd5:=(x.1,x.2.1,⟨x.2.2.text,x.2.2.refs,x.2.2.used+n,x.2.2.held⟩)
def addH(n:Nat)(x:Nd5):Nd5:=(x.1,x.2.1,⟨x.2.2.text,x.2.2.refs,x.2.2.used,x.2.2.held+n⟩)
theorem jmY:∀ (T:List vB) (L:List Nd5),jen T L=L.map fun x=>addU (cK T x.1) x
 | [],L=>by
  show L=_
  have:(fun x:Nd5=>addU (cK [] x.1) x)=id:=by
   funext x
   obtain⟨a,b,⟨t,r,u,h⟩⟩:=x
   unfold addU cK;simp
  rw[this,List.map_id]
 | r :: T,L=>by
  show jen T (jfQ r.data.toList L)=_;rw[jmY T,jfQ,List.map_map];refine List.map_congr_left fun x _=>?_;show addU (cK T (if x.1=r.data.toList then (x.1,x.2.1,putF 2 (x.2.2.used+1) x.2.2)else x).1) (if x.1=r.data.toList then (x.1,x.2.1,putF 2 (x.2.2.used+1) x.2.2)else x)=_;rw[jjn]
  by_cases h:x.1=r.data.toList
  ·simp only[if_pos h]
   unfold addU putF;simp only[if_true];rw[show x.2.2.used+1+((cK T x.1:Nat):Int)=x.2.2.used+((cK T x.1+1:Nat):Int) by omega]
  ·simp only[if_neg h,Nat.add_zero]
theorem jsx(r:vB)(L:List Nd5):jjm r.data.toList L=L.map fun x=>addH (cK [r] x.1) x:=by
 unfold jjm;refine List.map_congr_left fun x _=>?_;rw[jjn]
 by_cases h:x.1=r.data.toList
 ·rw[if_pos h,if_pos h];rfl
 ·rw[if_neg h,if_neg h]
  obtain⟨a,b,⟨t,r,u,h⟩⟩:=x
  unfold addH cK;simp
def jky(T:List vB)(r:vB)(x:Nd5):Nd5:=addH (cK [r] x.1) (addU (cK T x.1) x)
theorem ju2(T:List vB)(r:vB)(L:List Nd5):jjm r.data.toList (jen T L)=L.map (jky T r):=by
 rw[jsx,jmY,List.map_map];rfl
theorem jpD(T:List vB)(r:vB)(L:List Nd5):(L.map (jky T r)).map (·.1)=L.map (·.1):=by
 rw[List.map_map];rfl
theorem jpE(T:List vB)(r:vB)(L:List Nd5):(L.map (jky T r)).flatMap (fun y=>y.2.2.refs)=L.flatMap (fun y=>y.2.2.refs):=by
 rw[List.flatMap_map];rfl
theorem ji2(G:List Nd5):∀ F:List vB,F.flatMap (jb3 G)=(jcN G F).flatMap (fun y=>y.2.2.refs)
 | []=>rfl
 | x :: F=>by
  have ih:=ji2 G F;unfold jcN at *;rw[List.flatMap_cons,List.filterMap_cons];cases h:atL G x.data.toList with
  | none=>rw[ih];unfold jb3;rw[h];rfl
  | some y=>rw[ih,jfk h,List.flatMap_cons]
theorem jes{S:List Nd5}{k:Key}:(atL S k).isSome=true↔k∈S.map (·.1):=by
 constructor
 ·intro h
  obtain⟨y,hy⟩:=Option.isSome_iff_exists.1 h
  exact List.mem_map.2 ⟨y,(ja6 hy).1,(ja6 hy).2⟩
 ·intro h
  obtain⟨y,hy,e⟩:=List.mem_map.1 h
  cases ha:atL S k with
  | some z=>rfl
  | none=>exact absurd e.symm (jjh.1 ha y hy)
def jyv(L:List vB)(top:vB):Prop:=∀ P:vB->Prop,(∀ t∈L,P (shaB t)->∀ h∈jaU (nodeOf t),P h)->P (shaB top)->∀ t∈L,P (shaB t)
theorem jxu{U:List vB}(hU:InjL U){s t:vB}(hs:s∈U)(ht:t∈U)(h:ky s=ky t):s=t:=hU s hs t ht (jl1 h)
def addS(S G:List Nd5)(M:List vB)(top:vB):List Nd5:=jjm (shaB top).data.toList (jen ((frK S M).flatMap (jb3 G)) (S++jcN G (frK S M)))
theorem jda(S G:List Nd5)(M:List vB)(top:vB):addS S G M top=(S++jcN G (frK S M)).map (jky ((frK S M).flatMap (jb3 G)) (shaB top)):=ju2 _ _ _
theorem jyW(w:World)(P:vB->Prop):∀ (f:Nat) (l:List Pair),jaA f l->(∀ t∈jaF (jac (f+1) l),P (shaB t)->∀ h∈jaU (nodeOf t),P h)->P (shaB (jaN (jav (jac f) l)))->∀ t∈jaF (jac (f+1) l),P (shaB t):=by
 intro f;induction f with
 | zero =>
  intro l h _ h0 t ht;have e2:jaB (jac 0) l=[]:=by have:=jb1 h;unfold jaB;rw[if_pos vO]
  have eT:jaF (jac (0+1) l)=[jaN (jav (jac 0) l)]:=by
   show jaF (.mk (jaN (jav (jac 0) l)) (jaB (jac 0) l))=_;rw[jaF,e2];simp[jaM]
  rw[eT,List.mem_singleton]at ht;subst ht;exact h0
 | succ f ih =>
  intro l h hcl h0 t ht;have eT:jaF (jac (f+1+1) l)=jaN (jav (jac (f+1)) l) :: jaM (jaB (jac (f+1)) l):=by
   show jaF (.mk (jaN (jav (jac (f+1)) l)) (jaB (jac (f+1)) l))=_;rw[jaF]
  have hh:=jeR (f+1) l h;have hroot:jbK (jaN (jav (jac (f+1)) l)) (jav (jac (f+1)) l):=⟨rfl,f+1,(good (f+1) l h).1⟩;rw[eT]at ht;rcases List.mem_cons.1 ht with rfl | ht
  ·exact h0
  obtain⟨K,hK,ht⟩:=jbX.1 ht
  obtain⟨g,m,eg,e,h1,h32⟩:=jkw h hK
  obtain rfl:f=g:=by omega
  subst e;have hsub:∀ t∈jaF (jac (f+1) m),t∈jaF (jac (f+1+1) l):=fun t ht=>by
   rw[eT];exact List.mem_cons_of_mem _ (jbX.2 ⟨_,hK,ht⟩)
  refine ih m h1 (fun t ht=>hcl t (hsub t ht)) ?_ t ht;refine hcl _ (by rw[eT];exact List.mem_cons_self) h0 _ ?_;rw[jdm w (jb9 hroot) hroot,hh];exact List.mem_map.2 ⟨_,hK,rfl⟩
theorem jtM(w:World){l:List Pair}(h:jaG l=0):jyv (ja7 (jaF (jaL l))) (jaL l).text:=fun P h1 h2 t ht =>
 jyW w P 12 (jaO l) (jbA (jaP h)) (fun t ht=>h1 t ((ja9 _ _).2 ht)) h2 t ((ja9 _ _).1 ht)
theorem jo6(w:World){l:List Pair}(h:jaG l=0)(hl:(ja7 (jaF (jaL l))).length<=1000):jwM (ja7 (jaF (jaL l))):=
 ⟨fun t ht=>by obtain⟨n,h1,_⟩:=(jkb h).node t ht;exact⟨n,h1⟩,
  fun t ht x hx=>by
  obtain⟨n,h1,h2⟩:=(jkb h).node t ht
  rw[jdm w (jb9 h1) h1]at hx;exact h2 x hx,hl⟩
theorem jaT.nd{W:World}{s bm:Nat}{room:Int}{S:List Nd5}(h:jaT W s bm room S):(S.map (·.1)).Nodup:=by
 obtain⟨es,ck,_,hv⟩:=h.mp.mp
 have:=hv.keys
 rw[List.map_map]at this;exact this
section
attribute [local go_sem] Oper.semAt_some
def jbz(l:List Pair):List vB:=ja7 (jaF (jaL l))
theorem jef{l:List Pair}(h:jaG l=0):(jbz l).length<=121:=by
 have h1:=(jo7 h).1;have h2:=(jaP h).len;show (ja7 (jaF (jaL l))).length<=_;omega
def jww(l:List Pair)(w:World)(e:Ending)(w':World):Prop:=e=.returned (.tuple #[.pointer none,.string ⟨#[]⟩])/\Ext w w'/\¬(fewB l=true/\jaG l=0/\InjL (jbz l))
end
end Go.Proofs.YtcpnjmcipainpaaGreatDoor
