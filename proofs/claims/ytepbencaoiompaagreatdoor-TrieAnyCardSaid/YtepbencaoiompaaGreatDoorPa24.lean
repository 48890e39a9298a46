/- Lemmas; each is under no condition but those that it states. -/
import Derived.Test.YtepbencaoiompaaGreatDoorPa23
namespace Go.Proofs.YtepbencaoiompaaGreatDoor
set_option linter.unusedSimpArgs false
set_option linter.unusedVariables false
set_option maxRecDepth 100000
set_option maxHeartbeats 16000000
open Go Go.RowKit
section
attribute [local go_sem] Oper.semAt_some
def cutV(s p:vB):vV:=if preB p s then .tuple #[.string (s.extract p.size s.size),.bool true]else .tuple #[.string s,.bool false]
theorem jma(w:vW)(s p:vB)(hs:s.size<=1000000)(hp:p.size<=1000000):vQ 205 #[.string s,.string p] w fun e w'=>e=.returned (cutV s p)/\w'=w:=by
 unfold cutV;cases hb:preB p s with
 | true =>
  have z:=jlm hb;have A:(p.size:Int)<=(s.size:Int):=vO
  have q:=Hd hb;clear hb;go_enter Tryz.func205,Tryz.ntmps205;go_wp2_with fail
  refine (jln w s p hs hp).mono ?_;rintro e w1 ⟨rfl,rfl⟩;rw[q.o];go_wp2_with fail
  go_ret2
  exact⟨rfl,rfl⟩
 | false =>
  have q:=Hd hb;clear hb;go_enter Tryz.func205,Tryz.ntmps205;go_wp2_with fail
  refine (jln w s p hs hp).mono ?_;rintro e w1 ⟨rfl,rfl⟩;rw[q.o];go_wp2_with fail
  go_ret2
  exact⟨rfl,rfl⟩
theorem jiv(w:vW)(s p:vB)(hs:s.size<=1000000)(hp:p.size<=1000000):vQ 204 #[.string s,.string p] w fun e w'=>e=.returned (cutV s p)/\w'=w:=by
 have H:=Hd (jma w s p hs hp);unfold cutV at *;cases hb:preB p s with
 | true =>
  rw[hb,if_pos rfl]at H;rw[if_pos rfl];clear hb;go_enter Tryz.func204,Tryz.ntmps204;go_wp2_with fail
  refine H.o.mono ?_;rintro e w1 ⟨rfl,rfl⟩;go_wp2_with fail
  go_ret2
  exact⟨rfl,rfl⟩
 | false =>
  rw[hb,if_neg ff]at H;rw[if_neg ff];clear hb;go_enter Tryz.func204,Tryz.ntmps204;go_wp2_with fail
  refine H.o.mono ?_;rintro e w1 ⟨rfl,rfl⟩;go_wp2_with fail
  go_ret2
  exact⟨rfl,rfl⟩
def juI(P:PA):Prop:=∀ (W:vW) (T:TypeId) (x:vV) (D:Nat->Prop) (p:vB),PaO P (.iface T x) D W->p.size<=900000->jaC p=true->Dp P 900000 ->
 vQ (jfc P) #[x,.string p] W (PaTo D W (jbn P p))
theorem jwc(W:vW)(D:Nat->Prop)(p:vB):vQ 210 #[.agg #[],.string p] W (PaTo D W .no):=by
 go_enter Tryz.func210,Tryz.ntmps210;go_wp2_with fail
 go_ret;exact PaTo.mk1 rfl (((ExtR W).alloc _).mono (fun _ _ e=>e.elim))
theorem jyz(W:vW)(D:Nat->Prop)(q v p:vB)(b:Nat)(hB:Blk W b (.cells #[.string q,.string v] 205))(hD:D b):vQ 194 #[.pointer (some ⟨b,0,none⟩),.string p] W (PaTo D W (jbn (.leaf q v) p)):=by
 have H:=hB.cell (i:=0) (v:=.string q) vF;have A:=Hd hB;have E:=Hd hD;have z:jbn (.leaf q v) p=if p=q then .no else .leaf q v:=rfl
 rw[z];clear hB hD z
 by_cases hpq:p=q
 ·rw[if_pos hpq]
  have e:(p.toList == q.toList)=true:=by rw[jej];exact decide_eq_true hpq
  clear hpq;go_enter Tryz.func194,Tryz.ntmps194;go_wp2_with fail
  go_ret;exact PaTo.mk1 rfl (jag.refl _ W)
 ·rw[if_neg hpq]
  have e:(p.toList == q.toList)=false:=by rw[jej];exact decide_eq_false hpq
  clear hpq;go_enter Tryz.func194,Tryz.ntmps194;go_wp2_with fail
  go_ret;exact PaTo.mk1 ⟨b,rfl,.inl E.o,A.o⟩ (jag.refl _ W)
theorem jew:∀ (P:PA) (p:vB),(jbn P p).isNil=false
 | .nil,_=>rfl
 | .no,_=>rfl
 | .leaf q v,p=>by
  unfold jbn;split <;> rfl
 | .ext q n,p=>by
  unfold jbn;split
  ·exact jdS (jew n _)
  ·rfl
 | .br v ks,p=>by
  have o:∀ v ks,(jcF v ks).isNil=false:=by
   intro v ks;have z:∀ i∈idxK ks,(ks i).isNil=false:=fun i A=>by
    have:=(cN.1 A).2
    simpa using this
   unfold jcF;cases e:idxK ks with
   | nil =>
    show (if v.size=0 then PA.no else .leaf ⟨#[]⟩ v).isNil=false;split <;> rfl
   | cons i r =>
    cases r with
    | nil =>
     show (if v.size=0 then jbX ⟨#[UInt8.ofNat i]⟩ (ks i)else .br v ks).isNil=false;split
     ·exact jdS (z i (by rw[e];exact bD))
     ·rfl
    | cons j r=>rfl
  unfold jbn;split
  ·exact o _ _
  ·split
   ·rfl
   ·exact o _ _
theorem jvt(W:vW)(D:Nat->Prop)(q:vB)(n:PA)(T:TypeId)(x:vV)(Dn:Nat->Prop)(b:Nat)(hB:Blk W b (.cells #[.string q,.iface T x] 208))(hDb:D b)(hv:PaAt n (.iface T x) Dn W)(hbn:¬ Dn b)(hD:∀ x,Dn x->D x/\x < W.heap.size)(p:vB)(hp:jaC p=true)(hqs:q.size<=900000)(hps:p.size<=900000)(hf:preB q p=false):vQ 200 #[.pointer (some ⟨b,0,none⟩),.string p] W (PaTo D W (.ext q n)):=by
 have H:=hB.cell (i:=0) (v:=.string q) vF;have J:=hB.cell (i:=1) (v:=.iface T x) vF;have Q0:=Hd H;have Q1:=Hd J;have K:=Hd hB;have O:=Hd hv;have Q:Hid (∀ z,Dn z->D z/\z < W.heap.size):=hD;have E:=Hd (bB hDb hbn);have A:=jiv W p q vO vO;unfold cutV at A;rw[hf,if_neg ff]at A;have X:=Hd A;clear hB hDb hv hbn hD hp hf A;go_enter Tryz.func200,Tryz.ntmps200;go_wp2_with fail
 refine X.o.mono ?_;rintro e w1 ⟨rfl,rfl⟩;go_wp2_with fail
 go_ret;exact PaTo.mk1 ⟨b,T,x,Dn,rfl,.inl E.o.1,K.o,O.o,E.o.2,fun z Z=>.inl (Q.o z Z).1⟩ (jag.refl _ _)
theorem jvs(W:vW)(D:Nat->Prop)(q:vB)(n:PA)(T:TypeId)(x:vV)(Dn:Nat->Prop)(b:Nat)(hB:Blk W b (.cells #[.string q,.iface T x] 208))(hDb:D b)(hv:PaAt n (.iface T x) Dn W)(hbn:¬ Dn b)(hD:∀ x,Dn x->D x/\x < W.heap.size)(p:vB)(hp:jaC p=true)(hqs:q.size<=900000)(hps:p.size<=900000)(Q:Dp n 900000)(hk:juI n)(hf:preB q p=true) :
  vQ 200 #[.pointer (some ⟨b,0,none⟩),.string p] W (PaTo D W (jbX q (jbn n (p.extract q.size p.size)))):=by
 have q0:=hB.cell (i:=0) (v:=.string q) vF;have q1:=hB.cell (i:=1) (v:=.iface T x) vF;have Q0:=Hd q0;have Q1:=Hd q1;have HB:=Hd hB;have HV:=Hd hv;have HD:Hid (∀ z,Dn z->D z/\z < W.heap.size):=hD;have Z:=jiv W p q vO vO;unfold cutV at Z;rw[hf,if_pos rfl]at Z;have HC:=Hd Z;have a8:=hB.lt;have a4:=Hd (show ¬(Dn b\/W.heap.size<=b)from fun e=>e.elim hbn (fun e=>by omega));have a1:jaC (p.extract q.size p.size)=true:=jaW hp _ _;have a5:(p.extract q.size p.size).size<=900000:=by rw[jaV];omega
 have HM:=Hd hv.meth;have a0:=Hd (show ∀ J,Ext W J->vQ (jfc n) #[x,.string (p.extract q.size p.size)] J (PaTo Dn J (jbn n (p.extract q.size p.size)))from fun J e=>hk J T x Dn _ ⟨hv.keeps e _ _ _ (fun _ _ e=>e),fun z A=>bR (hD z A).2 e.size⟩ a5 a1 Q);have a9:Hid (Dp (jbn n (p.extract q.size p.size)) 1000000):=(jbO _ _ _ (jhk n 900000 _ Q) vO);clear hB hDb hv hbn hD hp Q hk hf a1 a5 Z a8;go_enter Tryz.func200,Tryz.ntmps200;go_wp2_with fail
 refine HC.o.mono ?_;rintro e Wk ⟨rfl,rfl⟩;go_wp2_with fail
 refine ja5 [0,1,2,3,4,5,6,7,8,9,10,11] [9,10] Ext (jag (fun z=>Dn z\/Wk.heap.size<=z)) ExtR ExtT (fun x y z h k=>jag.trans h k) (fun x y h=>h.mono (fun _ _ h=>h.elim)) vY vY vY ?_
 refine vD ?_
 refine qDV _ ((.pointer (some ⟨b,0,none⟩))) rfl (fun w1 _=>by kernel_rfl) ?_;refine vS ?_
 refine vD ?_
 refine qDL ⟨b,0,none⟩ _ rfl (fun w1 h1=>jaB (fun w=>by kernel_rfl) (jaF Q0.o (((jag.refl (fun z=>Dn z\/Wk.heap.size<=z) Wk).drew).trans h1) (by exact a4.o))) ?_;refine vS ?_
 refine vD ?_
 refine qDV _ ((.pointer (some ⟨b,0,none⟩))) rfl (fun w1 _=>by kernel_rfl) ?_;refine vS ?_
 refine vD ?_
 refine qDL ⟨b,1,none⟩ _ rfl (fun w1 h1=>jaB (fun w=>by kernel_rfl) (jaF Q1.o (((jag.refl (fun z=>Dn z\/Wk.heap.size<=z) Wk).drew).trans h1) (by exact a4.o))) ?_;refine vS ?_
 refine vD ?_
 refine qDH _ rfl (fun J hb K hK=>?_);have X:Ext Wk J:=((ExtR Wk).drew).trans hb;refine jbV (jcQ (f:=jfc n) (vs:=#[.string (p.extract q.size p.size)]) rfl (HM.o.drop _) (jex _) vY) ?_;refine (a0.o J X).mono ?_;rintro e w2 ⟨v2,rfl,O,E⟩
 refine⟨v2,rfl,hK _ _ (E.mono (fun z _ A=>.inl A)) ?_⟩
 have HS:=Hd (bB X (bB O E));clear hK K hb X O E;refine vS ?_;refine qDH _ rfl (fun wc hc K hK=>?_)
 obtain⟨X,O,E⟩:=HS.o
 have kc:jag Dn J wc:=E.trans (hc.mono (fun _ _ e=>e.elim));have a6:PaAt (jbn n (p.extract q.size p.size)) v2 (Grow Dn J wc) wc:=(O.keeps hc _ _ _ (fun _ _ e=>e)).mono (fun z A=>A.imp id (fun e=>⟨e.1,bR e.2 hc.size⟩));have a3:=PaTo.own a6 kc (fun z A=>bR (HD.o z A).2 X.size);refine jbV (jaG (vX 199) vY) ((pj_c wc _ q _ v2 a3 (jew _ _) vO a9.o).mono ?_);rintro e w5 ⟨v5,rfl,a2,H⟩
 refine⟨v5,rfl,hK _ _ (H.mono (fun _ _ e=>e.elim)) ?_⟩
 have HZ:=Hd (bB kc (bB a2 (bB H (jeW a3.lt H))));clear hK K hc X O E kc a6 a3 a2 H;refine vS ?_
 refine vD ?_
 refine jcA vY (fun wd Q=>?_);have HQ:=Hd Q;clear Q;go_wp2_with fail
 go_ret
 obtain⟨X,_,_⟩:=HS.o
 obtain⟨kc,a2,H,b0⟩:=HZ.o
 have Q:=HQ.o;refine PaTo.mk1 ((a2.keeps Q _ _ _ (fun _ _ e=>e)).mono (fun z A=>?_)) (((X.mono (fun _ _ e=>e.elim):jag D Wk J).trans (kc.mono (fun z _ A=>(HD.o z A).1))).trans ((H.trans Q).mono (fun _ _ e=>e.elim)));have a7:=bR (b0 z A) Q.size;rcases A with (A | A) | A
 ·exact .inl (HD.o z A).1
 ·exact .inr ⟨bH X.size A.1,a7⟩
 ·exact .inr ⟨bH (bH X.size kc.size) A.1,a7⟩
theorem Tryz.uKids:Tryz.prog.underlying 210=some (.array 16 69):=vY
theorem Tryz.iKids:(Tryz.prog.info? 210).map (·.size)=some 16:=vY
theorem Tryz.partOne:(Tryz.prog.info? 69).map (·.size)=some 1:=vY
theorem Tryz.partAgg(w:vW):(isAgg 69).run Tryz.prog w=.ok false w:=vY
def jqY(vk:Nat->vV):List vV:=(List.range 16).map vk
theorem jvU(vk:Nat->vV){i:Nat}(h:i < 16):(jqY vk)[i]?=some (vk i):=by
 unfold jqY;rw[cA,fB h];rfl
theorem jbf{W:vW}{b:Nat}{u:vB}{vk:Nat->vV}(hB:Blk W b (.cells (brC u vk).toArray 212)):(Instr.loadAt 210 (.pointer (some ⟨b,1,none⟩))).run Tryz.prog W=.ok (.agg (jqY vk).toArray) W:=by
 have e:W.rangeAt b 1 (jqY vk):=fun j v q=>hB.cellL (by rw[gO];exact q);have o:=run_loadVar_mid (P:=Tryz.prog) W b 1 210 _ _ e Tryz.uKids rfl (by unfold jqY;simp only[cB,gJ];exact Tryz.iKids);simp[Instr.loadAt,Instr.sureAddr,bS,Result.andThen,o]
theorem je6(vk:Nat->vV){i:Nat}(h:i < 16)(w:vW):(Instr.index 210 (.agg (jqY vk).toArray) (.int .i64 (i:Int))).run Tryz.prog w=.ok (vk i) w:=
 je5 Tryz.uKids Tryz.partOne Tryz.partAgg _ i h _ (jvU vk h) w
theorem jdL(T:TypeId)(x:vV)(w:vW):(binOp .neq 69 (.iface T x) .nilIface).run Tryz.prog w=.ok (.bool true) w:=vY
theorem jk8(w:vW):(binOp .neq 69 .nilIface .nilIface).run Tryz.prog w=.ok (.bool false) w:=vY
def idxN(ks:Nat->PA)(k:Nat):List Nat:=(List.range k).filter fun i => !(ks i).isNil
theorem jfp(ks:Nat->PA)(k:Nat):idxN ks (k+1)=idxN ks k++(if (ks k).isNil then []else [k]):=by
 unfold idxN;rw[gA,gT]
 congr 1
 cases h:(ks k).isNil <;> simp[h]
theorem PaAt.kid{P:PA}{v:vV}{D:Nat->Prop}{W:vW}(h:PaAt P v D W):(P.isNil=true/\v=.nilIface)\/(P.isNil=false/\∃ T x,v=.iface T x):=by
 cases hn:P.isNil with
 | true=>rw[jbw hn]at h;exact .inl ⟨rfl,h⟩
 | false=>exact .inr ⟨rfl,h.form hn⟩
def jrA(ks:Nat->PA)(W:vW)(cv ov iv:vV)(wr:vW):Prop:=∃ (k c o:Nat),k<=16/\iv=.int .i64 (k:Int)/\cv=.int .i64 (c:Int)/\ov=.int .i64 (o:Int)/\wr=W/\c=(idxN ks k).length/\o=(idxN ks k).getLast?.getD 0
theorem jq3(wr:vW)(D:Nat->Prop)(v:vB)(ks:Nat->PA)(b:Nat)(h:PaO (.br v ks) (brV b) D wr)(hi:idxK ks=[])(hv:v.size=0) :
  vQ 209 #[.pointer (some ⟨b,0,none⟩)] wr (PaTo D wr .no):=by
 obtain⟨vk,Dk,hb⟩:=h.br
 have E:=jbf hb.blk;have q0:=hb.blk.cellL (i:=0) (v:=.string v) vF;have H:=Hd hb;have a0:(⟨#[]⟩:vB).toList.isEmpty=true:=by rw[bN];rfl
 obtain⟨W,Z⟩:=vE wr
 have O:=ja1 hv;subst O;have HI:=Hd hi;clear h hb hi hv;rw[<-Z]at E q0 H ⊢;clear Z;go_enter Tryz.func209,Tryz.ntmps209;go_wp2_with (refine jaf 210 (.tmp 9) rfl rfl _ _ rfl E ?_)
 go_loopw [3,4,11] (fun cv ov Q wr=>jrA ks W cv ov Q wr) (fun _ _ Q _=>16 - (intOf Q).toNat)
 case atStart=>exact⟨0,0,0,by omega,rfl,rfl,rfl,rfl,rfl,rfl⟩
 case round =>
  obtain⟨k,c,o,hk,rfl,rfl,rfl,rfl,A,J⟩:=hrel
  by_cases hlt:k < 16
  ·have K:=je6 vk hlt
   have e:=jfp ks k;have a1:c<=16:=by rw[A];exact bH (fE _ _) (by rw[gJ];omega)
   have q:=Hd (bB A J);rcases (H.o.kid k hlt).1.kid with⟨hn,hv⟩ |⟨hn,T,x,hv⟩
   ·rw[hn,if_pos rfl,bU]at e
    rw[hv]at K;have z:=Hd e;clear e A J hn hv;go_wp2;go_roundw
    case rel=>exact⟨k+1,c,o,by omega,by go_num,rfl,rfl,rfl,by rw[z.o];exact q.o.1,by rw[z.o];exact q.o.2⟩
    case measure=>exact vJ
   ·rw[hn,if_neg ff]at e
    rw[hv]at K;have hq:=jdL T x;have z:=Hd e;clear e A J hn hv;go_wp2;go_roundw
    case rel=>exact⟨k+1,c+1,k,by omega,by go_num,by go_num,rfl,rfl,by rw[z.o,bF, <-q.o.1];rfl,by rw[z.o];simp⟩
    case measure=>exact vJ
  ·obtain rfl:k=16:=vO
   have q:=Hd (bB A J);clear A J;have X:c=0:=by rw[q.o.1];show (idxK ks).length=0;rw[HI.o];rfl
   subst X;go_wp2_with fail
   go_ret;exact PaTo.mk1 rfl (jag.refl _ _)
theorem jq2(wr:vW)(D:Nat->Prop)(v:vB)(ks:Nat->PA)(b:Nat)(h:PaO (.br v ks) (brV b) D wr)(hi:idxK ks=[])(hv:v.size≠0) :
  vQ 209 #[.pointer (some ⟨b,0,none⟩)] wr (PaTo D wr (.leaf ⟨#[]⟩ v)):=by
 obtain⟨vk,Dk,hb⟩:=h.br
 have J:=jbf hb.blk;have q0:=hb.blk.cellL (i:=0) (v:=.string v) vF;have H:=Hd hb;have a0:(⟨#[]⟩:vB).toList.isEmpty=true:=by rw[bN];rfl
 have a1:=jde hv;clear hv
 obtain⟨W,Z⟩:=vE wr
 have HI:=Hd hi;rw[<-Z]at J q0 H ⊢;clear h hb hi Z;go_enter Tryz.func209,Tryz.ntmps209;go_wp2_with (refine jaf 210 (.tmp 9) rfl rfl _ _ rfl J ?_)
 go_loopw [3,4,11] (fun cv ov Q wr=>jrA ks W cv ov Q wr) (fun _ _ Q _=>16 - (intOf Q).toNat)
 case atStart=>exact⟨0,0,0,by omega,rfl,rfl,rfl,rfl,rfl,rfl⟩
 case round =>
  obtain⟨k,c,o,hk,rfl,rfl,rfl,rfl,E,K⟩:=hrel
  by_cases hlt:k < 16
  ·have O:=je6 vk hlt
   have q:=jfp ks k;have a2:c<=16:=by rw[E];exact bH (fE _ _) (by rw[gJ];omega)
   have z:=Hd (bB E K);rcases (H.o.kid k hlt).1.kid with⟨hn,hv⟩ |⟨hn,T,x,hv⟩
   ·rw[hn,if_pos rfl,bU]at q
    rw[hv]at O;have A:=Hd q;clear q E K hn hv;go_wp2;go_roundw
    case rel=>exact⟨k+1,c,o,by omega,by go_num,rfl,rfl,rfl,by rw[A.o];exact z.o.1,by rw[A.o];exact z.o.2⟩
    case measure=>exact vJ
   ·rw[hn,if_neg ff]at q
    rw[hv]at O;have hq:=jdL T x;have A:=Hd q;clear q E K hn hv;go_wp2;go_roundw
    case rel=>exact⟨k+1,c+1,k,by omega,by go_num,by go_num,rfl,rfl,by rw[A.o,bF, <-z.o.1];rfl,by rw[A.o];simp⟩
    case measure=>exact vJ
  ·obtain rfl:k=16:=vO
   have z:=Hd (bB E K);clear E K;have X:c=0:=by rw[z.o.1];show (idxK ks).length=0;rw[HI.o];rfl
   subst X;go_wp2_with fail
   go_ret;have hB:=Blk.new wr (.cells #[.string ⟨#[]⟩,.string v] 205);exact PaTo.mk1 ⟨_,rfl,.inr ⟨bL _,hB.lt⟩,hB⟩ (((ExtR wr).alloc _).mono (fun _ _ e=>e.elim))
theorem joh(wr:vW)(D:Nat->Prop)(v:vB)(ks:Nat->PA)(b:Nat)(h:PaO (.br v ks) (brV b) D wr)(i:Nat)(hi:idxK ks=[i])(hv:v.size≠0) :
  vQ 209 #[.pointer (some ⟨b,0,none⟩)] wr (PaTo D wr (.br v ks)):=by
 obtain⟨Z,Dk,hb⟩:=h.br
 have E:=jbf hb.blk;have q0:=hb.blk.cellL (i:=0) (v:=.string v) vF;have H:=Hd hb;have a0:(⟨#[]⟩:vB).toList.isEmpty=true:=by rw[bN];rfl
 have a1:=jde hv;clear hv
 obtain⟨W,X⟩:=vE wr
 have HI:=Hd hi;rw[<-X]at E q0 H ⊢;clear h hb hi X;go_enter Tryz.func209,Tryz.ntmps209;go_wp2_with (refine jaf 210 (.tmp 9) rfl rfl _ _ rfl E ?_)
 go_loopw [3,4,11] (fun cv ov O wr=>jrA ks W cv ov O wr) (fun _ _ O _=>16 - (intOf O).toNat)
 case atStart=>exact⟨0,0,0,by omega,rfl,rfl,rfl,rfl,rfl,rfl⟩
 case round =>
  obtain⟨k,c,o,hk,rfl,rfl,rfl,rfl,A,J⟩:=hrel
  by_cases hlt:k < 16
  ·have K:=je6 Z hlt
   have e:=jfp ks k;have a2:c<=16:=by rw[A];exact bH (fE _ _) (by rw[gJ];omega)
   have q:=Hd (bB A J);rcases (H.o.kid k hlt).1.kid with⟨hn,hv⟩ |⟨hn,T,x,hv⟩
   ·rw[hn,if_pos rfl,bU]at e
    rw[hv]at K;have z:=Hd e;clear e A J hn hv;go_wp2;go_roundw
    case rel=>exact⟨k+1,c,o,by omega,by go_num,rfl,rfl,rfl,by rw[z.o];exact q.o.1,by rw[z.o];exact q.o.2⟩
    case measure=>exact vJ
   ·rw[hn,if_neg ff]at e
    rw[hv]at K;have hq:=jdL T x;have z:=Hd e;clear e A J hn hv;go_wp2;go_roundw
    case rel=>exact⟨k+1,c+1,k,by omega,by go_num,by go_num,rfl,rfl,by rw[z.o,bF, <-q.o.1];rfl,by rw[z.o];simp⟩
    case measure=>exact vJ
  ·obtain rfl:k=16:=vO
   have q:=Hd (bB A J);clear A J;have Q:c=1:=by rw[q.o.1];show (idxK ks).length=1;rw[HI.o];rfl
   subst Q;go_wp2_with fail
   go_ret;exact PaTo.mk1 (H.o.pa.at'.mono (fun x hx=>.inl hx)) (jag.refl _ _)
theorem joi(wr:vW)(D:Nat->Prop)(v:vB)(ks:Nat->PA)(b:Nat)(h:PaO (.br v ks) (brV b) D wr)(hi:2<=(idxK ks).length) :
  vQ 209 #[.pointer (some ⟨b,0,none⟩)] wr (PaTo D wr (.br v ks)):=by
 obtain⟨Z,Dk,hb⟩:=h.br
 have E:=jbf hb.blk;have q0:=hb.blk.cellL (i:=0) (v:=.string v) vF;have H:=Hd hb;have a0:(⟨#[]⟩:vB).toList.isEmpty=true:=by rw[bN];rfl
 obtain⟨W,X⟩:=vE wr
 have HI:=Hd hi;rw[<-X]at E q0 H ⊢;clear h hb hi X;go_enter Tryz.func209,Tryz.ntmps209;go_wp2_with (refine jaf 210 (.tmp 9) rfl rfl _ _ rfl E ?_)
 go_loopw [3,4,11] (fun cv ov O wr=>jrA ks W cv ov O wr) (fun _ _ O _=>16 - (intOf O).toNat)
 case atStart=>exact⟨0,0,0,by omega,rfl,rfl,rfl,rfl,rfl,rfl⟩
 case round =>
  obtain⟨k,c,o,hk,rfl,rfl,rfl,rfl,A,J⟩:=hrel
  by_cases hlt:k < 16
  ·have K:=je6 Z hlt
   have e:=jfp ks k;have a1:c<=16:=by rw[A];exact bH (fE _ _) (by rw[gJ];omega)
   have q:=Hd (bB A J);rcases (H.o.kid k hlt).1.kid with⟨hn,hv⟩ |⟨hn,T,x,hv⟩
   ·rw[hn,if_pos rfl,bU]at e
    rw[hv]at K;have z:=Hd e;clear e A J hn hv;go_wp2;go_roundw
    case rel=>exact⟨k+1,c,o,by omega,by go_num,rfl,rfl,rfl,by rw[z.o];exact q.o.1,by rw[z.o];exact q.o.2⟩
    case measure=>exact vJ
   ·rw[hn,if_neg ff]at e
    rw[hv]at K;have hq:=jdL T x;have z:=Hd e;clear e A J hn hv;go_wp2;go_roundw
    case rel=>exact⟨k+1,c+1,k,by omega,by go_num,by go_num,rfl,rfl,by rw[z.o,bF, <-q.o.1];rfl,by rw[z.o];simp⟩
    case measure=>exact vJ
  ·obtain rfl:k=16:=vO
   have q:=Hd (bB A J);clear A J;have Q:2<=c:=by rw[q.o.1];exact HI.o
   have g0:((c:Int) == 0)=false:=by simp;omega
   have g1:((c:Int) == 1)=false:=by simp;omega
   clear Q;go_wp2_with fail
   go_ret;exact PaTo.mk1 (H.o.pa.at'.mono (fun x hx=>.inl hx)) (jag.refl _ _)
theorem js5(wr:vW)(D:Nat->Prop)(v:vB)(ks:Nat->PA)(b:Nat)(h:PaO (.br v ks) (brV b) D wr)(i:Nat)(hi:idxK ks=[i])(hv:v.size=0)(hd:Dp (.br v ks) 900000) :
  vQ 209 #[.pointer (some ⟨b,0,none⟩)] wr (PaTo D wr (jbX (nib1 i) (ks i))):=by
 obtain⟨vk,Dk,hb⟩:=h.br
 have a3:=jbf hb.blk;have q0:=hb.blk.cellL (i:=0) (v:=.string v) vF;have H:=Hd hb;have b4:(⟨#[]⟩:vB).toList.isEmpty=true:=by rw[bN];rfl
 have a8:=ja1 hv;subst a8;have a9:=Hd hd;clear hv hd
 obtain⟨W,hW⟩:=vE wr
 have HI:=Hd hi;rw[<-hW]at a3 q0 H ⊢;clear h hb hi hW;go_enter Tryz.func209,Tryz.ntmps209;go_wp2_with (refine jaf 210 (.tmp 9) rfl rfl _ _ rfl a3 ?_)
 go_loopw [3,4,11] (fun cv ov iv wr=>jrA ks W cv ov iv wr) (fun _ _ iv _=>16 - (intOf iv).toNat)
 case atStart=>exact⟨0,0,0,by omega,rfl,rfl,rfl,rfl,rfl,rfl⟩
 case round =>
  obtain⟨k,c,o,hk,rfl,rfl,rfl,rfl,hc,ho⟩:=hrel
  by_cases hlt:k < 16
  ·have a7:=je6 vk hlt
   have E:=jfp ks k;have b5:c<=16:=by rw[hc];exact bH (fE _ _) (by rw[gJ];omega)
   have J:=Hd (bB hc ho);rcases (H.o.kid k hlt).1.kid with⟨hn,hv⟩ |⟨hn,T,x,hv⟩
   ·rw[hn,if_pos rfl,bU]at E
    rw[hv]at a7;have O:=Hd E;clear E hc ho hn hv;go_wp2;go_roundw
    case rel=>exact⟨k+1,c,o,by omega,by go_num,rfl,rfl,rfl,by rw[O.o];exact J.o.1,by rw[O.o];exact J.o.2⟩
    case measure=>exact vJ
   ·rw[hn,if_neg ff]at E
    rw[hv]at a7;have hq:=jdL T x;have O:=Hd E;clear E hc ho hn hv;go_wp2;go_roundw
    case rel=>exact⟨k+1,c+1,k,by omega,by go_num,by go_num,rfl,rfl,by rw[O.o,bF, <-J.o.1];rfl,by rw[O.o];simp⟩
    case measure=>exact vJ
  ·obtain rfl:k=16:=vO
   have J:=Hd (bB hc ho);clear hc ho;have b0:c=1:=by rw[J.o.1];show (idxK ks).length=1;rw[HI.o];rfl
   have a4:o=i:=by rw[J.o.2];show (idxK ks).getLast?.getD 0=i;rw[HI.o];rfl
   subst b0;have a0:i∈idxK ks:=by rw[HI.o];exact bD
   have q:i < 16:=dR.1 (cN.1 a0).1;have Q:(ks i).isNil=false:=by have:=(cN.1 a0).2;simpa using this
   rw[<-a4]at a0 q Q;have b1:=Hd a4;have A:=H.o.kid o q
   obtain⟨T,x,a5⟩:=A.1.form Q
   have qk:=H.o.blk.cellL (jeQ ⟨#[]⟩ vk q);rw[a5]at qk;have QK:=Hd qk;have a1:=Hd (show PaAt (ks o) (.iface T x) (Dk o) wr/\(∀ z,Dk o z->z < wr.heap.size)/\(ks o).isNil=false/\Dp (ks o) 1000000 from⟨by rw[<-a5];exact A.1,fun z Z=>H.o.lt z (A.2.2 z Z),Q,jbO _ _ _ (a9.o o Q).2 vO⟩);have b2:=Hd A.2.2;have a6:o < 16:=q;have c1:(o:Int) < 16:=vO
   have c2:(o:Int) < 256:=vO
   clear a0 q Q A a5 qk a4 a3;go_wp2_with fail
   refine jan [0,1,4,5,6,7,8,9,2,3,10,11] (Ext) ExtR ExtT vY vY vY ?_;iterate 4 refine vK ?_
   refine jcB _ ((.pointer (some ⟨b,0,none⟩))) rfl vY rfl (fun w1 _=>by kernel_rfl) ?_;refine vS ?_;iterate 2 refine vK ?_
   refine qKL ⟨b,1+o,none⟩ _ rfl (fun w1 h1=>jaB (fun w=>by kernel_rfl) (jaa (jaa QK.o (jaq _)) h1)) ?_;refine vS ?_;refine jeC _ rfl vY rfl (fun w2 he K hK=>?_);have b3:=Hd (show Ext wr w2 from(jaq _).trans he);clear he;go_simp;refine hK _ _ ((jag.refl _ w2).alloc _) ?_;clear hK K;refine jcB _ (.string (nib1 o)) rfl vY rfl (fun w3 h3=>jkR vY h3 (fun e=>e) a6) ?_;refine vS ?_;refine jeC _ rfl vY rfl (fun wc hc K hK=>?_);have kc:Ext wr wc:=(b3.o.alloc _).trans hc;refine jbV (jaG (vX 199) vY) ((pj_c wc (Dk o) (nib1 o) (ks o) (.iface T x) ⟨a1.o.1.keeps kc _ _ _ (fun _ _ e=>e),fun z Z=>bR (a1.o.2.1 z Z) kc.size⟩ a1.o.2.2.1 (by show 1<=_;omega) a1.o.2.2.2).mono ?_);rintro e w5 ⟨v5,rfl,a2,X⟩
   refine⟨v5,rfl,hK _ _ X ?_⟩
   have HZ:=Hd (bB kc (bB a2 X));clear hK K hc kc a2 X;refine vS ?_
   refine vK ?_
   refine qKE (fun wd hd=>?_);have HQ:=Hd hd;clear hd;go_wp2_with fail
   go_ret
   obtain⟨kc,a2,X⟩:=HZ.o
   have hd:=HQ.o;rw[<-b1.o];refine PaTo.mk1 ((a2.keeps hd _ _ _ (fun _ _ e=>e)).mono (fun z Z=>?_)) (((kc.trans X).trans hd).mono (fun _ _ e=>e.elim));rcases Z with Z | Z
   ·exact .inl (b2.o z Z)
   ·exact .inr ⟨bH kc.size Z.1,bR Z.2 hd.size⟩
theorem jog(W:vW)(D:Nat->Prop)(v:vB)(ks:Nat->PA)(b:Nat)(h:PaO (.br v ks) (brV b) D W)(hd:Dp (.br v ks) 900000) :
  vQ 209 #[.pointer (some ⟨b,0,none⟩)] W (PaTo D W (jcF v ks)):=by
 unfold jcF;cases hi:idxK ks with
 | nil =>
  show Calls _ _ _ W (PaTo D W (if v.size=0 then PA.no else .leaf ⟨#[]⟩ v))
  by_cases h0:v.size=0
  ·rw[if_pos h0];exact jq3 W D v ks b h hi h0
  ·rw[if_neg h0];exact jq2 W D v ks b h hi h0
 | cons i r =>
  cases r with
  | nil =>
   show Calls _ _ _ W (PaTo D W (if v.size=0 then jbX ⟨#[UInt8.ofNat i]⟩ (ks i)else .br v ks))
   by_cases h0:v.size=0
   ·rw[if_pos h0];exact js5 W D v ks b h i hi h0 hd
   ·rw[if_neg h0];exact joh W D v ks b h i hi h0
  | cons j r=>exact joi W D v ks b h (by rw[hi];simp)
theorem jrZ(W:vW)(D:Nat->Prop)(v:vB)(ks:Nat->PA)(b:Nat)(h:PaO (.br v ks) (brV b) D W)(hd:Dp (.br v ks) 900000):vQ 206 #[.pointer (some ⟨b,0,none⟩),.string ⟨#[]⟩] W (PaTo D W (jcF ⟨#[]⟩ ks)):=by
 obtain⟨vk,Dk,hb⟩:=h.br
 have q0:=hb.blk.cellL (i:=0) (v:=.string v) vF;have f0:W.frozen? ⟨b,0,none⟩=false:=hb.blk.frozen;have H:=Hd hb;have Q:Hid (Dp (.br ⟨#[]⟩ ks) 900000):=hd;have X:(⟨#[]⟩:vB).toList.isEmpty=true:=by rw[bN];rfl
 clear h hb hd;go_enter Tryz.func206,Tryz.ntmps206;go_wp2_with fail
 obtain⟨O,A⟩:=vE (W.setCell ⟨b,0,none⟩ (.string ⟨#[]⟩))
 have J:jag D W O:=by rw[A];exact (jag.oneSet W ⟨b,0,none⟩ (.string ⟨#[]⟩)).mono (fun x _ e=>by have e:x=b:=e;rw[e];exact H.o.mem)
 have E:=H.o.val ⟨#[]⟩;rw[<-A]at E ⊢;have K:=Hd (bB E J);clear E J A;refine (jog O D ⟨#[]⟩ ks b K.o.1.pa Q.o).mono ?_;rintro e w2 ⟨v2,rfl,q,z⟩;have Z:=Hd (bB q z);clear q z;go_wp2_with fail
 go_ret
 obtain⟨q,z⟩:=Z.o
 exact PaTo.mk1 (q.mono (fun x hx=>hx.imp id (fun e=>⟨bH K.o.2.size e.1,e.2⟩))) (K.o.2.trans z)
theorem ju5(W:vW)(D:Nat->Prop)(v:vB)(ks:Nat->PA)(b:Nat)(h:PaO (.br v ks) (brV b) D W)(p:vB)(h0:p.size≠0)(hp:jaC p=true)(hs:p.size<=900000)(hn:(ks (jap p)).isNil=true):vQ 206 #[.pointer (some ⟨b,0,none⟩),.string p] W (PaTo D W (.br v ks)):=by
 obtain⟨O,Dk,hb⟩:=h.br
 obtain⟨y,t,H⟩:=jcu h0
 obtain⟨Q,e2⟩:=jbW H
 have e:=jd3 hp h0
 obtain⟨X,z⟩:=jcc H
 have a1:=jde h0;have A:=jch hp;have J:(jbq p).size<=900000:=by unfold jbq;rw[jaV];omega
 have K:jap p=(p[0]'X).toNat:=by rw[Q,z]
 have q:=hb.kid (jap p) e;have E:O (jap p)=.nilIface:=by have:=q.1;rw[jbw hn]at this;exact this
 have Z:=hb.blk.cellL (jeQ v O e);rw[E]at Z;have HB:=Hd hb;have a2:=Hd K;have a0:=Hd e;have c1:(0:Int) < (p.size:Int):=vO
 have c2:((p[0]'X).toNat:Int) < 16:=vO
 have c3:(1:Int)<=(p.size:Int):=vO
 rw[K]at Z;have hq:=jAl;clear h E H Q e2 h0 hp hn z A J e K hb q;go_enter Tryz.func206,Tryz.ntmps206;go_wp2_with fail
 go_ret;exact PaTo.mk1 (HB.o.pa.at'.mono (fun x hx=>.inl hx)) (jag.refl _ _)
theorem jtL{P:PA}{T:TypeId}{x:vV}{D:Nat->Prop}{W:vW}(h:PaAt P (.iface T x) D W)(hn:P.isNo=false)(w:vW):(Instr.typeAssert (.iface T x) 69 214 true).run Tryz.prog w=.ok (.tuple #[.agg #[],.bool false]) w:=by
 cases P with
 | nil=>cases h
 | no=>cases hn
 | leaf q u=>obtain⟨b,h,_⟩:=h;unfold jju at h;injection h with h1 h2;subst h1 h2;kernel_rfl
 | ext q n=>obtain⟨b,_,_,_,h,_⟩:=h;unfold extV at h;injection h with h1 h2;subst h1 h2;kernel_rfl
 | br u ks=>obtain⟨b,_,_,h,_⟩:=h;unfold brV at h;injection h with h1 h2;subst h1 h2;kernel_rfl
theorem jrY(W:vW)(D:Nat->Prop)(v:vB)(ks:Nat->PA)(b:Nat)(h:PaO (.br v ks) (brV b) D W)(p:vB)(h0:p.size≠0)(hp:jaC p=true)(hs:p.size<=900000)(hn:(ks (jap p)).isNil=false)(hd:Dp (.br v ks) 900000)(hk:juI (ks (jap p)))(hno:(jbn (ks (jap p)) (jbq p)).isNo=false) :
  vQ 206 #[.pointer (some ⟨b,0,none⟩),.string p] W (PaTo D W (jcF v (setK ks (jap p) (jbn (ks (jap p)) (jbq p))))):=by
 obtain⟨vk,Dk,hb⟩:=h.br
 obtain⟨y,t,hy⟩:=jcu h0
 obtain⟨e1,e2⟩:=jbW hy
 have A:=jd3 hp h0
 obtain⟨g0,b3⟩:=jcc hy
 have c7:=jde h0;have a5:=jch hp;have b4:(jbq p).size<=900000:=by unfold jbq;rw[jaV];omega
 have hI:jap p=(p[0]'g0).toNat:=by rw[e1,b3]
 have E:=hb.kid (jap p) A
 obtain⟨T,x,a7⟩:=E.1.form hn
 have q1:=hb.blk.cellL (jeQ v vk A);rw[a7]at q1;have Q1:=Hd q1;have HB:=Hd hb;have HM:=Hd ((show PaAt (ks (jap p)) (.iface T x) (Dk (jap p)) W by rw[<-a7];exact E.1).meth);have a8:=hd (jap p) hn;have a1:=Hd (show ∀ O,Ext W O->vQ (jfc (ks (jap p))) #[x,.string (jbq p)] O (PaTo (Dk (jap p)) O (jbn (ks (jap p)) (jbq p)))from fun O e=>hk O T x _ _ ⟨(show PaAt (ks (jap p)) (.iface T x) (Dk (jap p)) W by rw[<-a7];exact E.1).keeps e _ _ _ (fun _ _ e=>e),fun z H=>bR (hb.lt z (E.2.2 z H)) e.size⟩ b4 a5 (jbO _ _ _ a8.2 vO));have b6:Hid (Dp (.br v (setK ks (jap p) (jbn (ks (jap p)) (jbq p)))) 900000):=jiA hd a8.1 (jhk _ _ _ a8.2) v;have b7:=Hd (show ¬(Dk (jap p) b\/W.heap.size<=b)from fun e=>e.elim (hb.kid _ A).2.1 (fun e=>by have:=hb.lt b hb.mem;omega));have hQ:=jnY T x;have b5:=Hd hI;have q:=Hd A;have c1:(0:Int) < (p.size:Int):=vO
 have c2:((p[0]'g0).toNat:Int) < 16:=vO
 have c3:(1:Int)<=(p.size:Int):=vO
 rw[hI]at q1;have b8:=Hd hno;clear h a7 hy e1 e2 h0 hp hn b3 a5 b4 A hI hb E hd a8 hk hno;go_enter Tryz.func206,Tryz.ntmps206;go_wp2_with fail
 refine jdm [0,1,2,3,4,5,6,7,8,9,10,11,13,14,12,15] 16 [12] Ext (jag (fun z=>Dk (jap p) z\/W.heap.size<=z)) ExtR ExtT (fun x y z h k=>jag.trans h k) (fun x y h=>h.mono (fun _ _ h=>h.elim)) vY vY vY ?_;iterate 4 refine vZ ?_
 refine jcM _ ((.pointer (some ⟨b,0,none⟩))) rfl vY rfl (fun w1=>by kernel_rfl) ?_;refine vS ?_;iterate 2 refine vZ ?_
 refine jgM ⟨b,1+(p[0]'g0).toNat,none⟩ _ rfl vY vY rfl rfl (fun w1 h1=>jaB (fun w=>by kernel_rfl) (by rw[<-b5.o];exact jaF Q1.o (((jag.refl (fun z=>Dk (jap p) z\/W.heap.size<=z) W).drew).trans h1) (by exact b7.o))) ?_;refine vS ?_;iterate 2 refine vZ ?_
 refine jcM _ (.iface T x) rfl vY rfl (fun w1=>by kernel_rfl) ?_;refine vS ?_
 refine vZ ?_
 refine jcM _ ((.pointer (some ⟨b,0,none⟩))) rfl vY rfl (fun w1=>by kernel_rfl) ?_;refine vS ?_
 refine vZ ?_
 refine jgK _ rfl vY rfl (fun O hb K hK=>?_);have kb:Ext W O:=(jaq _).trans hb;refine jbV (jcQ (f:=jfc (ks (jap p))) (vs:=#[.string (jbq p)]) rfl (HM.o.drop _) (jex _) vY) ?_;refine (a1.o O kb).mono ?_;rintro e w2 ⟨v2,rfl,a2,Q⟩
 refine⟨v2,rfl,hK _ _ (Q.mono (fun z _ H=>.inl H)) ?_⟩
 have HS:=Hd (bB kb (bB a2 Q));clear hK K hb kb a2 Q;refine vS ?_
 refine vZ ?_
 refine jgL _ rfl vY rfl (fun wc hc K hK=>?_)
 obtain⟨hb,a2,Q⟩:=HS.o
 have J:=HB.o.keeps (F:=fun _=>False) (hb) (fun _ _ e=>e);have kc:jag (Dk (jap p)) O wc:=Q.trans (hc.mono (fun _ _ e=>e.elim));have a9:PaAt (jbn (ks (jap p)) (jbq p)) v2 (Grow (Dk (jap p)) O wc) wc:=(a2.keeps hc _ _ _ (fun _ _ e=>e)).mono (fun z H=>H.imp id (fun e=>⟨e.1,bR e.2 hc.size⟩))
 obtain⟨T2,x2,rfl⟩:=a9.form (jew _ _)
 have ht:=J.turn q.o kc a9;have X:=J.turn_keeps q.o kc (.iface T2 x2)
 obtain⟨old,q7⟩:∃ v,wc.cell? ⟨b,1+jap p,none⟩=some v:=⟨_,(J.blk.keeps kc (J.kid _ q.o).2.1).cellL (bA (by rw[jhf];have:=q.o;omega))⟩
 have f7:wc.frozen? ⟨b,1+jap p,none⟩=false:=(J.blk.keeps kc (J.kid _ q.o).2.1).frozen
 obtain⟨W3,a3⟩:=vE (wc.setCell ⟨b,1+jap p,none⟩ (.iface T2 x2))
 rw[<-a3]at ht X
 obtain⟨b9,a0⟩:=vE (setV vk (jap p) (.iface T2 x2))
 obtain⟨c8,a6⟩:=vE (fun j=>if j=jap p then Grow (Dk (jap p)) O wc else Dk j)
 rw[<-a0, <-a6]at ht;have c0:W3.cell? ⟨b,1+jap p,none⟩=some (.iface T2 x2):=by
  have:=ht.blk.cellL (jeQ v b9 q.o)
  rw[this,a0];show some (setV vk (jap p) (.iface T2 x2) (jap p))=_;unfold setV;rw[if_pos rfl]
 have HT:=Hd (bB ht (bB X (bB hb (show W3.heap.size=wc.heap.size by rw[a3];exact gE _ _ _))));have c4:=Hd a9;rw[b5.o]at q7 f7 a3 c0;clear hb a2 Q J kc a9 ht X hc;go_simp;rw[<-a3];refine hK _ _ ?_;clear hK K q7 f7 a3 a0 a6;have c9:∀ w,(Instr.typeAssert (.iface T2 x2) 69 214 true).run Tryz.prog w=.ok (.tuple #[.agg #[],.bool false]) w:=jtL c4.o b8.o;go_wp2_with fail
 obtain⟨W4,b1⟩:=vE (W3.alloc (.cells #[] 214))
 have Z:Ext W3 W4:=by rw[b1];exact (ExtR W3).alloc _
 rw[<-b1];have b2:=Hd (bB (HT.o.1.keeps Z (fun _ _ e=>e)) Z);clear Z b1;refine (jog W4 _ v _ b b2.o.1.pa b6.o).mono ?_;rintro e w6 ⟨v6,rfl,b0,a4⟩;have HZ:=Hd (bB b0 (bB a4 (jeW b2.o.1.lt a4)));clear b0 a4;go_wp2_with fail
 go_ret
 obtain⟨b0,a4,c5⟩:=HZ.o
 obtain⟨ht,X,hb,d0⟩:=HT.o
 obtain⟨_,Z⟩:=b2.o
 have d1:W.heap.size<=W3.heap.size:=by have:=hb.size;have:=X.size;omega
 have c6:=Z.size;have g1:∀ z,Grow D O wc z->D z\/W.heap.size<=z:=fun z H=>H.imp id (fun e=>bH hb.size e.1);refine PaTo.mk1 (b0.mono (fun z H=>?_)) ?_
 ·have hl:=c5 z H
  rcases H with H | H
  ·exact (g1 z H).imp id (fun e=>⟨e,hl⟩)
  ·exact .inr ⟨by have:=H.1;omega,hl⟩
 ·have k1:jag D W W3:=(hb.mono (fun _ _ e=>e.elim):jag D W O).trans X
  have k2:jag D W W4:=k1.trans (Z.mono (fun _ _ e=>e.elim));exact k2.trans' a4 (fun z H e=>(g1 z e).elim id (fun e=>by omega))
theorem jqA(W:vW)(D:Nat->Prop)(v:vB)(ks:Nat->PA)(b:Nat)(h:PaO (.br v ks) (brV b) D W)(p:vB)(h0:p.size≠0)(hp:jaC p=true)(hs:p.size<=900000)(hn:(ks (jap p)).isNil=false)(hd:Dp (.br v ks) 900000)(hk:juI (ks (jap p)))(hno:(jbn (ks (jap p)) (jbq p)).isNo=true) :
  vQ 206 #[.pointer (some ⟨b,0,none⟩),.string p] W (PaTo D W (jcF v (setK ks (jap p) .nil))):=by
 obtain⟨vk,Dk,hb⟩:=h.br
 obtain⟨y,t,hy⟩:=jcu h0
 obtain⟨e1,e2⟩:=jbW hy
 have E:=jd3 hp h0
 obtain⟨g0,c0⟩:=jcc hy
 have d4:=jde h0;have a6:=jch hp;have c4:(jbq p).size<=900000:=by unfold jbq;rw[jaV];omega
 have hI:jap p=(p[0]'g0).toNat:=by rw[e1,c0]
 have H:=hb.kid (jap p) E
 obtain⟨T,x,a9⟩:=H.1.form hn
 have q1:=hb.blk.cellL (jeQ v vk E);rw[a9]at q1;have Q1:=Hd q1;have HB:=Hd hb;have HM:=Hd ((show PaAt (ks (jap p)) (.iface T x) (Dk (jap p)) W by rw[<-a9];exact H.1).meth);have b4:=hd (jap p) hn;have a1:=Hd (show ∀ O,Ext W O->vQ (jfc (ks (jap p))) #[x,.string (jbq p)] O (PaTo (Dk (jap p)) O (jbn (ks (jap p)) (jbq p)))from fun O e=>hk O T x _ _ ⟨(show PaAt (ks (jap p)) (.iface T x) (Dk (jap p)) W by rw[<-a9];exact H.1).keeps e _ _ _ (fun _ _ e=>e),fun z A=>bR (hb.lt z (H.2.2 z A)) e.size⟩ c4 a6 (jbO _ _ _ b4.2 vO));have c7:Hid (Dp (.br v (setK ks (jap p) .nil)) 900000):=jiA hd b4.1 ((show Dp PA.nil (900000 - 1)from trivial)) v;have c8:=Hd (show ¬(Dk (jap p) b\/W.heap.size<=b)from fun e=>e.elim (hb.kid _ E).2.1 (fun e=>by have:=hb.lt b hb.mem;omega));have hQ:=jnY T x;have b5:=Hd hI;have q:=Hd E;have c1:(0:Int) < (p.size:Int):=vO
 have c2:((p[0]'g0).toNat:Int) < 16:=vO
 have c3:(1:Int)<=(p.size:Int):=vO
 rw[hI]at q1;have c9:=Hd hno;clear h a9 hy e1 e2 h0 hp hn c0 a6 c4 E hI hb H hd b4 hk hno;go_enter Tryz.func206,Tryz.ntmps206;go_wp2_with fail
 refine jdm [0,1,2,3,4,5,6,7,8,9,10,11,13,14,12,15] 16 [12] Ext (jag (fun z=>Dk (jap p) z\/W.heap.size<=z)) ExtR ExtT (fun x y z h k=>jag.trans h k) (fun x y h=>h.mono (fun _ _ h=>h.elim)) vY vY vY ?_;iterate 4 refine vZ ?_
 refine jcM _ ((.pointer (some ⟨b,0,none⟩))) rfl vY rfl (fun w1=>by kernel_rfl) ?_;refine vS ?_;iterate 2 refine vZ ?_
 refine jgM ⟨b,1+(p[0]'g0).toNat,none⟩ _ rfl vY vY rfl rfl (fun w1 h1=>jaB (fun w=>by kernel_rfl) (by rw[<-b5.o];exact jaF Q1.o (((jag.refl (fun z=>Dk (jap p) z\/W.heap.size<=z) W).drew).trans h1) (by exact c8.o))) ?_;refine vS ?_;iterate 2 refine vZ ?_
 refine jcM _ (.iface T x) rfl vY rfl (fun w1=>by kernel_rfl) ?_;refine vS ?_
 refine vZ ?_
 refine jcM _ ((.pointer (some ⟨b,0,none⟩))) rfl vY rfl (fun w1=>by kernel_rfl) ?_;refine vS ?_
 refine vZ ?_
 refine jgK _ rfl vY rfl (fun O hb K hK=>?_);have kb:Ext W O:=(jaq _).trans hb;refine jbV (jcQ (f:=jfc (ks (jap p))) (vs:=#[.string (jbq p)]) rfl (HM.o.drop _) (jex _) vY) ?_;refine (a1.o O kb).mono ?_;rintro e w2 ⟨v2,rfl,a3,Q⟩
 refine⟨v2,rfl,hK _ _ (Q.mono (fun z _ A=>.inl A)) ?_⟩
 have HS:=Hd (bB kb (bB a3 Q));clear hK K hb kb a3 Q;refine vS ?_
 refine vZ ?_
 refine jgL _ rfl vY rfl (fun wc hc K hK=>?_)
 obtain⟨hb,a3,Q⟩:=HS.o
 have J:=HB.o.keeps (F:=fun _=>False) (hb) (fun _ _ e=>e);have kc:jag (Dk (jap p)) O wc:=Q.trans (hc.mono (fun _ _ e=>e.elim));have b0:PaAt (jbn (ks (jap p)) (jbq p)) v2 (Grow (Dk (jap p)) O wc) wc:=(a3.keeps hc _ _ _ (fun _ _ e=>e)).mono (fun z A=>A.imp id (fun e=>⟨e.1,bR e.2 hc.size⟩))
 obtain⟨T2,x2,rfl⟩:=b0.form (jew _ _)
 have ht:=J.turn q.o kc b0;have X:=J.turn_keeps q.o kc (.iface T2 x2)
 obtain⟨old,q7⟩:∃ v,wc.cell? ⟨b,1+jap p,none⟩=some v:=⟨_,(J.blk.keeps kc (J.kid _ q.o).2.1).cellL (bA (by rw[jhf];have:=q.o;omega))⟩
 have f7:wc.frozen? ⟨b,1+jap p,none⟩=false:=(J.blk.keeps kc (J.kid _ q.o).2.1).frozen
 obtain⟨W3,a4⟩:=vE (wc.setCell ⟨b,1+jap p,none⟩ (.iface T2 x2))
 rw[<-a4]at ht X
 obtain⟨d0,a0⟩:=vE (setV vk (jap p) (.iface T2 x2))
 obtain⟨d5,a7⟩:=vE (fun j=>if j=jap p then Grow (Dk (jap p)) O wc else Dk j)
 rw[<-a0, <-a7]at ht;have b6:W3.cell? ⟨b,1+jap p,none⟩=some (.iface T2 x2):=by
  have:=ht.blk.cellL (jeQ v d0 q.o)
  rw[this,a0];show some (setV vk (jap p) (.iface T2 x2) (jap p))=_;unfold setV;rw[if_pos rfl]
 have HT:=Hd (bB ht (bB X (bB hb (show W3.heap.size=wc.heap.size by rw[a4];exact gE _ _ _))));have d1:=Hd b0;rw[b5.o]at q7 f7 a4 b6;clear hb a3 Q J kc b0 ht X hc;go_simp;rw[<-a4];refine hK _ _ ?_;clear hK K q7 f7 a4 a0 a7;have c5:Value.iface T2 x2=noV:=by have:=d1.o;rw[jsZ c9.o]at this;exact this
 unfold noV at c5;injection c5 with hn1 hn2;subst hn1 hn2;have d6:∀ w,(Instr.typeAssert (.iface 214 (.agg #[])) 69 214 true).run Tryz.prog w=.ok (.tuple #[.agg #[],.bool true]) w:=fun w=>by kernel_rfl
 have q4:(W3.alloc (.cells #[] 214)).cell? ⟨b,1+(p[0]'g0).toNat,none⟩=some (.iface 214 (.agg #[])):=jaa b6 ((ExtR W3).alloc _);have f4:(W3.alloc (.cells #[] 214)).frozen? ⟨b,1+(p[0]'g0).toNat,none⟩=false:=(HT.o.1.blk.alloc _).frozen;clear q4;have q4:=jaa b6 ((ExtR W3).alloc (.cells #[] 214));go_wp2_with fail
 obtain⟨W4,b7⟩:=vE (W3.alloc (.cells #[] 214))
 have Z:Ext W3 W4:=by rw[b7];exact (ExtR W3).alloc _
 rw[<-b7]at q4 f4 ⊢;have b8:=HT.o.1.keeps Z (fun _ _ e=>e);have b1:=b8.turn q.o (P:=.nil) (v:=.nilIface) (jag.refl _ W4) rfl;have a2:=b8.turn_keeps q.o (jag.refl _ W4) .nilIface
 obtain⟨W5,b2⟩:=vE (W4.setCell ⟨b,1+jap p,none⟩ .nilIface)
 rw[<-b2]at b1 a2;rw[b5.o]at b2;rw[<-b2];have c6:setK (setK ks (jap p) (jbn (ks (jap p)) (jbq p))) (jap p) .nil=setK ks (jap p) .nil:=by
  funext j
  unfold setK
  by_cases e:j=jap p
  ·rw[if_pos e,if_pos e]
  ·rw[if_neg e,if_neg e,if_neg e]
 rw[c6]at b1;have a8:W4.heap.size<=W5.heap.size:=a2.size;have b9:=Hd (bB b1 (bB a2 (bB Z a8)));clear b8 b1 a2 Z b7 b2 q4 f4 c6 a8;refine (jog W5 _ v _ b b9.o.1.pa c7.o).mono ?_;rintro e w6 ⟨v6,rfl,b3,a5⟩;have HZ:=Hd (bB b3 (bB a5 (jeW b9.o.1.lt a5)));clear b3 a5;go_wp2_with fail
 go_ret
 obtain⟨b3,a5,d2⟩:=HZ.o
 obtain⟨ht,X,hb,d7⟩:=HT.o
 obtain⟨_,a2,Z,d8⟩:=b9.o
 have d9:W.heap.size<=W3.heap.size:=by have:=hb.size;have:=X.size;omega
 have d3:=Z.size;have g1:∀ z,Grow D O wc z->D z\/W.heap.size<=z:=fun z A=>A.imp id (fun e=>bH hb.size e.1);have g2:∀ z,Grow (Grow D O wc) W4 W4 z->D z\/W.heap.size<=z:=fun z A=>A.elim (g1 z) (fun e=>by omega);refine PaTo.mk1 (b3.mono (fun z A=>?_)) ?_
 ·have hl:=d2 z A
  rcases A with A | A
  ·exact (g2 z A).imp id (fun e=>⟨e,hl⟩)
  ·exact .inr ⟨by have:=A.1;omega,hl⟩
 ·have k1:jag D W W3:=(hb.mono (fun _ _ e=>e.elim):jag D W O).trans X
  have k2:jag D W W4:=k1.trans (Z.mono (fun _ _ e=>e.elim));have k3:jag D W W5:=k2.trans' a2 (fun z A e=>(g1 z e).elim id (fun e=>by omega));exact k3.trans' a5 (fun z A e=>(g2 z e).elim id (fun e=>by omega))
theorem jgO:∀ (P:PA),VaP P->juI P
 | .nil,_=>fun W T x D p h _ _ _=>by cases h.at'
 | .no,_=>fun W T x D p h _ _ _=>by
  have e:Value.iface T x=noV:=h.at';unfold noV at e;injection e with e1 e2;subst e1 e2;exact jwc W D p
 | .leaf q v,hv=>fun W T x D p h A E o=>by
  obtain⟨b,e,J,K⟩:=h.at'
  unfold jju at e;injection e with e1 e2;subst e1 e2;exact jyz W D q v p b K J
 | .ext q n,hv=>fun W T x D p h A E o=>by
  obtain⟨b,Q,X,O,e,J,K,Z,h4,h5⟩:=h.at'
  unfold extV at e;injection e with e1 e2;subst e1 e2;have H:∀ z,O z->D z/\z < W.heap.size:=fun z hz=>⟨h5 z hz,h.lt z (h5 z hz)⟩;show Calls _ _ _ W (PaTo D W (jbn (.ext q n) p));unfold jbn;cases hf:preB q p with
  | true =>
   rw[if_pos rfl];exact jvs W D q n Q X O b K J Z h4 H p E o.1 A (jbO _ _ _ o.2 vO) (jgO n hv.2) hf
  | false =>
   rw[if_neg ff];exact jvt W D q n Q X O b K J Z h4 H p E o.1 A hf
 | .br v ks,hv=>fun W T x D p h A E o=>by
  obtain⟨b,vk,Dk,e,_⟩:=h.at'
  unfold brV at e;injection e with e1 e2;subst e1 e2;show Calls _ _ _ W (PaTo D W (jbn (.br v ks) p));unfold jbn
  by_cases h0:p.size=0
  ·rw[if_pos h0,ja1 h0]
   exact jrZ W D v ks b h o
  ·rw[if_neg h0]
   cases hk:(ks (jap p)).isNil with
   | true=>rw[if_pos rfl];exact ju5 W D v ks b h p h0 E A hk
   | false =>
    rw[if_neg ff];unfold unNo;cases hno:(jbn (ks (jap p)) (jbq p)).isNo with
    | true=>rw[if_pos rfl];exact jqA W D v ks b h p h0 E A hk o (jgO (ks (jap p)) (hv _)) hno
    | false=>rw[if_neg ff];exact jrY W D v ks b h p h0 E A hk o (jgO (ks (jap p)) (hv _)) hno
def cntP:PA->Nat
 | .nil=>0
 | .no=>1
 | .leaf _ _=>1
 | .ext _ n=>1+cntP n
 | .br _ ks=>1+sumF (fun i=>cntP (ks i)) 16
theorem jps(p v:vB):(keyR p v).length<=1:=by unfold keyR;split <;> simp
theorem jgE{α:Type}(g:Nat->List α)(f:Nat->Nat)(h:∀ i,(g i).length<=f i):∀ n,((List.range n).flatMap g).length<=sumF f n
 | 0=>by simp
 | n+1=>by
  rw[gA,dS,bF]
  have:=jgE g f h n
  have:=h n
  simp only[cG,fP,bU,sumF];omega
theorem jiD:∀ (P:PA) (p:vB),(entP P p).length<=cntP P
 | .nil,_=>bL _
 | .no,_=>bY _
 | .leaf q v,p=>jps _ _
 | .ext q n,p=>bH (jiD n (p++q)) (Nat.le_add_left _ _)
 | .br v ks,p=>by
  show ((if v.size=0 then []else keyR p v)++(List.range 16).flatMap fun i=>if (ks i).isNil then []else entP (ks i) (p++nib1 i)).length<=1+sumF (fun i=>cntP (ks i)) 16;rw[bF];have e:(if v.size=0 then []else keyR p v:vL).length<=1:=by
   split
   ·simp
   ·exact jps _ _
  have o:=jgE (fun i=>if (ks i).isNil then []else entP (ks i) (p++nib1 i)) (fun i=>cntP (ks i)) (fun i=>by
   show (if (ks i).isNil=true then ([]:vL)else entP (ks i) (p++nib1 i)).length<=cntP (ks i);split
   ·simp
   ·exact jiD (ks i) _) 16
  omega
theorem ERow.len'{w0 w:vW}{v:vV}{n:Nat}{xs:vL}(h:ERow w0 w v n xs):n=xs.length:=by have:=h.len;rw[jdQ]at this;omega
def EnP(w0:vW)(xs:vL)(e:Ending)(w':vW):Prop:=∃ v n,e=.returned v/\ERow w0 w' v n xs
def EntC(P:PA):Prop:=∀ (w0 W:vW) (T:TypeId) (x:vV) (D:Nat->Prop) (p:vB) (v:vV) (n k:Nat) (E:vL),PaO P (.iface T x) D w0->ERow w0 W v n E->Dp P k->p.size+k<=900000->n+cntP P<=100000 ->
 vQ (jff P) #[x,.string p,v] W (EnP w0 (E++entP P p))
theorem jyL(w0 W:vW)(p:vB)(v:vV)(n:Nat)(E:vL)(h:ERow w0 W v n E):vQ 211 #[.agg #[],.string p,v] W (EnP w0 E):=by
 have H:=Hd h
 obtain⟨a,c,rfl⟩:=h.sl
 clear h;go_enter Tryz.func211,Tryz.ntmps211;go_wp2_with fail
 go_ret
 exact⟨_,n,rfl,H.o.mono ((ExtR W).alloc _)⟩
theorem jjJ(k v:vB):jcl [(k,v)]=[.string k,.string v]:=rfl
theorem jAE(w0 W:vW)(q u p:vB)(b:Nat)(hB:Blk w0 b (.cells #[.string q,.string u] 205))(v:vV)(n:Nat)(E:vL)(h:ERow w0 W v n E)(hs:p.size+q.size<=900000)(hn:n<=100000) :
  vQ 195 #[.pointer (some ⟨b,0,none⟩),.string p,v] W (EnP w0 (E++keyR (p++q) u)):=by
 have q0:=jaa (hB.cell (i:=0) (v:=.string q) vF) h.ext;have Z:=Hd (jaa (hB.cell (i:=1) (v:=.string u) vF) h.ext);have H:=Hd h
 obtain⟨a,c,rfl⟩:=h.sl
 have e:=fun w=>js0 w (p++q) (by rw[jdi];omega);unfold keyV at e;unfold keyR;cases hok:jdt (p++q)with
 | false =>
  rw[if_neg ff,bU];rw[hok,if_neg ff]at e;have A:=Hd e;clear h hB e hok;go_enter Tryz.func195,Tryz.ntmps195;go_wp2_with fail
  refine vH (A.o W) fun w1 O=>?_;go_wp2_with fail
  go_ret
  exact⟨_,n,rfl,H.o.mono O.o⟩
 | true =>
  rw[if_pos rfl];rw[hok,if_pos rfl]at e;have A:=Hd e;clear h hB e hok;go_enter Tryz.func195,Tryz.ntmps195;go_wp2_with fail
  refine vC (A.o W) fun w1 z=>?_;have O:=Hd z;have q1:=jaa Z.o z;have HR:=Hd (H.o.mono z);clear z;go_wp2_with (at_builtin;refine jba Tryz.sEnts (HR.o.mono ((ExtR w1).alloc _)) (.tmp 20) (.tmp 27) rfl rfl rfl (ja3 (Blk.new w1 _)) (news:=[.string (jbC (p++q)),.string u]) (by intro u Q;simp at Q;rcases Q with rfl | rfl <;> rfl) rfl rfl (by unfold maxLen;omega) vO (fun v' w' X r2 r3=>?_);obtain⟨a5,c5,J⟩:=X.sl;subst J;have K:=Hd X)
  go_ret
  exact⟨_,n+1,rfl,by have:=K.o;rw[<-jjJ, <-jbk]at this;exact this⟩
def jrw(w0 a b:vW):Prop:=Ext w0 a->Ext w0 b
theorem jnG(w0 x y z:vW)(h:jrw w0 x y)(k:jrw w0 y z):jrw w0 x z:=fun e=>k (h e)
theorem jrP(w0 x y:vW)(h:Ext x y):jrw w0 x y:=fun e=>e.trans h
theorem jAj(w0 W:vW)(q:vB)(n:PA)(T:TypeId)(x:vV)(Dn:Nat->Prop)(b:Nat)(hB:Blk w0 b (.cells #[.string q,.iface T x] 208))(hv:PaAt n (.iface T x) Dn w0)(hD:∀ x,Dn x->x < w0.heap.size)(p:vB)(v:vV)(m k:Nat)(E:vL)(h:ERow w0 W v m E)(J:Dp n k)(hs:(p++q).size+k<=900000)(hn:m+cntP n<=100000)(hk:EntC n) :
  vQ 201 #[.pointer (some ⟨b,0,none⟩),.string p,v] W (EnP w0 (E++entP n (p++q))):=by
 have Q0:=Hd (hB.cell (i:=0) (v:=.string q) vF);have Q1:=Hd (hB.cell (i:=1) (v:=.iface T x) vF);have O:=Hd h.ext;have HM:=Hd hv.meth;have hz:p.size+q.size<=900000:=by rw[<-jdi];omega
 obtain⟨a,c,Q⟩:=h.sl
 have z:=Hd (show ∀ A,Ext W A->vQ (jff n) #[x,.string (p++q),v] A (EnP w0 (E++entP n (p++q)))from fun A e=>hk w0 A T x Dn (p++q) v m k E ⟨hv,hD⟩ (h.mono e) J hs hn);subst Q;clear hB hv hD h J hs hn hk;go_enter Tryz.func201,Tryz.ntmps201;go_wp2_with fail
 refine ja5 [0,1,2,3,4,5,6,7,8,9,10,11,12,13,14] [13] Ext (jrw w0) ExtR ExtT (jnG w0) (jrP w0) vY vY vY ?_
 refine vD ?_
 refine qDV _ ((.pointer (some ⟨b,0,none⟩))) rfl (fun w1 _=>by kernel_rfl) ?_;refine vS ?_
 refine vD ?_
 refine qDL ⟨b,1,none⟩ _ rfl (fun w1 X=>jaB (fun w=>by kernel_rfl) (jaa Q1.o (X (O.o.trans (jaq _))))) ?_;refine vS ?_;iterate 2 refine vD ?_
 refine qDV _ ((.pointer (some ⟨b,0,none⟩))) rfl (fun w1 _=>by kernel_rfl) ?_;refine vS ?_
 refine vD ?_
 refine qDL ⟨b,0,none⟩ _ rfl (fun w1 X=>jaB (fun w=>by kernel_rfl) (jaa Q0.o (X (O.o.trans (jaq _))))) ?_;refine vS ?_;iterate 2 refine vD ?_
 refine qDV _ (.iface T x) rfl (fun w1 _=>by kernel_rfl) ?_;refine vS ?_
 refine vD ?_
 refine qDH _ rfl (fun A hb K Z=>?_);have kb:Ext W A:=(jaq _).trans hb;refine jbV (jcQ (f:=jff n) (vs:=#[.string (p++q),.slice a m c]) rfl (HM.o.ent _) (jdp _) vY) ?_;refine (z.o A kb).mono ?_;rintro e w2 ⟨v2,m2,rfl,H⟩
 refine⟨v2,rfl,Z _ _ (fun _=>H.ext) ?_⟩
 have HS:=Hd H;clear Z K hb kb H;refine vS ?_
 refine vD ?_
 refine jcA vY (fun wd J=>?_);have HQ:=Hd J;clear J;go_wp2_with fail
 go_ret
 exact⟨_,_,rfl,HS.o.mono HQ.o⟩
def entK(ks:Nat->PA)(p:vB)(k:Nat):vL:=(List.range k).flatMap fun i=>if (ks i).isNil then []else entP (ks i) (p++nib1 i)
theorem jiB(ks:Nat->PA)(p:vB)(k:Nat):entK ks p (k+1)=entK ks p k++(if (ks k).isNil then []else entP (ks k) (p++nib1 k)):=by
 unfold entK;rw[gA,dS]
 simp
theorem jkQ(ks:Nat->PA)(p:vB)(k:Nat):(entK ks p k).length<=sumF (fun i=>cntP (ks i)) k:=jgE _ _ (fun i=>by
 show (if (ks i).isNil=true then ([]:vL)else entP (ks i) (p++nib1 i)).length<=cntP (ks i);split
 ·simp
 ·exact jiD (ks i) _) k
theorem jeK(f:Nat->Nat)(k:Nat):∀ d,sumF f k<=sumF f (k+d)
 | 0=>bL _
 | d+1=>bH (jeK f k d) (Nat.le_add_right _ _)
def jxF(w0:vW)(ks:Nat->PA)(p:vB)(E:vL)(tv iv:vV)(wr:vW):Prop:=∃ (k m:Nat),k<=16/\iv=.int .i64 (k:Int)/\ERow w0 wr tv m (E++entK ks p k)
theorem jkK(w:vW){m:Nat}(hm:m < 16):(convert 42 9 (.slice (some ⟨w.heap.size,0,none⟩) 1 1)).run Tryz.prog (w.alloc (.cells #[.int .u8 (m:Int)] 5))=.ok (.string (nib1 m)) (w.alloc (.cells #[.int .u8 (m:Int)] 5)):=by
 have e:(m:Int)=((UInt8.ofNat m).toNat:Int):=by rw[joD m vO]
 rw[e];exact Tryz.run_lit1 w (UInt8.ofNat m)
structure BrRd(u:vB)(ks:Nat->PA)(b:Nat)(vk:Nat->Value)(Dk:Nat->Nat->Prop)(W:World):Prop where
 blk:Blk W b (.cells (brC u vk).toArray 212)
 kid:∀ i,i < 16->PaO (ks i) (vk i) (Dk i) W
theorem jr0(w0 W:vW)(u p:vB)(ks:Nat->PA)(b:Nat)(vk:Nat->vV)(Dk:Nat->Nat->Prop)(hb:BrRd u ks b vk Dk w0)(v:vV)(n kk:Nat)(E:vL)(h:ERow w0 W v n E)(hd:Dp (.br u ks) kk)(hs:p.size+kk<=900000)(hn:n+1+sumF (fun i=>cntP (ks i)) 16<=100000)(ih:∀ i,i < 16->(ks i).isNil=false->EntC (ks i))(ho:jdt p=false) :
  vQ 207 #[.pointer (some ⟨b,0,none⟩),.string p,v] W (EnP w0 (E++entK ks p 16)):=by
 have H:=Hd hb;have a8:=Hd hd;have a4:=Hd hs;have a9:=Hd ih;have b0:=Hd h.ext;have H0:=Hd h;have b3:=h.len';have q0:=jaa (hb.blk.cellL (i:=0) (v:=.string u) vF) h.ext;have K:=jbf (hb.blk.keeps h.ext (fun e=>e));have c0:(⟨#[]⟩:vB).toList.isEmpty=true:=by rw[bN];rfl
 have c1:=jk8;have z:=js0 W p vO;unfold keyV at z
 obtain⟨a,c,a1⟩:=h.sl
 rw[ho,if_neg ff]at z;have HK:=Hd z;have b4:=Hd (show E.length+sumF (fun i=>cntP (ks i)) 16<=100000 by omega);have hB:=Hd hb.blk;clear hb hd hs ih h hn ho z K;subst a1;go_enter Tryz.func207,Tryz.ntmps207;go_wp2_with fail
 refine HK.o.mono ?_;rintro e w1 ⟨rfl,hE⟩;have K:=jbf (hB.o.keeps (b0.o.trans hE) (fun e=>e));have b5:=Hd (H0.o.mono hE);clear hE q0;clear b3;go_wp2_with (refine jaf 210 (.tmp 35) rfl rfl _ _ rfl K ?_)
 go_loopw [2,37] (fun tv iv wr=>jxF w0 ks p E tv iv wr) (fun _ iv _=>16 - (intOf iv).toNat)
 case atStart=>exact⟨0,n,by omega,rfl,by rw[show entK ks p 0=[]from rfl,bU];exact b5.o⟩
 case round =>
  obtain⟨k,m,hk,rfl,hR⟩:=hrel
  have O:=Hd hR;have a5:m<=E.length+sumF (fun i=>cntP (ks i)) k:=by
   have h1:=hR.len';have h2:=jkQ ks p k;rw[bF]at h1;omega
  have b6:=Hd a5
  obtain⟨a2,c2,A⟩:=hR.sl
  clear hR a5
  by_cases hlt:k < 16
  ·have a6:=je6 vk hlt
   have q:=jiB ks p k;rcases (H.o.kid k hlt).at'.kid with⟨hn,hv⟩ |⟨hn,T,x,hv⟩
   ·rw[hn,if_pos rfl,bU]at q
    rw[hv]at a6;have Q:=Hd q;clear q hn hv;subst A;go_wp2;go_roundw
    case rel=>exact⟨k+1,m,by omega,by go_num,by rw[Q.o];exact O.o⟩
    case measure=>exact vJ
   ·rw[hn,if_neg ff]at q
    rw[hv]at a6;have hq:=jdL T x;have J:=H.o.kid k hlt;rw[hv]at J;have a7:=J.at'.meth;have c4:∀ w,(Go.method (403+1) T x "guilloche/trie.entries").run Tryz.prog w=.ok (jff (ks k),x) w:=a7.ent;have c5:=jdp (ks k);have c6:=jkK wr hlt;have X:=a8.o k hn;have b7:sumF (fun i=>cntP (ks i)) k+cntP (ks k)<=sumF (fun i=>cntP (ks i)) 16:=by
     have h1:=jeK (fun i=>cntP (ks i)) (k+1) (15 - k);rw[show k+1+(15 - k)=16 by omega]at h1;exact h1
    have Z:=Hd (show ∀ wb,Ext wr wb->vQ (jff (ks k)) #[x,.string (p++nib1 k),.slice a2 m c2] wb (EnP w0 (E++entK ks p k++entP (ks k) (p++nib1 k)))from fun wb e=>a9.o k hlt hn w0 wb T x (Dk k) (p++nib1 k) _ m (kk - 1) _ J (by rw[<-A];exact O.o.mono e) X.2 (by rw[jdi];have:(nib1 k).size=1:=rfl;have:=a4.o;have:=X.1;omega) (by have:=b6.o;have:=b4.o;omega));have Q:=Hd q;have b1:(k:Int) < 256:=vO
    have c7:p.size+(nib1 k).size<=900001:=by have:(nib1 k).size=1:=rfl;have:=a4.o;omega
    have b2:(k:Int) < 16:=vO
    clear q hn hv J a7 X b7;subst A;go_wp2_with fail
    refine (Z.o _ ((ExtR wr).alloc _)).mono ?_;rintro e w2 ⟨v2,m2,rfl,a0⟩;have b8:=Hd a0
    obtain⟨a3,c3,b9⟩:=a0.sl
    subst b9;clear a0;go_wp2_with fail
    go_roundw
    case rel=>exact⟨k+1,m2,by omega,by go_num,by rw[Q.o, <-bX];exact b8.o⟩
    case measure=>exact vJ
  ·obtain rfl:k=16:=vO
   subst A;go_wp2_with fail
   go_ret
   exact⟨_,_,rfl,O.o⟩
theorem ju7(w0 W:vW)(u p:vB)(ks:Nat->PA)(b:Nat)(vk:Nat->vV)(Dk:Nat->Nat->Prop)(hb:BrRd u ks b vk Dk w0)(v:vV)(n kk:Nat)(E:vL)(h:ERow w0 W v n E)(hd:Dp (.br u ks) kk)(hs:p.size+kk<=900000)(hn:n+1+sumF (fun i=>cntP (ks i)) 16<=100000)(ih:∀ i,i < 16->(ks i).isNil=false->EntC (ks i))(ho:jdt p=true)(hu:u.size≠0) :
  vQ 207 #[.pointer (some ⟨b,0,none⟩),.string p,v] W (EnP w0 ((E++[(jbC p,u)])++entK ks p 16)):=by
 have H:=Hd hb;have b0:=Hd hd;have a4:=Hd hs;have b3:=Hd ih;have c6:=Hd h.ext;have H0:=Hd h;have b4:=h.len';have q0:=jaa (hb.blk.cellL (i:=0) (v:=.string u) vF) h.ext;have K:=jbf (hb.blk.keeps h.ext (fun e=>e));have c7:(⟨#[]⟩:vB).toList.isEmpty=true:=by rw[bN];rfl
 have c8:=jk8;have z:=js0 W p vO;unfold keyV at z
 obtain⟨a,c,a1⟩:=h.sl
 rw[ho,if_pos rfl]at z;have HK:=Hd z;have c9:=jde hu;have b5:=Hd (show (E++[(jbC p,u)]).length+sumF (fun i=>cntP (ks i)) 16<=100000 by rw[bF,iV];omega);have hB:=Hd hb.blk;have Q0:=Hd q0;have c4:n<=100000:=vO
 clear hb hd hs ih h hn ho z K hu q0;subst a1;go_enter Tryz.func207,Tryz.ntmps207;go_wp2_with fail
 refine HK.o.mono ?_;rintro e w1 ⟨rfl,hE⟩;have q0:=jaa Q0.o hE;have b6:=Hd (H0.o.mono hE);clear hE b4;go_wp2_with (first |(at_builtin;refine jba Tryz.sEnts (b6.o.mono ((ExtR w1).alloc _)) (.tmp 24) (.tmp 31) rfl rfl rfl (ja3 (Blk.new w1 _)) (news:=[.string (jbC p),.string u]) (by intro u hu;simp at hu;rcases hu with rfl | rfl <;> rfl) rfl rfl (by unfold maxLen;omega) vO (fun v' w' r1 r2 r3=>?_);obtain⟨a5,c5,b7⟩:=r1.sl;subst b7;have a6:Hid (ERow w0 w' (.slice a5 (n+1) c5) (n+1) (E++[(jbC p,u)])):=Hd (by rw[<-jjJ, <-jbk]at r1;exact r1);have K:=jbf (hB.o.keeps a6.o.ext (fun e=>e))) |(refine jaf 210 (.tmp 35) rfl rfl _ _ rfl K ?_))
 go_loopw [2,37] (fun tv iv wr=>jxF w0 ks p (E++[(jbC p,u)]) tv iv wr) (fun _ iv _=>16 - (intOf iv).toNat)
 case atStart=>exact⟨0,(n+1),by omega,rfl,by rw[show entK ks p 0=[]from rfl,bU];exact a6.o⟩
 case round =>
  obtain⟨k,m,hk,rfl,hR⟩:=hrel
  have O:=Hd hR;have a7:m<=(E++[(jbC p,u)]).length+sumF (fun i=>cntP (ks i)) k:=by
   have h1:=hR.len';have h2:=jkQ ks p k;rw[bF]at h1;omega
  have b8:=Hd a7
  obtain⟨a2,c2,A⟩:=hR.sl
  clear hR a7
  by_cases hlt:k < 16
  ·have a8:=je6 vk hlt
   have q:=jiB ks p k;rcases (H.o.kid k hlt).at'.kid with⟨hn,hv⟩ |⟨hn,T,x,hv⟩
   ·rw[hn,if_pos rfl,bU]at q
    rw[hv]at a8;have Q:=Hd q;clear q hn hv;subst A;go_wp2;go_roundw
    case rel=>exact⟨k+1,m,by omega,by go_num,by rw[Q.o];exact O.o⟩
    case measure=>exact vJ
   ·rw[hn,if_neg ff]at q
    rw[hv]at a8;have hq:=jdL T x;have J:=H.o.kid k hlt;rw[hv]at J;have a9:=J.at'.meth;have d0:∀ w,(Go.method (403+1) T x "guilloche/trie.entries").run Tryz.prog w=.ok (jff (ks k),x) w:=a9.ent;have d1:=jdp (ks k);have d2:=jkK wr hlt;have X:=b0.o k hn;have b9:sumF (fun i=>cntP (ks i)) k+cntP (ks k)<=sumF (fun i=>cntP (ks i)) 16:=by
     have h1:=jeK (fun i=>cntP (ks i)) (k+1) (15 - k);rw[show k+1+(15 - k)=16 by omega]at h1;exact h1
    have Z:=Hd (show ∀ wb,Ext wr wb->vQ (jff (ks k)) #[x,.string (p++nib1 k),.slice a2 m c2] wb (EnP w0 ((E++[(jbC p,u)])++entK ks p k++entP (ks k) (p++nib1 k)))from fun wb e=>b3.o k hlt hn w0 wb T x (Dk k) (p++nib1 k) _ m (kk - 1) _ J (by rw[<-A];exact O.o.mono e) X.2 (by rw[jdi];have:(nib1 k).size=1:=rfl;have:=a4.o;have:=X.1;omega) (by have:=b8.o;have:=b5.o;omega));have Q:=Hd q;have b1:(k:Int) < 256:=vO
    have d3:p.size+(nib1 k).size<=900001:=by have:(nib1 k).size=1:=rfl;have:=a4.o;omega
    have b2:(k:Int) < 16:=vO
    clear q hn hv J a9 X b9;subst A;go_wp2_with fail
    refine (Z.o _ ((ExtR wr).alloc _)).mono ?_;rintro e w2 ⟨v2,m2,rfl,a0⟩;have c0:=Hd a0
    obtain⟨a3,c3,c1⟩:=a0.sl
    subst c1;clear a0;go_wp2_with fail
    go_roundw
    case rel=>exact⟨k+1,m2,by omega,by go_num,by rw[Q.o, <-bX];exact c0.o⟩
    case measure=>exact vJ
  ·obtain rfl:k=16:=vO
   subst A;go_wp2_with fail
   go_ret
   exact⟨_,_,rfl,O.o⟩
theorem ju6(w0 W:vW)(u p:vB)(ks:Nat->PA)(b:Nat)(vk:Nat->vV)(Dk:Nat->Nat->Prop)(hb:BrRd u ks b vk Dk w0)(v:vV)(n kk:Nat)(E:vL)(h:ERow w0 W v n E)(hd:Dp (.br u ks) kk)(hs:p.size+kk<=900000)(hn:n+1+sumF (fun i=>cntP (ks i)) 16<=100000)(ih:∀ i,i < 16->(ks i).isNil=false->EntC (ks i))(ho:jdt p=true)(hu:u.size=0) :
  vQ 207 #[.pointer (some ⟨b,0,none⟩),.string p,v] W (EnP w0 (E++entK ks p 16)):=by
 have H:=Hd hb;have a8:=Hd hd;have a4:=Hd hs;have a9:=Hd ih;have b0:=Hd h.ext;have H0:=Hd h;have b3:=h.len';have q0:=jaa (hb.blk.cellL (i:=0) (v:=.string u) vF) h.ext;have K:=jbf (hb.blk.keeps h.ext (fun e=>e));have c1:(⟨#[]⟩:vB).toList.isEmpty=true:=by rw[bN];rfl
 have c4:=jk8;have z:=js0 W p vO;unfold keyV at z
 obtain⟨a,c,a1⟩:=h.sl
 rw[ho,if_pos rfl]at z;have HK:=Hd z;have b4:=ja1 hu;subst b4;have b5:=Hd (show E.length+sumF (fun i=>cntP (ks i)) 16<=100000 by omega);have hB:=Hd hb.blk;have Q0:=Hd q0;clear hb hd hs ih h hn ho z K hu q0;subst a1;go_enter Tryz.func207,Tryz.ntmps207;go_wp2_with fail
 refine HK.o.mono ?_;rintro e w1 ⟨rfl,hE⟩;have q0:=jaa Q0.o hE;have K:=jbf (hB.o.keeps (b0.o.trans hE) (fun e=>e));have b6:=Hd (H0.o.mono hE);clear hE b3;go_wp2_with (refine jaf 210 (.tmp 35) rfl rfl _ _ rfl K ?_)
 go_loopw [2,37] (fun tv iv wr=>jxF w0 ks p E tv iv wr) (fun _ iv _=>16 - (intOf iv).toNat)
 case atStart=>exact⟨0,n,by omega,rfl,by rw[show entK ks p 0=[]from rfl,bU];exact b6.o⟩
 case round =>
  obtain⟨k,m,hk,rfl,hR⟩:=hrel
  have O:=Hd hR;have a5:m<=E.length+sumF (fun i=>cntP (ks i)) k:=by
   have h1:=hR.len';have h2:=jkQ ks p k;rw[bF]at h1;omega
  have b7:=Hd a5
  obtain⟨a2,c2,A⟩:=hR.sl
  clear hR a5
  by_cases hlt:k < 16
  ·have a6:=je6 vk hlt
   have q:=jiB ks p k;rcases (H.o.kid k hlt).at'.kid with⟨hn,hv⟩ |⟨hn,T,x,hv⟩
   ·rw[hn,if_pos rfl,bU]at q
    rw[hv]at a6;have Q:=Hd q;clear q hn hv;subst A;go_wp2;go_roundw
    case rel=>exact⟨k+1,m,by omega,by go_num,by rw[Q.o];exact O.o⟩
    case measure=>exact vJ
   ·rw[hn,if_neg ff]at q
    rw[hv]at a6;have hq:=jdL T x;have J:=H.o.kid k hlt;rw[hv]at J;have a7:=J.at'.meth;have c5:∀ w,(Go.method (403+1) T x "guilloche/trie.entries").run Tryz.prog w=.ok (jff (ks k),x) w:=a7.ent;have c6:=jdp (ks k);have c7:=jkK wr hlt;have X:=a8.o k hn;have b8:sumF (fun i=>cntP (ks i)) k+cntP (ks k)<=sumF (fun i=>cntP (ks i)) 16:=by
     have h1:=jeK (fun i=>cntP (ks i)) (k+1) (15 - k);rw[show k+1+(15 - k)=16 by omega]at h1;exact h1
    have Z:=Hd (show ∀ wb,Ext wr wb->vQ (jff (ks k)) #[x,.string (p++nib1 k),.slice a2 m c2] wb (EnP w0 (E++entK ks p k++entP (ks k) (p++nib1 k)))from fun wb e=>a9.o k hlt hn w0 wb T x (Dk k) (p++nib1 k) _ m (kk - 1) _ J (by rw[<-A];exact O.o.mono e) X.2 (by rw[jdi];have:(nib1 k).size=1:=rfl;have:=a4.o;have:=X.1;omega) (by have:=b7.o;have:=b5.o;omega));have Q:=Hd q;have b1:(k:Int) < 256:=vO
    have c8:p.size+(nib1 k).size<=900001:=by have:(nib1 k).size=1:=rfl;have:=a4.o;omega
    have b2:(k:Int) < 16:=vO
    clear q hn hv J a7 X b8;subst A;go_wp2_with fail
    refine (Z.o _ ((ExtR wr).alloc _)).mono ?_;rintro e w2 ⟨v2,m2,rfl,a0⟩;have b9:=Hd a0
    obtain⟨a3,c3,c0⟩:=a0.sl
    subst c0;clear a0;go_wp2_with fail
    go_roundw
    case rel=>exact⟨k+1,m2,by omega,by go_num,by rw[Q.o, <-bX];exact b9.o⟩
    case measure=>exact vJ
  ·obtain rfl:k=16:=vO
   subst A;go_wp2_with fail
   go_ret
   exact⟨_,_,rfl,O.o⟩
end
theorem jld:∀ (P:PA),EntC P
 | .nil=>fun o W T x D p v n k E h _ _ _ _=>by cases h.at'
 | .no=>fun o W T x D p v n k E h A _ _ _=>by
  have e:Value.iface T x=noV:=h.at';unfold noV at e;injection e with e1 e2;subst e1 e2;show Calls _ _ _ W (EnP o (E++[]));rw[bU];exact jyL o W p v n E A
 | .leaf q u=>fun o W T x D p v n k E h A H K J=>by
  obtain⟨b,e,h1,O⟩:=h.at'
  unfold jju at e;injection e with e1 e2;subst e1 e2;have H:q.size<=k:=H;have J:n+1<=100000:=J;exact jAE o W q u p b O v n E A vO vO
 | .ext q m=>fun o W T x D p v n k E h A H K J=>by
  obtain⟨b,T',x',Dn,e,h1,O,Z,h4,h5⟩:=h.at'
  unfold extV at e;injection e with e1 e2;subst e1 e2;have J:n+(1+cntP m)<=100000:=J;have h1:=H.1;exact jAj o W q m T' x' Dn b O Z (fun z hz=>h.lt z (h5 z hz)) p v n (k - q.size) E A H.2 (by rw[jdi];omega) vO (jld m)
 | .br u ks=>fun o W T x D p v n k E h A H K J=>by
  obtain⟨b,Q,X,e,h1,O,Z,h4⟩:=h.at'
  unfold brV at e;injection e with e1 e2;subst e1 e2;have hb:BrRd u ks b Q X o:=⟨O,fun i hi=>⟨(Z i hi).1,fun z hz=>h.lt z ((Z i hi).2.2 z hz)⟩⟩;have J:n+(1+sumF (fun i=>cntP (ks i)) 16)<=100000:=J;have ih:∀ i,i < 16->(ks i).isNil=false->EntC (ks i):=fun i _ _=>jld (ks i);show Calls _ _ _ W (EnP o (E++((if u.size=0 then []else keyR p u)++entK ks p 16)));unfold keyR;rw[<-bX]
  by_cases hu:u.size=0
  ·rw[if_pos hu,bU]
   cases ho:jdt p with
   | true=>exact ju6 o W u p ks b Q X hb v n k E A H K vO ih ho hu
   | false=>exact jr0 o W u p ks b Q X hb v n k E A H K vO ih ho
  ·rw[if_neg hu]
   cases ho:jdt p with
   | true=>rw[if_pos rfl];exact ju7 o W u p ks b Q X hb v n k E A H K vO ih ho hu
   | false=>rw[if_neg ff,bU];exact jr0 o W u p ks b Q X hb v n k E A H K vO ih ho
section
attribute [local go_sem] Oper.semAt_some
def jgw(k:Key)(L:vT):vT:=L.map fun x=>if x.1=k then (x.1,x.2.1,putF 2 (x.2.2.used+1) x.2.2)else x
def jeR(T:vM)(L:vT):vT:=T.foldl (fun L r=>jgw r.data.toList L) L
theorem jqG(T:vM)(r:vB)(L:vT):jeR (T++[r]) L=jgw r.data.toList (jeR T L):=by unfold jeR;rw[fM];rfl
theorem jqF(k:Key)(L:vT):(jgw k L).map (·.1)=L.map (·.1):=by
 unfold jgw;rw[dL];refine dF (fun x _=>?_);simp only[Function.comp];split <;> rfl
theorem jqE(k:Key)(L:vT):(jgw k L).map (·.2.1)=L.map (·.2.1):=by
 unfold jgw;rw[dL];refine dF (fun x _=>?_);simp only[Function.comp];split <;> rfl
theorem jhh:∀ (T:vM) (L:vT),(jeR T L).map (·.1)=L.map (·.1)
 | [],_=>rfl
 | r :: T,L=>by
  show (jeR T (jgw r.data.toList L)).map (·.1)=_;rw[jhh T,jqF]
theorem jhg:∀ (T:vM) (L:vT),(jeR T L).map (·.2.1)=L.map (·.2.1)
 | [],_=>rfl
 | r :: T,L=>by
  show (jeR T (jgw r.data.toList L)).map (·.2.1)=_;rw[jhg T,jqE]
theorem joO{A B:vT}(h:A.map (·.1)=B.map (·.1))(k:Key):(atL A k).isSome=(atL B k).isSome:=by
 have e:∀ L:vT,(atL L k).isSome=(L.map (·.1)).any (fun y=>decide (k=y)):=fun L=>by
  unfold atL;rw[List.isSome_find?,List.any_map];rfl
 rw[e,e,h]
theorem jjF:∀ (T:vM) (L:vT) (lo hi:Int),(∀ x∈L,lo<=x.2.2.used/\x.2.2.used<=hi)->∀ x∈jeR T L,lo<=x.2.2.used/\x.2.2.used<=hi+T.length
 | [],L,lo,hi,h=>fun x e=>by have:=h x e;simp;exact this
 | r :: T,L,lo,hi,h=>fun x e=>by
  have:=jjF T (jgw r.data.toList L) lo (hi+1) (fun y o=>by
   obtain⟨z,q,rfl⟩:=bI.1 o
   have:=h z q
   split
   ·simp only[putF,if_true];omega
   ·omega) x e
  rw[bO];omega
def kvR(x:Nd5):Nat × vB × vM:=(x.2.1,x.2.2.text,x.2.2.refs)
def Like(W:vW)(bg:Nat)(G:vT):Prop:=∃ G',jdy W bg G'/\∀ k,(atL G' k).map kvR=(atL G k).map kvR
theorem ju3(f c:Nat)(v:Int)(L:vT)(k:Key):atL (L.map (setB f c v)) k=(atL L k).map (setB f c v):=by
 unfold atL;rw[List.find?_map]
 congr 1
 refine congrFun (congrArg _ (funext fun x=>?_)) L;simp only[Function.comp,setB];split <;> rfl
theorem jvV(f c:Nat)(v:Int)(x:Nd5):kvR (setB f c v x)=kvR x:=by
 unfold setB kvR putF
 by_cases e:x.2.1=c
 ·rw[if_pos e]
  by_cases e2:f=2
  ·rw[if_pos e2]
  ·rw[if_neg e2]
 ·rw[if_neg e]
theorem Like.setF{W:vW}{bg:Nat}{G:vT}(h:Like W bg G){c:Nat}{it:It}(hc:je9 W c it){f:Nat}(hf:f=2\/f=3)(v:Int):Like (W.setCell ⟨c,f,none⟩ (.int .i64 v)) bg G:=by
 obtain⟨q,e,o⟩:=h
 refine⟨_,e.setF hc hf v,fun k=>?_⟩
 rw[ju3,Option.map_map, <-o k]
 congr 1
 funext x
 exact jvV f c v x
theorem jud{W:vW}{bm:Nat}{L:vT}(h:jdy W bm L){k:Key}{y:Nd5}(hy:atL L k=some y):L.map (setB 2 y.2.1 (y.2.2.used+1))=jgw k L:=by
 obtain⟨E,H,_,z⟩:=h.mp
 have o:=z.keys;rw[dL]at o;have o:(L.map (·.1)).Nodup:=o;unfold jgw;refine dF (fun x q=>?_);unfold setB
 by_cases e:x.2.1=y.2.1
 ·have:x=y:=jbJ h.blks q (jaU hy).1 e
  subst this;rw[if_pos rfl,if_pos (jaU hy).2]
 ·rw[if_neg e,if_neg]
  intro A
  have:x=y:=jbJ o q (jaU hy).1 (A.trans (jaU hy).2.symm)
  subst this;exact e rfl
structure Ad2(w5:World)(s bm bg:Nat)(room:Int)(S1 G:vT)(F:vM)(v:Value)(T:vM)(W:World):Prop where
 kp:jag (fun z=>z∈S1.map (·.2.1)) w5 W
 st:jax W s bm room (jeR T S1)
 gv:Like W bg G
 row:W.ownsRow 0 9 1 v F.length (F.map Value.string)
theorem Ad2.bump{w5:vW}{s bm bg:Nat}{room:Int}{S1 G:vT}{F:vM}{v:vV}{T:vM}{W:vW}(h:Ad2 w5 s bm bg room S1 G F v T W)
  (hu:∀ x∈S1,0<=x.2.2.used/\x.2.2.used<=1000000000) (hT:T.length<=1000000) (r:vB) (hr:(atL S1 r.data.toList).isSome=true) :
  ∃ (zb:Nat) (u:Int),(Instr.lookup 55 (.map (some bm)) (.string r) false).run Tryz.prog W=.ok (.pointer (some ⟨zb,0,none⟩)) W/\W.cell? ⟨zb,2,none⟩=some (.int .i64 u)/\W.frozen? ⟨zb,2,none⟩=false/\0<=u/\u<=2000000000 /\
   Ad2 w5 s bm bg room S1 G F v (T++[r]) (W.setCell ⟨zb,2,none⟩ (.int .i64 (u+1)))/\∀ A n xs,W.ownsRow 0 9 1 A n xs->(W.setCell ⟨zb,2,none⟩ (.int .i64 (u+1))).ownsRow 0 9 1 A n xs:=by
 have Q:(atL (jeR T S1) r.data.toList).isSome=true:=by rw[joO (jhh T S1)];exact hr
 obtain⟨y,H⟩:=dV.1 Q
 have o:=(jaU H).1;have J:=h.st.mp.items y o
 obtain⟨A,hb,X⟩:=J.cells
 have q:=h.st.mp.look r false;rw[H]at q;simp only[cO,if_false]at q;have E:jag (fun z=>z=y.2.1) W (W.setCell ⟨y.2.1,2,none⟩ (.int .i64 (y.2.2.used+1))):=jag.oneSet W ⟨y.2.1,2,none⟩ _;have hN:jjo W (fun z=>z=y.2.1):=fun z Z fz e hz=>by
  have e:z=y.2.1:=e;subst e
  have:=hb.uniq hz;injection this with _ h2;exact absurd h2 vI
 have K:y.2.1∈S1.map (·.2.1):=by rw[<-jhg T S1];exact bI.2 ⟨y,o,rfl⟩
 have O:=jjF T S1 0 1000000000 hu y o
 refine⟨y.2.1,y.2.2.used,q,hb.cell (i:=2) vF,hb.frozen,O.1,by omega,⟨h.kp.trans (E.mono (fun z _ e=>by have e:z=_:=e;rw[e];exact K)),⟨h.st.st.keeps E (fun e=>?_),?_⟩,h.gv.setF J (.inl rfl) _,jgY h.row E hN⟩,fun A n xs hx=>jgY hx E hN⟩
 ·have e:s=y.2.1:=e
  rw[e]at h
  have:=hb.uniq h.st.st;injection this with _ h2;exact absurd h2 vI
 ·rw[jqG, <-jud h.st.mp H]
  exact h.st.mp.setF J (.inl rfl) _
def jkE(k:Key)(L:vT):vT:=L.map fun x=>if x.1=k then (x.1,x.2.1,putF 3 (x.2.2.held+1) x.2.2)else x
theorem jrm{W:vW}{bm:Nat}{L:vT}(h:jdy W bm L){k:Key}{y:Nd5}(hy:atL L k=some y):L.map (setB 3 y.2.1 (y.2.2.held+1))=jkE k L:=by
 obtain⟨E,H,_,z⟩:=h.mp
 have o:=z.keys;rw[dL]at o;have o:(L.map (·.1)).Nodup:=o;unfold jkE;refine dF (fun x q=>?_);unfold setB
 by_cases e:x.2.1=y.2.1
 ·have:x=y:=jbJ h.blks q (jaU hy).1 e
  subst this;rw[if_pos rfl,if_pos (jaU hy).2]
 ·rw[if_neg e,if_neg]
  intro A
  have:x=y:=jbJ o q (jaU hy).1 (A.trans (jaU hy).2.symm)
  subst this;exact e rfl
theorem jjE:∀ (T:vM) (L:vT) (lo hi:Int),(∀ x∈L,lo<=x.2.2.held/\x.2.2.held<=hi)->∀ x∈jeR T L,lo<=x.2.2.held/\x.2.2.held<=hi
 | [],L,lo,hi,h=>fun x e=>h x e
 | r :: T,L,lo,hi,h=>fun x e=>by
  refine jjE T (jgw r.data.toList L) lo hi (fun y o=>?_) x e
  obtain⟨z,q,rfl⟩:=bI.1 o
  have:=h z q
  split
  ·simp only[putF,if_true];exact this
  ·exact this
theorem Ad2.hold{w5:vW}{s bm bg:Nat}{room:Int}{S1 G:vT}{F:vM}{v:vV}{T:vM}{W:vW}(h:Ad2 w5 s bm bg room S1 G F v T W)
  (hu:∀ x∈S1,0<=x.2.2.held/\x.2.2.held<=1000000000) (r:vB) (hr:(atL S1 r.data.toList).isSome=true) :
  ∃ (zb:Nat) (u:Int),(Instr.lookup 55 (.map (some bm)) (.string r) false).run Tryz.prog W=.ok (.pointer (some ⟨zb,0,none⟩)) W/\W.cell? ⟨zb,3,none⟩=some (.int .i64 u)/\W.frozen? ⟨zb,3,none⟩=false/\0<=u/\u<=1000000000 /\
   jax (W.setCell ⟨zb,3,none⟩ (.int .i64 (u+1))) s bm room (jkE r.data.toList (jeR T S1))/\jag (fun z=>z∈S1.map (·.2.1)) w5 (W.setCell ⟨zb,3,none⟩ (.int .i64 (u+1))):=by
 have O:(atL (jeR T S1) r.data.toList).isSome=true:=by rw[joO (jhh T S1)];exact hr
 obtain⟨y,E⟩:=dV.1 O
 have o:=(jaU E).1;have J:=h.st.mp.items y o
 obtain⟨X,hb,Q⟩:=J.cells
 have q:=h.st.mp.look r false;rw[E]at q;simp only[cO,if_false]at q;have K:jag (fun z=>z=y.2.1) W (W.setCell ⟨y.2.1,3,none⟩ (.int .i64 (y.2.2.held+1))):=jag.oneSet W ⟨y.2.1,3,none⟩ _;have H:y.2.1∈S1.map (·.2.1):=by rw[<-jhg T S1];exact bI.2 ⟨y,o,rfl⟩
 have A:=jjE T S1 0 1000000000 hu y o
 refine⟨y.2.1,y.2.2.held,q,hb.cell (i:=3) vF,hb.frozen,A.1,A.2,⟨h.st.st.keeps K (fun e=>?_),?_⟩,h.kp.trans (K.mono (fun z _ e=>by have e:z=_:=e;rw[e];exact H))⟩
 ·have e:s=y.2.1:=e
  rw[e]at h
  have:=hb.uniq h.st.st;injection this with _ h2;exact absurd h2 vI
 ·rw[<-jrm h.st.mp E]
  exact h.st.mp.setF J (.inr rfl) _
def jc9(G:vT)(F:vM):vT:=F.filterMap fun x=>atL G x.data.toList
theorem jrc{G:vT}{F:vM}{i:Nat}{x:vB}{y:Nd5}(hx:F[i]?=some x)(hy:atL G x.data.toList=some y):jc9 G (F.take (i+1))=jc9 G (F.take i)++[y]:=by
 unfold jc9;rw[cE,hx,List.filterMap_append];simp[hy]
theorem jbT{G:vT}{F:vM}{y:Nd5}(h:y∈jc9 G F):y∈G/\∃ x∈F,y.1=x.data.toList:=by
 obtain⟨x,o,e⟩:=List.mem_filterMap.1 h
 exact⟨(jaU e).1,x,o,(jaU e).2⟩
theorem jxZ{A B:vT}{k:Key}(h:∀ x∈B,k≠x.1):atL (A++B) k=atL A k:=by
 unfold atL;rw[List.find?_append]
 have:B.find? (fun x=>decide (k=x.1))=none:=by rw[List.find?_eq_none];simpa using h
 rw[this];simp
theorem jdy.notRow{W:vW}{bm:Nat}{L:vT}(h:jdy W bm L):jjo W (fun z=>z=bm):=fun z o E e q=>by
 obtain⟨H,J,A,_⟩:=h.mp
 have e:z=bm:=e;subst e
 have:=A.uniq q;cases this
structure Ad1(w4:World)(s bm bg:Nat)(room:Int)(S G:vT)(F:vM)(v:Value)(i:Nat)(W:World):Prop where
 kp:jag (fun z=>z=bm) w4 W
 st:jax W s bm room (S++jc9 G (F.take i))
 gv:jdy W bg G
 row:W.ownsRow 0 9 1 v F.length (F.map Value.string)
theorem Ad1.ext{w4:vW}{s bm bg:Nat}{room:Int}{S G:vT}{F:vM}{v:vV}{i:Nat}{W W':vW}(h:Ad1 w4 s bm bg room S G F v i W)(e:Ext W W'):Ad1 w4 s bm bg room S G F v i W':=
 ⟨h.kp.trans (e.mono (fun _ _ g=>g.elim)),h.st.ext e,h.gv.ext e,jbm h.row e⟩
theorem Ad1.put{w4:vW}{s bm bg:Nat}{room:Int}{S G:vT}{F:vM}{v:vV}{i:Nat}{W:vW}(h:Ad1 w4 s bm bg room S G F v i W)
  (hSG:∀ x∈S,∀ y∈G,x.2.1≠y.2.1) (hbg:bg≠bm) (hv:∀ z,v.ownBlock=some z->z≠bm) (hnd:F.Nodup) (hFS:∀ x∈F,atL S x.data.toList=none)
  {x:vB} {y:Nd5} (hx:F[i]?=some x) (hy:atL G x.data.toList=some y) :
  ∃ o,(Instr.mapUpdate 55 (.map (some bm)) (.string x) (.pointer (some ⟨y.2.1,0,none⟩))).run Tryz.prog W=.ok () (W.putObj bm o)/\Ad1 w4 s bm bg room S G F v (i+1) (W.putObj bm o):=by
 have Z:∀ z∈jc9 G (F.take i),x.data.toList≠z.1:=fun z q e=>by
  obtain⟨_,x',K,e'⟩:=jbT q
  have:=jnK (e.trans e')
  subst this;exact jq8 hnd hx K
 have hn:atL (S++jc9 G (F.take i)) x.data.toList=none:=by rw[jxZ Z];exact hFS x (bJ hx)
 have A:=(jaU hy).1;have E:=(jaU hy).2;have H:∀ z∈S++jc9 G (F.take i),z.2.1≠y.2.1:=fun z q e=>by
  rcases bT.1 q with q | q
  ·exact hSG z q y A e
  ·have:=jbJ h.gv.blks (jbT q).1 A e
   subst this;exact Z z q E.symm
 obtain⟨o,O,hA⟩:=h.st.mp.put x hn (h.gv.items y A) H
 have J:jag (fun z=>z=bm) W (W.putObj bm o):=jag.onePut W bm o;have hN:=h.st.mp.notRow;have Q:∀ {c:Nat} {it:It},je9 W c it->¬ c=bm:=fun hi e=>by
  obtain⟨_,hc,_⟩:=hi.cells
  obtain⟨es,ck,X,_⟩:=h.st.mp.mp
  subst e
  have:=X.uniq hc;cases this
 refine⟨o,O,h.kp.trans J,⟨h.st.st.keeps J (fun e=>?_),?_⟩,h.gv.keeps J hbg (fun z q=>Q (h.gv.items z q)) hN,jaY h.row J (fun z q e=>hv z q e)⟩
 ·have e:s=bm:=e
  obtain⟨es,ck,X,_⟩:=h.st.mp.mp
  subst e
  have:=X.uniq h.st.st;cases this
 ·rw[jrc hx hy, <-bX]
  have e:(x.data.toList,y.2.1,y.2.2)=y:=by rw[<-E]
  rw[e]at hA;exact hA
theorem jz4(A B:vT)(k:Key):(atL (A++B) k).isSome=((atL A k).isSome ||(atL B k).isSome):=by
 unfold atL;rw[List.find?_append,Option.isSome_or]
def AdR2(w5:vW)(s bm bg:Nat)(room:Int)(S1 G:vT)(F:vM)(v iv:vV)(W:vW):Prop:=∃ i:Nat,i<=F.length/\iv=.int .i64 i/\Ad2 w5 s bm bg room S1 G F v ((F.take i).flatMap (jcp G)) W
def AdR3(w5:vW)(s bm bg:Nat)(room:Int)(S1 G:vT)(F:vM)(v:vV)(T R:vM)(rv jv:vV)(W:vW):Prop:=∃ j:Nat,j<=R.length/\jv=.int .i64 j/\Ad2 w5 s bm bg room S1 G F v (T++R.take j) W/\W.ownsRow 0 9 1 rv R.length (R.map Value.string)
def AdR1(w4:vW)(s bm bg:Nat)(room:Int)(S G:vT)(F:vM)(v iv:vV)(W:vW):Prop:=∃ i:Nat,i<=F.length/\iv=.int .i64 i/\Ad1 w4 s bm bg room S G F v i W
theorem jul(w:vW)(a:Option Addr)(c:Nat):vR 23 #[.slice a 0 c] w (.tuple #[.map none,.int .i64 2]):=by
 go_enter Tryz.func23,Tryz.ntmps23;go_wp2_with fail
 go_ret2
 exact⟨rfl,ExtR w⟩
theorem jxV(w:vW)(p:vV)(a:Option Addr)(c:Nat):vR 8 #[p,.slice a 0 c] w (.tuple #[.string ⟨#[]⟩,.int .i64 2]):=by
 go_enter Tryz.func8,Tryz.ntmps8;go_wp2_with fail
 refine vH (jul w a c) fun w1 e=>?_;go_wp2_with fail
 go_ret2
 exact⟨rfl,e.o⟩
def InjL(l:vM):Prop:=∀ x∈l,∀ y∈l,shaB x=shaB y->x=y
theorem InjL.step{L:vM}{i:Nat}{t:vB}(h:InjL (L.take i))(ht:L[i]?=some t)(hs:∀ x∈L.take i,shaB x=shaB t->x=t):InjL (L.take (i+1)):=by
 intro x o y q e;rw[cE,ht]at o q;rcases bT.1 o with h1 | h1 <;> rcases bT.1 q with h2 | h2
 ·exact h x h1 y h2 e
 ·simp at h2;subst h2;exact hs x h1 e
 ·simp at h1;subst h1;exact (hs y h2 e.symm).symm
 ·simp at h1 h2;rw[h1,h2]
def ApR1(w:vW)(L:vM)(hv iv:vV)(W:vW):Prop:=∃ i:Nat,i<=L.length/\iv=.int .i64 i/\SRow w W hv i ((L.take i).map shaB)/\InjL (L.take i)
def ApR2(w4:vW)(L:vM)(t:vB)(i:Nat)(kv:vV)(W:vW):Prop:=∃ k:Nat,k<=i/\kv=.int .i64 k/\Ext w4 W/\∀ x∈L.take k,shaB x=shaB t->x=t
def ApP(L:vM)(w:vW)(e:Ending)(w':vW):Prop:=∃ b,e=.returned (.bool b)/\(b=true↔InjL L)/\Ext w w'
theorem jrV(w:vW)(hc:jbN w)(v:vV)(L:vM)(hv:RdS w v L)(hl:L.length<=1000000):vQ 62 #[v] w (ApP L w):=by
 obtain⟨a,c,rfl,_⟩:=hv.slice
 have HV:=Hd hv;have HC:=Hd hc;clear hv hc;go_enter Tryz.func62,Tryz.ntmps62;go_wp2_with fail
 go_loopw [3,4] (fun hv iv wr=>ApR1 w L hv iv wr) (fun _ iv _=>L.length - (intOf iv).toNat)
 case atStart=>exact⟨0,bY _,rfl,ORow.nil _ _ (ExtR w),fun x K=>by cases K⟩
 case round =>
  obtain⟨i,hi,rfl,hR,hI⟩:=hrel
  obtain⟨ah,ch,rfl⟩:=hR.sl
  have HR:=Hd hR;have HI:=Hd hI;clear hR hI
  by_cases hlt:i < L.length
  ·have b1:(i:Int) < (L.length:Int):=vO
   obtain⟨t,ht⟩:∃ t,L[i]?=some t:=⟨_,bA hlt⟩
   obtain⟨ax,cx,hh,q⟩:=HV.o.slice
   obtain⟨ba,oa,a9,X⟩:=q i t ht
   subst a9;cases hh;have q1:=jaa X HR.o.ext;have HT:=Hd ht;have b0:=Hd X;have b4:=Hd (show ∀ (j:Nat) x,L[j]?=some x->w.cell? ⟨ba,oa+j,none⟩=some (.string x)from fun j x K=>by
    obtain⟨b',o',e,h⟩:=q j x K
    cases e;exact h)
   clear q X ht;go_wp2_with fail
   refine vH (of_t _ _ [t] (by simp) (jbK wr [t] 9) (HC.o.ext (HR.o.ext.alloc _))) fun w4 hE=>?_;rw[jc1];have Z:=((ExtR wr).alloc (.cells #[.string t] 9)).trans hE;have a0:=Hd (HR.o.mono Z);have a1:=Hd (HR.o.ext.trans Z)
   obtain⟨sh,a2⟩:=vE (shaB t)
   have a3:=Hd a2;rw[<-a2];clear Z a2 q1 HR;go_wp2_with fail
   go_loopw [6] (fun kv b5=>ApR2 w4 L t i kv b5) (fun kv _=>i - (intOf kv).toNat)
   case atStart=>exact⟨0,bY _,rfl,ExtR w4,fun x K=>by cases K⟩
   case round =>
    obtain⟨k,hk,rfl,hE,hs⟩:=hrel
    have H:=Hd hE;have HS:=Hd hs;clear hE hs
    by_cases hlt2:k < i
    ·have b2:(k:Int) < (i:Int):=vO
     have b3:(k:Int) < (L.length:Int):=vO
     obtain⟨x,K⟩:∃ x,L[k]?=some x:=⟨_,bA vO⟩
     have O:((L.take i).map shaB)[k]?=some (shaB x):=by rw[cA,List.getElem?_take,if_pos hlt2,K];rfl
     have a7:=jkb a0.o.own;have A:∃ bh oh,ah=some ⟨bh,oh,none⟩/\w4.cell? ⟨bh,oh+k,none⟩=some (.string (shaB x)):=by
      rcases a7 with⟨_,_,_,h0⟩ |⟨bq,oq,cq,hh,_,_,q⟩
      ·rw[h0]at O;cases O
      ·exact⟨bq,oq,(fY hh).1,q k _ O⟩
     obtain⟨bh,oh,rfl,A⟩:=A
     obtain⟨sx,a4⟩:=vE (shaB x)
     rw[<-a4]at A;have a8:=Hd a4;have Q1:=Hd (jaa A H.o);have Q2:=Hd (jaa (b4.o k x K) (a1.o.trans H.o));have Q3:=Hd (jaa b0.o (a1.o.trans H.o));have HX:=Hd K;clear K O a7 A a4;go_wp2_with fail
     refine jan [0,1,2,3,4,5,6,7,8,9,10,11,12,13,14,15,16] Ext ExtR ExtT vY vY vY ?_;iterate 3 refine vK ?_
     refine qKL ⟨bh,oh+k,none⟩ _ rfl (fun w1 E=>jac Tryz.underlying9 rfl (jaa Q1.o ((jaq _).trans E))) ?_;refine vS ?_;iterate 3 refine vK ?_
     cases hq:(sx.toList == sh.toList)with
     | false =>
      have HN:=Hd (show shaB x=shaB t->x=t from fun e=>by
       rw[<-a8.o, <-a3.o]at e;rw[e]at hq;simp at hq)
      clear hq;iterate 9 (refine qKS _ rfl ?_;refine vS ?_)
      refine vK ?_
      refine qKE (fun w5 Q=>?_);have J:=Hd (H.o.trans ((jaq _).trans Q));have a5:=Hd (show ∀ z∈L.take (k+1),shaB z=shaB t->z=t from fun z hz e=>by
       rw[cE,HX.o]at hz;rcases bT.1 hz with E | E
       ·exact HS.o z E e
       ·simp at E;subst E;exact HN.o e)
      clear Q Q1 Q2 Q3 H HS;go_wp2_with fail
      go_roundw
      case rel=>exact⟨k+1,by omega,by go_num,J.o,a5.o⟩
      case measure=>exact vJ
     | true =>
      have b6:=Hd (show shaB x=shaB t by rw[<-a8.o, <-a3.o];exact jhI (by simpa using hq));clear hq;iterate 3 refine vK ?_
      refine qKL ⟨ba,oa+k,none⟩ _ rfl (fun w1 E=>jac Tryz.underlying9 rfl (jaa Q2.o ((jaq _).trans E))) ?_;refine vS ?_;iterate 3 refine vK ?_
      refine qKL ⟨ba,oa+i,none⟩ _ rfl (fun w1 E=>jac Tryz.underlying9 rfl (jaa Q3.o ((jaq _).trans E))) ?_;refine vS ?_
      refine vK ?_
      cases A:(x.toList == t.toList)with
      | true =>
       have HN:Hid (x=t):=(jhI (by simpa using A));have hb:(!true)=false:=rfl;clear A;rw[hb]
       refine vK ?_
       refine qKE (fun w5 Q=>?_);have J:=Hd (H.o.trans ((jaq _).trans Q));have a5:=Hd (show ∀ z∈L.take (k+1),shaB z=shaB t->z=t from fun z hz e=>by
        rw[cE,HX.o]at hz;rcases bT.1 hz with E | E
        ·exact HS.o z E e
        ·simp at E;subst E;exact HN.o)
       clear Q Q1 Q2 Q3 H HS hb;go_wp2_with fail
       go_roundw
       case rel=>exact⟨k+1,by omega,by go_num,J.o,a5.o⟩
       case measure=>exact vJ
      | false =>
       have hb:(!false)=true:=rfl;have b7:=Hd (show ¬ InjL L from fun h=>by
        have:=h x (bJ HX.o) t (bJ HT.o) b6.o
        rw[this]at A;simp at A)
       clear A;rw[hb]
       refine vK ?_
       refine qKE (fun w5 Q=>?_);have J:=Hd (H.o.trans ((jaq _).trans Q));clear Q Q1 Q2 Q3 H HS hb;go_wp2_with fail
       go_ret
       exact⟨false,rfl,⟨fun e=>(by cases e),fun h=>absurd h b7.o⟩,a1.o.trans J.o⟩
    ·have b8:k=i:=vO
     subst b8;have b9:=Hd (HI.o.step HT.o HS.o);have c0:=Hd (a0.o.mono H.o);have c1:=Hd (show (L.take (k+1)).map shaB=(L.take k).map shaB++[sh] by rw[cE,HT.o,bZ,a3.o];rfl);have c2:k+1<=maxLen:=by unfold maxLen;omega
     have c3:(k+1) * 16<=140737488355328:=vO
     clear HS HI H a0;go_wp2_with (at_builtin;refine jba Tryz.sStrs (c0.o.mono ((ExtR wr).alloc _)) (.tmp 41) (.tmp 43) rfl rfl rfl (ja3 (Blk.new wr _)) (news:=[.string sh]) (by intro u hu;simp at hu;rcases hu with rfl;rfl) rfl rfl c2 c3 ?_;intro v' w' r1 r2 r3)
     have a6:SRow w w' v' (k+1) ((L.take (k+1)).map shaB):=by unfold SRow;rw[c1.o,bZ];exact r1
     obtain⟨c7,c8,rfl⟩:=a6.sl
     have c4:=Hd a6;clear r1 r2 r3 a6;go_wp2_with fail
     go_roundw
     case rel=>exact⟨k+1,by omega,by go_num,c4.o,b9.o⟩
     case measure=>exact vJ
  ·have c5:i=L.length:=vO
   have c6:=Hd (show InjL L by have:=HI.o;rwa [c5,cF]at this);clear HI;go_wp2_with fail
   go_ret
   exact⟨true,rfl,⟨fun _=>c6.o,fun _=>rfl⟩,HR.o.ext⟩
end
def cK(T:vM)(k:Key):Nat:=(T.map (·.data.toList)).count k
theorem jz8(A B:vM)(k:Key):cK (A++B) k=cK A k+cK B k:=by unfold cK;rw[bZ,List.count_append]
theorem jkF(r:vB)(B:vM)(k:Key):cK (r :: B) k=cK B k+(if k=r.data.toList then 1 else 0):=by
 unfold cK;rw[bV,List.count_cons]
 by_cases h:k=r.data.toList
 ·rw[if_pos h,h];simp
 ·rw[if_neg h,if_neg];simpa using fun e=>h e.symm
theorem jx7{T:vM}{k:Key}(h:∀ r∈T,r.data.toList≠k):cK T k=0:=by
 unfold cK;rw[List.count_eq_zero];intro o
 obtain⟨r,q,e⟩:=bI.1 o
 exact h r q e
theorem jxf{T:vM}{r:vB}(h:r∈T):1<=cK T r.data.toList:=by
 unfold cK;exact gG.2 (bI.2 ⟨r,h,rfl⟩)
def addU(n:Nat)(x:Nd5):Nd5:=(x.1,x.2.1,⟨x.2.2.text,x.2.2.refs,x.2.2.used+n,x.2.2.held⟩)
def addH(n:Nat)(x:Nd5):Nd5:=(x.1,x.2.1,⟨x.2.2.text,x.2.2.refs,x.2.2.used,x.2.2.held+n⟩)
theorem joV:∀ (T:vM) (L:vT),jeR T L=L.map fun x=>addU (cK T x.1) x
 | [],L=>by
  show L=_
  have:(fun x:Nd5=>addU (cK [] x.1) x)=id:=by
   funext x
   obtain⟨a,b,⟨t,r,u,h⟩⟩:=x
   unfold addU cK;simp
  rw[this,List.map_id]
 | r :: T,L=>by
  show jeR T (jgw r.data.toList L)=_;rw[joV T,jgw,dL];refine dF fun x _=>?_;show addU (cK T (if x.1=r.data.toList then (x.1,x.2.1,putF 2 (x.2.2.used+1) x.2.2)else x).1) (if x.1=r.data.toList then (x.1,x.2.1,putF 2 (x.2.2.used+1) x.2.2)else x)=_;rw[jkF]
  by_cases h:x.1=r.data.toList
  ·simp only[if_pos h]
   unfold addU putF;simp only[if_true];rw[show x.2.2.used+1+((cK T x.1:Nat):Int)=x.2.2.used+((cK T x.1+1:Nat):Int) by omega]
  ·simp only[if_neg h,gV]
theorem jvd(r:vB)(L:vT):jkE r.data.toList L=L.map fun x=>addH (cK [r] x.1) x:=by
 unfold jkE;refine dF fun x _=>?_;rw[jkF]
 by_cases h:x.1=r.data.toList
 ·rw[if_pos h,if_pos h];rfl
 ·rw[if_neg h,if_neg h]
  obtain⟨a,b,⟨t,r,u,h⟩⟩:=x
  unfold addH cK;simp
def jl0(T:vM)(r:vB)(x:Nd5):Nd5:=addH (cK [r] x.1) (addU (cK T x.1) x)
theorem jx4(T:vM)(r:vB)(L:vT):jkE r.data.toList (jeR T L)=L.map (jl0 T r):=by
 rw[jvd,joV,dL];rfl
theorem jr2(T:vM)(r:vB)(L:vT):(L.map (jl0 T r)).map (·.1)=L.map (·.1):=by
 rw[dL];rfl
theorem jr3(T:vM)(r:vB)(L:vT):(L.map (jl0 T r)).flatMap (fun y=>y.2.2.refs)=L.flatMap (fun y=>y.2.2.refs):=by
 rw[List.flatMap_map];rfl
theorem jkd(G:vT):∀ F:vM,F.flatMap (jcp G)=(jc9 G F).flatMap (fun y=>y.2.2.refs)
 | []=>rfl
 | x :: F=>by
  have e:=jkd G F;unfold jc9 at *;rw[cG,gB];cases h:atL G x.data.toList with
  | none=>rw[e];unfold jcp;rw[h];rfl
  | some y=>rw[e,jfU h,cG]
theorem jeX{S:vT}{k:Key}:(atL S k).isSome=true↔k∈S.map (·.1):=by
 constructor
 ·intro h
  obtain⟨y,o⟩:=dV.1 h
  exact bI.2 ⟨y,(jaU o).1,(jaU o).2⟩
 ·intro h
  obtain⟨y,o,e⟩:=bI.1 h
  cases ha:atL S k with
  | some z=>rfl
  | none=>exact absurd e.symm (jkz.1 ha y o)
def jBr(L:vM)(top:vB):Prop:=∀ P:vB->Prop,(∀ t∈L,P (shaB t)->∀ h∈jaK (nodeOf t),P h)->P (shaB top)->∀ t∈L,P (shaB t)
theorem jAA{U:vM}(hU:InjL U){s t:vB}(hs:s∈U)(ht:t∈U)(h:ky s=ky t):s=t:=hU s hs t ht (jnK h)
def addS(S G:vT)(M:vM)(top:vB):vT:=jkE (shaB top).data.toList (jeR ((frK S M).flatMap (jcp G)) (S++jc9 G (frK S M)))
theorem jcO(S G:vT)(M:vM)(top:vB):addS S G M top=(S++jc9 G (frK S M)).map (jl0 ((frK S M).flatMap (jcp G)) (shaB top)):=jx4 _ _ _
theorem jBZ(w:vW)(P:vB->Prop):∀ (f:Nat) (l:vL),jav f l->(∀ t∈jau (jab (f+1) l),P (shaB t)->∀ h∈jaK (nodeOf t),P h)->P (shaB (jaR (jao (jab f) l)))->∀ t∈jau (jab (f+1) l),P (shaB t):=by
 intro f;induction f with
 | zero =>
  intro l h _ H t o;have O:jat (jab 0) l=[]:=by have:=jbD h;unfold jat;rw[if_pos vO]
  have z:jau (jab (0+1) l)=[jaR (jao (jab 0) l)]:=by
   show jau (.mk (jaR (jao (jab 0) l)) (jat (jab 0) l))=_;rw[jau,O];simp[jaH]
  rw[z,bP]at o;subst o;exact H
 | succ f ih =>
  intro l h A H t o;have z:jau (jab (f+1+1) l)=jaR (jao (jab (f+1)) l) :: jaH (jat (jab (f+1)) l):=by
   show jau (.mk (jaR (jao (jab (f+1)) l)) (jat (jab (f+1)) l))=_;rw[jau]
  have Q:=jeh (f+1) l h;have q:jbc (jaR (jao (jab (f+1)) l)) (jao (jab (f+1)) l):=⟨rfl,f+1,(good (f+1) l h).1⟩;rw[z]at o;rcases bM.1 o with rfl | o
  ·exact H
  obtain⟨K,J,o⟩:=jbB.1 o
  obtain⟨g,m,eg,e,X,Z⟩:=jim h J
  obtain rfl:f=g:=vO
  subst e;have E:∀ t∈jau (jab (f+1) m),t∈jau (jab (f+1+1) l):=fun t o=>by
   rw[z];exact bC _ (jbB.2 ⟨_,J,o⟩)
  refine ih m X (fun t o=>A t (E t o)) ?_ t o;refine A _ (by rw[z];exact bD) H _ ?_;rw[jdR w (jb3 q) q,Q];exact bI.2 ⟨_,J,rfl⟩
theorem jwC(w:vW){l:vL}(h:jaD l=0):jBr (ja7 (jau (jay l))) (jay l).text:=fun P o q t e =>
 jBZ w P 12 (jaO l) (jbt (jaE h)) (fun t e=>o t ((jaQ _ _).2 e)) q t ((jaQ _ _).1 e)
theorem jrp(w:vW){l:vL}(h:jaD l=0)(hl:(ja7 (jau (jay l))).length<=1000):jzW (ja7 (jau (jay l))):=
 ⟨fun t o=>by obtain⟨n,e,_⟩:=(jjg h).node t o;exact⟨n,e⟩,
  fun t o x q=>by
  obtain⟨n,e,z⟩:=(jjg h).node t o
  rw[jdR w (jb3 e) e]at q;exact z x q,hl⟩
theorem jax.nd{W:vW}{s bm:Nat}{room:Int}{S:vT}(h:jax W s bm room S):(S.map (·.1)).Nodup:=by
 obtain⟨o,q,_,e⟩:=h.mp.mp
 have:=e.keys
 rw[dL]at this;exact this
section
attribute [local go_sem] Oper.semAt_some
def jbr(l:vL):vM:=ja7 (jau (jay l))
theorem jdW{l:vL}(h:jaD l=0):(jbr l).length<=121:=by
 have e:=(jrq h).1;have o:=(jaE h).len;show (ja7 (jau (jay l))).length<=_;omega
def jzE(l:vL)(w:vW)(e:Ending)(w':vW):Prop:=e=.returned (.tuple #[.pointer none,.string ⟨#[]⟩])/\Ext w w'/\¬(fewB l=true/\jaD l=0/\InjL (jbr l))
end
end Go.Proofs.YtepbencaoiompaaGreatDoor
