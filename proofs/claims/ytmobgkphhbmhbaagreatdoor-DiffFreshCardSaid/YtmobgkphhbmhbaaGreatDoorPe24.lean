/- Lemmas; each is under no condition but those that it states. -/
import Derived.Test.YtmobgkphhbmhbaaGreatDoorPe23
namespace Go.Proofs.YtmobgkphhbmhbaaGreatDoor
set_option linter.unusedSimpArgs false
set_option linter.unusedVariables false
set_option maxRecDepth 100000
set_option maxHeartbeats 16000000
open Go Go.RowKit
section
attribute [local go_sem] Oper.semAt_some
def cutV(s p:vB):vV:=if preB p s then .tuple #[.string (s.extract p.size s.size),.bool true]else .tuple #[.string s,.bool false]
theorem jk3(w:vW)(s p:vB)(hs:s.size<=1000000)(hp:p.size<=1000000):vQ 271 #[.string s,.string p] w fun e w'=>e=.returned (cutV s p)/\w'=w:=by
 unfold cutV;cases hb:preB p s with
 | true =>
  have z:=jko hb;have E:(p.size:Int)<=(s.size:Int):=vO
  have q:=Hd hb;clear hb;go_enter Tryz.func271,Tryz.ntmps271;go_wp2_with fail
  refine (jos w s p hs hp).mono ?_;rintro e w1 ⟨rfl,rfl⟩;rw[q.o];go_wp2_with fail
  go_ret2
  exact⟨rfl,rfl⟩
 | false =>
  have q:=Hd hb;clear hb;go_enter Tryz.func271,Tryz.ntmps271;go_wp2_with fail
  refine (jos w s p hs hp).mono ?_;rintro e w1 ⟨rfl,rfl⟩;rw[q.o];go_wp2_with fail
  go_ret2
  exact⟨rfl,rfl⟩
theorem jhW(w:vW)(s p:vB)(hs:s.size<=1000000)(hp:p.size<=1000000):vQ 270 #[.string s,.string p] w fun e w'=>e=.returned (cutV s p)/\w'=w:=by
 have H:=Hd (jk3 w s p hs hp);unfold cutV at *;cases hb:preB p s with
 | true =>
  rw[hb,if_pos rfl]at H;rw[if_pos rfl];clear hb;go_enter Tryz.func270,Tryz.ntmps270;go_wp2_with fail
  refine H.o.mono ?_;rintro e w1 ⟨rfl,rfl⟩;go_wp2_with fail
  go_ret2
  exact⟨rfl,rfl⟩
 | false =>
  rw[hb,if_neg ff]at H;rw[if_neg ff];clear hb;go_enter Tryz.func270,Tryz.ntmps270;go_wp2_with fail
  refine H.o.mono ?_;rintro e w1 ⟨rfl,rfl⟩;go_wp2_with fail
  go_ret2
  exact⟨rfl,rfl⟩
def js0(P:PA):Prop:=∀ (W:vW) (T:TypeId) (x:vV) (D:Nat->Prop) (p:vB),PaO P (.iface T x) D W->p.size<=900000->jaM p=true->Dp P 900000 ->
 vQ (je3 P) #[x,.string p] W (PaTo D W (jbO P p))
theorem jui(W:vW)(D:Nat->Prop)(p:vB):vQ 276 #[.agg #[],.string p] W (PaTo D W .no):=by
 go_enter Tryz.func276,Tryz.ntmps276;go_wp2_with fail
 go_ret;exact PaTo.mk1 rfl (((ExtR W).alloc _).mono (fun _ _ e=>e.elim))
theorem jwl(W:vW)(D:Nat->Prop)(q v p:vB)(b:Nat)(hB:Blk W b (.cells #[.string q,.string v] 235))(hD:D b):vQ 260 #[.pointer (some ⟨b,0,none⟩),.string p] W (PaTo D W (jbO (.leaf q v) p)):=by
 have J:=hB.cell (i:=0) (v:=.string q) vF;have E:=Hd hB;have H:=Hd hD;have z:jbO (.leaf q v) p=if p=q then .no else .leaf q v:=rfl
 rw[z];clear hB hD z
 by_cases hpq:p=q
 ·rw[if_pos hpq]
  have e:(p.toList == q.toList)=true:=by rw[jdr];exact decide_eq_true hpq
  clear hpq;go_enter Tryz.func260,Tryz.ntmps260;go_wp2_with fail
  go_ret;exact PaTo.mk1 rfl (jad.refl _ W)
 ·rw[if_neg hpq]
  have e:(p.toList == q.toList)=false:=by rw[jdr];exact decide_eq_false hpq
  clear hpq;go_enter Tryz.func260,Tryz.ntmps260;go_wp2_with fail
  go_ret;exact PaTo.mk1 ⟨b,rfl,.inl H.o,E.o⟩ (jad.refl _ W)
theorem jfq:∀ (P:PA) (p:vB),(jbO P p).isNil=false
 | .nil,_=>rfl
 | .no,_=>rfl
 | .leaf q v,p=>by
  unfold jbO;split <;> rfl
 | .ext q n,p=>by
  unfold jbO;split
  ·exact jdy (jfq n _)
  ·rfl
 | .br v ks,p=>by
  have o:∀ v ks,(jdm v ks).isNil=false:=by
   intro v ks;have z:∀ i∈idxK ks,(ks i).isNil=false:=fun i E=>by
    have:=(cH.1 E).2
    simpa using this
   unfold jdm;cases e:idxK ks with
   | nil =>
    show (if v.size=0 then PA.no else .leaf ⟨#[]⟩ v).isNil=false;split <;> rfl
   | cons i r =>
    cases r with
    | nil =>
     show (if v.size=0 then jb8 ⟨#[UInt8.ofNat i]⟩ (ks i)else .br v ks).isNil=false;split
     ·exact jdy (z i (by rw[e];exact bF))
     ·rfl
    | cons j r=>rfl
  unfold jbO;split
  ·exact o _ _
  ·split
   ·rfl
   ·exact o _ _
theorem jtL(W:vW)(D:Nat->Prop)(q:vB)(n:PA)(T:TypeId)(x:vV)(Dn:Nat->Prop)(b:Nat)(hB:Blk W b (.cells #[.string q,.iface T x] 238))(hDb:D b)(hv:PaAt n (.iface T x) Dn W)(hbn:¬ Dn b)(hD:∀ x,Dn x->D x/\x < W.heap.size)(p:vB)(hp:jaM p=true)(hqs:q.size<=900000)(hps:p.size<=900000)(hf:preB q p=false):vQ 266 #[.pointer (some ⟨b,0,none⟩),.string p] W (PaTo D W (.ext q n)):=by
 have J:=hB.cell (i:=0) (v:=.string q) vF;have K:=hB.cell (i:=1) (v:=.iface T x) vF;have Q0:=Hd J;have Q1:=Hd K;have O:=Hd hB;have Q:=Hd hv;have X:Hid (∀ z,Dn z->D z/\z < W.heap.size):=hD;have H:=Hd (bB hDb hbn);have E:=jhW W p q vO vO;unfold cutV at E;rw[hf,if_neg ff]at E;have Z:=Hd E;clear hB hDb hv hbn hD hp hf E;go_enter Tryz.func266,Tryz.ntmps266;go_wp2_with fail
 refine Z.o.mono ?_;rintro e w1 ⟨rfl,rfl⟩;go_wp2_with fail
 go_ret;exact PaTo.mk1 ⟨b,T,x,Dn,rfl,.inl H.o.1,O.o,Q.o,H.o.2,fun z hz=>.inl (X.o z hz).1⟩ (jad.refl _ _)
theorem jtK(W:vW)(D:Nat->Prop)(q:vB)(n:PA)(T:TypeId)(x:vV)(Dn:Nat->Prop)(b:Nat)(hB:Blk W b (.cells #[.string q,.iface T x] 238))(hDb:D b)(hv:PaAt n (.iface T x) Dn W)(hbn:¬ Dn b)(hD:∀ x,Dn x->D x/\x < W.heap.size)(p:vB)(hp:jaM p=true)(hqs:q.size<=900000)(hps:p.size<=900000)(X:Dp n 900000)(hk:js0 n)(hf:preB q p=true) :
  vQ 266 #[.pointer (some ⟨b,0,none⟩),.string p] W (PaTo D W (jb8 q (jbO n (p.extract q.size p.size)))):=by
 have q0:=hB.cell (i:=0) (v:=.string q) vF;have q1:=hB.cell (i:=1) (v:=.iface T x) vF;have Q0:=Hd q0;have Q1:=Hd q1;have HB:=Hd hB;have HV:=Hd hv;have HD:Hid (∀ z,Dn z->D z/\z < W.heap.size):=hD;have a2:=jhW W p q vO vO;unfold cutV at a2;rw[hf,if_pos rfl]at a2;have HC:=Hd a2;have a9:=hB.lt;have a5:=Hd (show ¬(Dn b\/W.heap.size<=b)from fun e=>e.elim hbn (fun e=>by omega));have a1:jaM (p.extract q.size p.size)=true:=jbl hp _ _;have a6:(p.extract q.size p.size).size<=900000:=by rw[jaZ];omega
 have HM:=Hd hv.meth;have a0:=Hd (show ∀ O,Ext W O->vQ (je3 n) #[x,.string (p.extract q.size p.size)] O (PaTo Dn O (jbO n (p.extract q.size p.size)))from fun O e=>hk O T x Dn _ ⟨hv.keeps e _ _ _ (fun _ _ e=>e),fun z E=>bP (hD z E).2 e.size⟩ a6 a1 X);have b0:Hid (Dp (jbO n (p.extract q.size p.size)) 1000000):=(jb7 _ _ _ (jh5 n 900000 _ X) vO);clear hB hDb hv hbn hD hp X hk hf a1 a6 a2 a9;go_enter Tryz.func266,Tryz.ntmps266;go_wp2_with fail
 refine HC.o.mono ?_;rintro e Wk ⟨rfl,rfl⟩;go_wp2_with fail
 refine ja4 [0,1,2,3,4,5,6,7,8,9,10,11] [9,10] Ext (jad (fun z=>Dn z\/Wk.heap.size<=z)) ExtR ExtT (fun x y z h k=>jad.trans h k) (fun x y h=>h.mono (fun _ _ h=>h.elim)) vY vY vY ?_
 refine vD ?_
 refine qDV _ ((.pointer (some ⟨b,0,none⟩))) rfl (fun w1 _=>by kernel_rfl) ?_;refine vS ?_
 refine vD ?_
 refine qDL ⟨b,0,none⟩ _ rfl (fun w1 h1=>jas (fun w=>by kernel_rfl) (jaD Q0.o (((jad.refl (fun z=>Dn z\/Wk.heap.size<=z) Wk).drew).trans h1) (by exact a5.o))) ?_;refine vS ?_
 refine vD ?_
 refine qDV _ ((.pointer (some ⟨b,0,none⟩))) rfl (fun w1 _=>by kernel_rfl) ?_;refine vS ?_
 refine vD ?_
 refine qDL ⟨b,1,none⟩ _ rfl (fun w1 h1=>jas (fun w=>by kernel_rfl) (jaD Q1.o (((jad.refl (fun z=>Dn z\/Wk.heap.size<=z) Wk).drew).trans h1) (by exact a5.o))) ?_;refine vS ?_
 refine vD ?_
 refine qDH _ rfl (fun O hb K hK=>?_);have Z:Ext Wk O:=((ExtR Wk).drew).trans hb;refine jbD (jcz (f:=je3 n) (vs:=#[.string (p.extract q.size p.size)]) rfl (HM.o.drop _) (jfr _) vY) ?_;refine (a0.o O Z).mono ?_;rintro e w2 ⟨v2,rfl,Q,H⟩
 refine⟨v2,rfl,hK _ _ (H.mono (fun z _ E=>.inl E)) ?_⟩
 have HS:=Hd (bB Z (bB Q H));clear hK K hb Z Q H;refine vS ?_;refine qDH _ rfl (fun wc hc K hK=>?_)
 obtain⟨Z,Q,H⟩:=HS.o
 have kc:jad Dn O wc:=H.trans (hc.mono (fun _ _ e=>e.elim));have a7:PaAt (jbO n (p.extract q.size p.size)) v2 (Grow Dn O wc) wc:=(Q.keeps hc _ _ _ (fun _ _ e=>e)).mono (fun z E=>E.imp id (fun e=>⟨e.1,bP e.2 hc.size⟩));have a4:=PaTo.own a7 kc (fun z E=>bP (HD.o z E).2 Z.size);refine jbD (jaB (vX 265) vY) ((pj_c wc _ q _ v2 a4 (jfq _ _) vO b0.o).mono ?_);rintro e w5 ⟨v5,rfl,a3,J⟩
 refine⟨v5,rfl,hK _ _ (J.mono (fun _ _ e=>e.elim)) ?_⟩
 have HZ:=Hd (bB kc (bB a3 (bB J (jey a4.lt J))));clear hK K hc Z Q H kc a7 a4 a3 J;refine vS ?_
 refine vD ?_
 refine jck vY (fun wd X=>?_);have HQ:=Hd X;clear X;go_wp2_with fail
 go_ret
 obtain⟨Z,_,_⟩:=HS.o
 obtain⟨kc,a3,J,b1⟩:=HZ.o
 have X:=HQ.o;refine PaTo.mk1 ((a3.keeps X _ _ _ (fun _ _ e=>e)).mono (fun z E=>?_)) (((Z.mono (fun _ _ e=>e.elim):jad D Wk O).trans (kc.mono (fun z _ E=>(HD.o z E).1))).trans ((J.trans X).mono (fun _ _ e=>e.elim)));have a8:=bP (b1 z E) X.size;rcases E with (E | E) | E
 ·exact .inl (HD.o z E).1
 ·exact .inr ⟨bL Z.size E.1,a8⟩
 ·exact .inr ⟨bL (bL Z.size kc.size) E.1,a8⟩
theorem Tryz.uKids:Tryz.prog.underlying 240=some (.array 16 87):=vY
theorem Tryz.iKids:(Tryz.prog.info? 240).map (·.size)=some 16:=vY
theorem Tryz.partOne:(Tryz.prog.info? 87).map (·.size)=some 1:=vY
theorem Tryz.partAgg(w:vW):(isAgg 87).run Tryz.prog w=.ok false w:=vY
def jpu(vk:Nat->vV):List vV:=(List.range 16).map vk
theorem jt5(vk:Nat->vV){i:Nat}(h:i < 16):(jpu vk)[i]?=some (vk i):=by
 unfold jpu;rw[cA,dV h];rfl
theorem ja8{W:vW}{b:Nat}{u:vB}{vk:Nat->vV}(hB:Blk W b (.cells (brC u vk).toArray 242)):(Instr.loadAt 240 (.pointer (some ⟨b,1,none⟩))).run Tryz.prog W=.ok (.agg (jpu vk).toArray) W:=by
 have e:W.rangeAt b 1 (jpu vk):=fun j v q=>hB.cellL (by rw[gR];exact q);have o:=run_loadVar_mid (P:=Tryz.prog) W b 1 240 _ _ e Tryz.uKids rfl (by unfold jpu;simp only[bZ,gL];exact Tryz.iKids);simp[Instr.loadAt,Instr.sureAddr,bT,Result.andThen,o]
theorem jeF(vk:Nat->vV){i:Nat}(h:i < 16)(w:vW):(Instr.index 240 (.agg (jpu vk).toArray) (.int .i64 (i:Int))).run Tryz.prog w=.ok (vk i) w:=
 jeE Tryz.uKids Tryz.partOne Tryz.partAgg _ i h _ (jt5 vk h) w
theorem jds(T:TypeId)(x:vV)(w:vW):(binOp .neq 87 (.iface T x) .nilIface).run Tryz.prog w=.ok (.bool true) w:=vY
theorem jkc(w:vW):(binOp .neq 87 .nilIface .nilIface).run Tryz.prog w=.ok (.bool false) w:=vY
def idxN(ks:Nat->PA)(k:Nat):List Nat:=(List.range k).filter fun i => !(ks i).isNil
theorem je0(ks:Nat->PA)(k:Nat):idxN ks (k+1)=idxN ks k++(if (ks k).isNil then []else [k]):=by
 unfold idxN;rw[fX,gW]
 congr 1
 cases h:(ks k).isNil <;> simp[h]
theorem PaAt.kid{P:PA}{v:vV}{D:Nat->Prop}{W:vW}(h:PaAt P v D W):(P.isNil=true/\v=.nilIface)\/(P.isNil=false/\∃ T x,v=.iface T x):=by
 cases hn:P.isNil with
 | true=>rw[jbu hn]at h;exact .inl ⟨rfl,h⟩
 | false=>exact .inr ⟨rfl,h.form hn⟩
def jp1(ks:Nat->PA)(W:vW)(cv ov iv:vV)(wr:vW):Prop:=∃ (k c o:Nat),k<=16/\iv=.int .i64 (k:Int)/\cv=.int .i64 (c:Int)/\ov=.int .i64 (o:Int)/\wr=W/\c=(idxN ks k).length/\o=(idxN ks k).getLast?.getD 0
theorem jpy(wr:vW)(D:Nat->Prop)(v:vB)(ks:Nat->PA)(b:Nat)(h:PaO (.br v ks) (brV b) D wr)(hi:idxK ks=[])(hv:v.size=0) :
  vQ 275 #[.pointer (some ⟨b,0,none⟩)] wr (PaTo D wr .no):=by
 obtain⟨vk,Dk,hb⟩:=h.br
 have J:=ja8 hb.blk;have q0:=hb.blk.cellL (i:=0) (v:=.string v) vF;have H:=Hd hb;have a0:(⟨#[]⟩:vB).toList.isEmpty=true:=by rw[bW];rfl
 obtain⟨W,hW⟩:=vE wr
 have Q:=jbo hv;subst Q;have HI:=Hd hi;clear h hb hi hv;rw[<-hW]at J q0 H ⊢;clear hW;go_enter Tryz.func275,Tryz.ntmps275;go_wp2_with (refine jaf 240 (.tmp 9) rfl rfl _ _ rfl J ?_)
 go_loopw [3,4,11] (fun cv ov X wr=>jp1 ks W cv ov X wr) (fun _ _ X _=>16 - (intOf X).toNat)
 case atStart=>exact⟨0,0,0,by omega,rfl,rfl,rfl,rfl,rfl,rfl⟩
 case round =>
  obtain⟨k,c,o,hk,rfl,rfl,rfl,rfl,E,K⟩:=hrel
  by_cases hlt:k < 16
  ·have O:=jeF vk hlt
   have e:=je0 ks k;have a1:c<=16:=by rw[E];exact bL (dX _ _) (by rw[gL];omega)
   have q:=Hd (bB E K);rcases (H.o.kid k hlt).1.kid with⟨hn,hv⟩ |⟨hn,T,x,hv⟩
   ·rw[hn,if_pos rfl,bR]at e
    rw[hv]at O;have z:=Hd e;clear e E K hn hv;go_wp2;go_roundw
    case rel=>exact⟨k+1,c,o,by omega,by go_num,rfl,rfl,rfl,by rw[z.o];exact q.o.1,by rw[z.o];exact q.o.2⟩
    case measure=>exact vJ
   ·rw[hn,if_neg ff]at e
    rw[hv]at O;have hq:=jds T x;have z:=Hd e;clear e E K hn hv;go_wp2;go_roundw
    case rel=>exact⟨k+1,c+1,k,by omega,by go_num,by go_num,rfl,rfl,by rw[z.o,bG, <-q.o.1];rfl,by rw[z.o];simp⟩
    case measure=>exact vJ
  ·obtain rfl:k=16:=vO
   have q:=Hd (bB E K);clear E K;have Z:c=0:=by rw[q.o.1];show (idxK ks).length=0;rw[HI.o];rfl
   subst Z;go_wp2_with fail
   go_ret;exact PaTo.mk1 rfl (jad.refl _ _)
theorem jpx(wr:vW)(D:Nat->Prop)(v:vB)(ks:Nat->PA)(b:Nat)(h:PaO (.br v ks) (brV b) D wr)(hi:idxK ks=[])(hv:v.size≠0) :
  vQ 275 #[.pointer (some ⟨b,0,none⟩)] wr (PaTo D wr (.leaf ⟨#[]⟩ v)):=by
 obtain⟨vk,Dk,hb⟩:=h.br
 have K:=ja8 hb.blk;have q0:=hb.blk.cellL (i:=0) (v:=.string v) vF;have H:=Hd hb;have a0:(⟨#[]⟩:vB).toList.isEmpty=true:=by rw[bW];rfl
 have a1:=jcY hv;clear hv
 obtain⟨W,hW⟩:=vE wr
 have HI:=Hd hi;rw[<-hW]at K q0 H ⊢;clear h hb hi hW;go_enter Tryz.func275,Tryz.ntmps275;go_wp2_with (refine jaf 240 (.tmp 9) rfl rfl _ _ rfl K ?_)
 go_loopw [3,4,11] (fun cv ov X wr=>jp1 ks W cv ov X wr) (fun _ _ X _=>16 - (intOf X).toNat)
 case atStart=>exact⟨0,0,0,by omega,rfl,rfl,rfl,rfl,rfl,rfl⟩
 case round =>
  obtain⟨k,c,o,hk,rfl,rfl,rfl,rfl,J,O⟩:=hrel
  by_cases hlt:k < 16
  ·have Q:=jeF vk hlt
   have q:=je0 ks k;have a2:c<=16:=by rw[J];exact bL (dX _ _) (by rw[gL];omega)
   have z:=Hd (bB J O);rcases (H.o.kid k hlt).1.kid with⟨hn,hv⟩ |⟨hn,T,x,hv⟩
   ·rw[hn,if_pos rfl,bR]at q
    rw[hv]at Q;have E:=Hd q;clear q J O hn hv;go_wp2;go_roundw
    case rel=>exact⟨k+1,c,o,by omega,by go_num,rfl,rfl,rfl,by rw[E.o];exact z.o.1,by rw[E.o];exact z.o.2⟩
    case measure=>exact vJ
   ·rw[hn,if_neg ff]at q
    rw[hv]at Q;have hq:=jds T x;have E:=Hd q;clear q J O hn hv;go_wp2;go_roundw
    case rel=>exact⟨k+1,c+1,k,by omega,by go_num,by go_num,rfl,rfl,by rw[E.o,bG, <-z.o.1];rfl,by rw[E.o];simp⟩
    case measure=>exact vJ
  ·obtain rfl:k=16:=vO
   have z:=Hd (bB J O);clear J O;have Z:c=0:=by rw[z.o.1];show (idxK ks).length=0;rw[HI.o];rfl
   subst Z;go_wp2_with fail
   go_ret;have hB:=Blk.new wr (.cells #[.string ⟨#[]⟩,.string v] 235);exact PaTo.mk1 ⟨_,rfl,.inr ⟨bM _,hB.lt⟩,hB⟩ (((ExtR wr).alloc _).mono (fun _ _ e=>e.elim))
theorem jmX(wr:vW)(D:Nat->Prop)(v:vB)(ks:Nat->PA)(b:Nat)(h:PaO (.br v ks) (brV b) D wr)(i:Nat)(hi:idxK ks=[i])(hv:v.size≠0) :
  vQ 275 #[.pointer (some ⟨b,0,none⟩)] wr (PaTo D wr (.br v ks)):=by
 obtain⟨vk,Dk,hb⟩:=h.br
 have J:=ja8 hb.blk;have q0:=hb.blk.cellL (i:=0) (v:=.string v) vF;have H:=Hd hb;have a0:(⟨#[]⟩:vB).toList.isEmpty=true:=by rw[bW];rfl
 have a1:=jcY hv;clear hv
 obtain⟨W,Z⟩:=vE wr
 have HI:=Hd hi;rw[<-Z]at J q0 H ⊢;clear h hb hi Z;go_enter Tryz.func275,Tryz.ntmps275;go_wp2_with (refine jaf 240 (.tmp 9) rfl rfl _ _ rfl J ?_)
 go_loopw [3,4,11] (fun cv ov Q wr=>jp1 ks W cv ov Q wr) (fun _ _ Q _=>16 - (intOf Q).toNat)
 case atStart=>exact⟨0,0,0,by omega,rfl,rfl,rfl,rfl,rfl,rfl⟩
 case round =>
  obtain⟨k,c,o,hk,rfl,rfl,rfl,rfl,E,K⟩:=hrel
  by_cases hlt:k < 16
  ·have O:=jeF vk hlt
   have e:=je0 ks k;have a2:c<=16:=by rw[E];exact bL (dX _ _) (by rw[gL];omega)
   have q:=Hd (bB E K);rcases (H.o.kid k hlt).1.kid with⟨hn,hv⟩ |⟨hn,T,x,hv⟩
   ·rw[hn,if_pos rfl,bR]at e
    rw[hv]at O;have z:=Hd e;clear e E K hn hv;go_wp2;go_roundw
    case rel=>exact⟨k+1,c,o,by omega,by go_num,rfl,rfl,rfl,by rw[z.o];exact q.o.1,by rw[z.o];exact q.o.2⟩
    case measure=>exact vJ
   ·rw[hn,if_neg ff]at e
    rw[hv]at O;have hq:=jds T x;have z:=Hd e;clear e E K hn hv;go_wp2;go_roundw
    case rel=>exact⟨k+1,c+1,k,by omega,by go_num,by go_num,rfl,rfl,by rw[z.o,bG, <-q.o.1];rfl,by rw[z.o];simp⟩
    case measure=>exact vJ
  ·obtain rfl:k=16:=vO
   have q:=Hd (bB E K);clear E K;have X:c=1:=by rw[q.o.1];show (idxK ks).length=1;rw[HI.o];rfl
   subst X;go_wp2_with fail
   go_ret;exact PaTo.mk1 (H.o.pa.at'.mono (fun x hx=>.inl hx)) (jad.refl _ _)
theorem jmY(wr:vW)(D:Nat->Prop)(v:vB)(ks:Nat->PA)(b:Nat)(h:PaO (.br v ks) (brV b) D wr)(hi:2<=(idxK ks).length) :
  vQ 275 #[.pointer (some ⟨b,0,none⟩)] wr (PaTo D wr (.br v ks)):=by
 obtain⟨vk,Dk,hb⟩:=h.br
 have J:=ja8 hb.blk;have q0:=hb.blk.cellL (i:=0) (v:=.string v) vF;have H:=Hd hb;have a0:(⟨#[]⟩:vB).toList.isEmpty=true:=by rw[bW];rfl
 obtain⟨W,Z⟩:=vE wr
 have HI:=Hd hi;rw[<-Z]at J q0 H ⊢;clear h hb hi Z;go_enter Tryz.func275,Tryz.ntmps275;go_wp2_with (refine jaf 240 (.tmp 9) rfl rfl _ _ rfl J ?_)
 go_loopw [3,4,11] (fun cv ov Q wr=>jp1 ks W cv ov Q wr) (fun _ _ Q _=>16 - (intOf Q).toNat)
 case atStart=>exact⟨0,0,0,by omega,rfl,rfl,rfl,rfl,rfl,rfl⟩
 case round =>
  obtain⟨k,c,o,hk,rfl,rfl,rfl,rfl,E,K⟩:=hrel
  by_cases hlt:k < 16
  ·have O:=jeF vk hlt
   have e:=je0 ks k;have a1:c<=16:=by rw[E];exact bL (dX _ _) (by rw[gL];omega)
   have q:=Hd (bB E K);rcases (H.o.kid k hlt).1.kid with⟨hn,hv⟩ |⟨hn,T,x,hv⟩
   ·rw[hn,if_pos rfl,bR]at e
    rw[hv]at O;have z:=Hd e;clear e E K hn hv;go_wp2;go_roundw
    case rel=>exact⟨k+1,c,o,by omega,by go_num,rfl,rfl,rfl,by rw[z.o];exact q.o.1,by rw[z.o];exact q.o.2⟩
    case measure=>exact vJ
   ·rw[hn,if_neg ff]at e
    rw[hv]at O;have hq:=jds T x;have z:=Hd e;clear e E K hn hv;go_wp2;go_roundw
    case rel=>exact⟨k+1,c+1,k,by omega,by go_num,by go_num,rfl,rfl,by rw[z.o,bG, <-q.o.1];rfl,by rw[z.o];simp⟩
    case measure=>exact vJ
  ·obtain rfl:k=16:=vO
   have q:=Hd (bB E K);clear E K;have X:2<=c:=by rw[q.o.1];exact HI.o
   have g0:((c:Int) == 0)=false:=by simp;omega
   have g1:((c:Int) == 1)=false:=by simp;omega
   clear X;go_wp2_with fail
   go_ret;exact PaTo.mk1 (H.o.pa.at'.mono (fun x hx=>.inl hx)) (jad.refl _ _)
theorem jrx(wr:vW)(D:Nat->Prop)(v:vB)(ks:Nat->PA)(b:Nat)(h:PaO (.br v ks) (brV b) D wr)(i:Nat)(hi:idxK ks=[i])(hv:v.size=0)(hd:Dp (.br v ks) 900000) :
  vQ 275 #[.pointer (some ⟨b,0,none⟩)] wr (PaTo D wr (jb8 (nib1 i) (ks i))):=by
 obtain⟨vk,Dk,hb⟩:=h.br
 have a3:=ja8 hb.blk;have q0:=hb.blk.cellL (i:=0) (v:=.string v) vF;have H:=Hd hb;have b4:(⟨#[]⟩:vB).toList.isEmpty=true:=by rw[bW];rfl
 have a8:=jbo hv;subst a8;have a9:=Hd hd;clear hv hd
 obtain⟨W,hW⟩:=vE wr
 have HI:=Hd hi;rw[<-hW]at a3 q0 H ⊢;clear h hb hi hW;go_enter Tryz.func275,Tryz.ntmps275;go_wp2_with (refine jaf 240 (.tmp 9) rfl rfl _ _ rfl a3 ?_)
 go_loopw [3,4,11] (fun cv ov iv wr=>jp1 ks W cv ov iv wr) (fun _ _ iv _=>16 - (intOf iv).toNat)
 case atStart=>exact⟨0,0,0,by omega,rfl,rfl,rfl,rfl,rfl,rfl⟩
 case round =>
  obtain⟨k,c,o,hk,rfl,rfl,rfl,rfl,hc,ho⟩:=hrel
  by_cases hlt:k < 16
  ·have a7:=jeF vk hlt
   have J:=je0 ks k;have b5:c<=16:=by rw[hc];exact bL (dX _ _) (by rw[gL];omega)
   have O:=Hd (bB hc ho);rcases (H.o.kid k hlt).1.kid with⟨hn,hv⟩ |⟨hn,T,x,hv⟩
   ·rw[hn,if_pos rfl,bR]at J
    rw[hv]at a7;have Q:=Hd J;clear J hc ho hn hv;go_wp2;go_roundw
    case rel=>exact⟨k+1,c,o,by omega,by go_num,rfl,rfl,rfl,by rw[Q.o];exact O.o.1,by rw[Q.o];exact O.o.2⟩
    case measure=>exact vJ
   ·rw[hn,if_neg ff]at J
    rw[hv]at a7;have hq:=jds T x;have Q:=Hd J;clear J hc ho hn hv;go_wp2;go_roundw
    case rel=>exact⟨k+1,c+1,k,by omega,by go_num,by go_num,rfl,rfl,by rw[Q.o,bG, <-O.o.1];rfl,by rw[Q.o];simp⟩
    case measure=>exact vJ
  ·obtain rfl:k=16:=vO
   have O:=Hd (bB hc ho);clear hc ho;have b0:c=1:=by rw[O.o.1];show (idxK ks).length=1;rw[HI.o];rfl
   have a4:o=i:=by rw[O.o.2];show (idxK ks).getLast?.getD 0=i;rw[HI.o];rfl
   subst b0;have a0:i∈idxK ks:=by rw[HI.o];exact bF
   have q:i < 16:=dQ.1 (cH.1 a0).1;have X:(ks i).isNil=false:=by have:=(cH.1 a0).2;simpa using this
   rw[<-a4]at a0 q X;have b1:=Hd a4;have E:=H.o.kid o q
   obtain⟨T,x,a5⟩:=E.1.form X
   have qk:=H.o.blk.cellL (jes ⟨#[]⟩ vk q);rw[a5]at qk;have QK:=Hd qk;have a1:=Hd (show PaAt (ks o) (.iface T x) (Dk o) wr/\(∀ z,Dk o z->z < wr.heap.size)/\(ks o).isNil=false/\Dp (ks o) 1000000 from⟨by rw[<-a5];exact E.1,fun z hz=>H.o.lt z (E.2.2 z hz),X,jb7 _ _ _ (a9.o o X).2 vO⟩);have b2:=Hd E.2.2;have a6:o < 16:=q;have c1:(o:Int) < 16:=vO
   have c2:(o:Int) < 256:=vO
   clear a0 q X E a5 qk a4 a3;go_wp2_with fail
   refine jai [0,1,4,5,6,7,8,9,2,3,10,11] (Ext) ExtR ExtT vY vY vY ?_;iterate 4 refine vK ?_
   refine qKV _ ((.pointer (some ⟨b,0,none⟩))) rfl (fun w1 _=>by kernel_rfl) ?_;refine vS ?_;iterate 2 refine vK ?_
   refine qKL ⟨b,1+o,none⟩ _ rfl (fun w1 h1=>jas (fun w=>by kernel_rfl) (jaa (jaa QK.o (jaj _)) h1)) ?_;refine vS ?_;refine jee _ rfl vY rfl (fun w2 he K hK=>?_);have b3:=Hd (show Ext wr w2 from(jaj _).trans he);clear he;go_simp;refine hK _ _ ((jad.refl _ w2).alloc _) ?_;clear hK K;refine qKV _ (.string (nib1 o)) rfl (fun w3 h3=>jjY vY h3 (fun e=>e) a6) ?_;refine vS ?_;refine jee _ rfl vY rfl (fun wc hc K hK=>?_);have kc:Ext wr wc:=(b3.o.alloc _).trans hc;refine jbD (jaB (vX 265) vY) ((pj_c wc (Dk o) (nib1 o) (ks o) (.iface T x) ⟨a1.o.1.keeps kc _ _ _ (fun _ _ e=>e),fun z hz=>bP (a1.o.2.1 z hz) kc.size⟩ a1.o.2.2.1 (by show 1<=_;omega) a1.o.2.2.2).mono ?_);rintro e w5 ⟨v5,rfl,a2,Z⟩
   refine⟨v5,rfl,hK _ _ Z ?_⟩
   have HZ:=Hd (bB kc (bB a2 Z));clear hK K hc kc a2 Z;refine vS ?_
   refine vK ?_
   refine qKE (fun wd hd=>?_);have HQ:=Hd hd;clear hd;go_wp2_with fail
   go_ret
   obtain⟨kc,a2,Z⟩:=HZ.o
   have hd:=HQ.o;rw[<-b1.o];refine PaTo.mk1 ((a2.keeps hd _ _ _ (fun _ _ e=>e)).mono (fun z hz=>?_)) (((kc.trans Z).trans hd).mono (fun _ _ e=>e.elim));rcases hz with hz | hz
   ·exact .inl (b2.o z hz)
   ·exact .inr ⟨bL kc.size hz.1,bP hz.2 hd.size⟩
theorem jmW(W:vW)(D:Nat->Prop)(v:vB)(ks:Nat->PA)(b:Nat)(h:PaO (.br v ks) (brV b) D W)(hd:Dp (.br v ks) 900000) :
  vQ 275 #[.pointer (some ⟨b,0,none⟩)] W (PaTo D W (jdm v ks)):=by
 unfold jdm;cases hi:idxK ks with
 | nil =>
  show Calls _ _ _ W (PaTo D W (if v.size=0 then PA.no else .leaf ⟨#[]⟩ v))
  by_cases h0:v.size=0
  ·rw[if_pos h0];exact jpy W D v ks b h hi h0
  ·rw[if_neg h0];exact jpx W D v ks b h hi h0
 | cons i r =>
  cases r with
  | nil =>
   show Calls _ _ _ W (PaTo D W (if v.size=0 then jb8 ⟨#[UInt8.ofNat i]⟩ (ks i)else .br v ks))
   by_cases h0:v.size=0
   ·rw[if_pos h0];exact jrx W D v ks b h i hi h0 hd
   ·rw[if_neg h0];exact jmX W D v ks b h i hi h0
  | cons j r=>exact jmY W D v ks b h (by rw[hi];simp)
theorem jqo(W:vW)(D:Nat->Prop)(v:vB)(ks:Nat->PA)(b:Nat)(h:PaO (.br v ks) (brV b) D W)(hd:Dp (.br v ks) 900000):vQ 272 #[.pointer (some ⟨b,0,none⟩),.string ⟨#[]⟩] W (PaTo D W (jdm ⟨#[]⟩ ks)):=by
 obtain⟨vk,Dk,hb⟩:=h.br
 have q0:=hb.blk.cellL (i:=0) (v:=.string v) vF;have f0:W.frozen? ⟨b,0,none⟩=false:=hb.blk.frozen;have H:=Hd hb;have X:Hid (Dp (.br ⟨#[]⟩ ks) 900000):=hd;have Z:(⟨#[]⟩:vB).toList.isEmpty=true:=by rw[bW];rfl
 clear h hb hd;go_enter Tryz.func272,Tryz.ntmps272;go_wp2_with fail
 obtain⟨Q,E⟩:=vE (W.setCell ⟨b,0,none⟩ (.string ⟨#[]⟩))
 have K:jad D W Q:=by rw[E];exact (jad.oneSet W ⟨b,0,none⟩ (.string ⟨#[]⟩)).mono (fun x _ e=>by have e:x=b:=e;rw[e];exact H.o.mem)
 have J:=H.o.val ⟨#[]⟩;rw[<-E]at J ⊢;have O:=Hd (bB J K);clear J K E;refine (jmW Q D ⟨#[]⟩ ks b O.o.1.pa X.o).mono ?_;rintro e w2 ⟨v2,rfl,q,z⟩;have HZ:=Hd (bB q z);clear q z;go_wp2_with fail
 go_ret
 obtain⟨q,z⟩:=HZ.o
 exact PaTo.mk1 (q.mono (fun x hx=>hx.imp id (fun e=>⟨bL O.o.2.size e.1,e.2⟩))) (O.o.2.trans z)
theorem jth(W:vW)(D:Nat->Prop)(v:vB)(ks:Nat->PA)(b:Nat)(h:PaO (.br v ks) (brV b) D W)(p:vB)(h0:p.size≠0)(hp:jaM p=true)(hs:p.size<=900000)(hn:(ks (jao p)).isNil=true):vQ 272 #[.pointer (some ⟨b,0,none⟩),.string p] W (PaTo D W (.br v ks)):=by
 obtain⟨Q,Dk,hb⟩:=h.br
 obtain⟨y,t,J⟩:=jcd h0
 obtain⟨X,e2⟩:=jbE J
 have e:=jdJ hp h0
 obtain⟨Z,z⟩:=jgl J
 have a1:=jcY h0;have E:=jcm hp;have K:(jbs p).size<=900000:=by unfold jbs;rw[jaZ];omega
 have O:jao p=(p[0]'Z).toNat:=by rw[X,z]
 have q:=hb.kid (jao p) e;have H:Q (jao p)=.nilIface:=by have:=q.1;rw[jbu hn]at this;exact this
 have q1:=hb.blk.cellL (jes v Q e);rw[H]at q1;have HB:=Hd hb;have a2:=Hd O;have a0:=Hd e;have c1:(0:Int) < (p.size:Int):=vO
 have c2:((p[0]'Z).toNat:Int) < 16:=vO
 have c3:(1:Int)<=(p.size:Int):=vO
 rw[O]at q1;have hq:=jx7;clear h H J X e2 h0 hp hn z E K e O hb q;go_enter Tryz.func272,Tryz.ntmps272;go_wp2_with fail
 go_ret;exact PaTo.mk1 (HB.o.pa.at'.mono (fun x hx=>.inl hx)) (jad.refl _ _)
theorem jsd{P:PA}{T:TypeId}{x:vV}{D:Nat->Prop}{W:vW}(h:PaAt P (.iface T x) D W)(hn:P.isNo=false)(w:vW):(Instr.typeAssert (.iface T x) 87 244 true).run Tryz.prog w=.ok (.tuple #[.agg #[],.bool false]) w:=by
 cases P with
 | nil=>cases h
 | no=>cases hn
 | leaf q u=>obtain⟨b,h,_⟩:=h;unfold jiT at h;injection h with h1 h2;subst h1 h2;kernel_rfl
 | ext q n=>obtain⟨b,_,_,_,h,_⟩:=h;unfold extV at h;injection h with h1 h2;subst h1 h2;kernel_rfl
 | br u ks=>obtain⟨b,_,_,h,_⟩:=h;unfold brV at h;injection h with h1 h2;subst h1 h2;kernel_rfl
theorem jqn(W:vW)(D:Nat->Prop)(v:vB)(ks:Nat->PA)(b:Nat)(h:PaO (.br v ks) (brV b) D W)(p:vB)(h0:p.size≠0)(hp:jaM p=true)(hs:p.size<=900000)(hn:(ks (jao p)).isNil=false)(hd:Dp (.br v ks) 900000)(hk:js0 (ks (jao p)))(hno:(jbO (ks (jao p)) (jbs p)).isNo=false) :
  vQ 272 #[.pointer (some ⟨b,0,none⟩),.string p] W (PaTo D W (jdm v (setK ks (jao p) (jbO (ks (jao p)) (jbs p))))):=by
 obtain⟨vk,Dk,hb⟩:=h.br
 obtain⟨y,t,hy⟩:=jcd h0
 obtain⟨e1,e2⟩:=jbE hy
 have E:=jdJ hp h0
 obtain⟨g0,b4⟩:=jgl hy
 have c8:=jcY h0;have a6:=jcm hp;have b5:(jbs p).size<=900000:=by unfold jbs;rw[jaZ];omega
 have hI:jao p=(p[0]'g0).toNat:=by rw[e1,b4]
 have H:=hb.kid (jao p) E
 obtain⟨T,x,a8⟩:=H.1.form hn
 have q1:=hb.blk.cellL (jes v vk E);rw[a8]at q1;have Q1:=Hd q1;have HB:=Hd hb;have HM:=Hd ((show PaAt (ks (jao p)) (.iface T x) (Dk (jao p)) W by rw[<-a8];exact H.1).meth);have a9:=hd (jao p) hn;have a1:=Hd (show ∀ Q,Ext W Q->vQ (je3 (ks (jao p))) #[x,.string (jbs p)] Q (PaTo (Dk (jao p)) Q (jbO (ks (jao p)) (jbs p)))from fun Q e=>hk Q T x _ _ ⟨(show PaAt (ks (jao p)) (.iface T x) (Dk (jao p)) W by rw[<-a8];exact H.1).keeps e _ _ _ (fun _ _ e=>e),fun z J=>bP (hb.lt z (H.2.2 z J)) e.size⟩ b5 a6 (jb7 _ _ _ a9.2 vO));have b7:Hid (Dp (.br v (setK ks (jao p) (jbO (ks (jao p)) (jbs p)))) 900000):=jh6 hd a9.1 (jh5 _ _ _ a9.2) v;have b8:=Hd (show ¬(Dk (jao p) b\/W.heap.size<=b)from fun e=>e.elim (hb.kid _ E).2.1 (fun e=>by have:=hb.lt b hb.mem;omega));have hQ:=jmK T x;have b6:=Hd hI;have q:=Hd E;have c1:(0:Int) < (p.size:Int):=vO
 have c2:((p[0]'g0).toNat:Int) < 16:=vO
 have c3:(1:Int)<=(p.size:Int):=vO
 rw[hI]at q1;have b9:=Hd hno;clear h a8 hy e1 e2 h0 hp hn b4 a6 b5 E hI hb H hd a9 hk hno;go_enter Tryz.func272,Tryz.ntmps272;go_wp2_with fail
 refine jc7 [0,1,2,3,4,5,6,7,8,9,10,11,13,14,12,15] 16 [12] Ext (jad (fun z=>Dk (jao p) z\/W.heap.size<=z)) ExtR ExtT (fun x y z h k=>jad.trans h k) (fun x y h=>h.mono (fun _ _ h=>h.elim)) vY vY vY ?_;iterate 4 refine vZ ?_
 refine jcx _ ((.pointer (some ⟨b,0,none⟩))) rfl vY rfl (fun w1=>by kernel_rfl) ?_;refine vS ?_;iterate 2 refine vZ ?_
 refine jgs ⟨b,1+(p[0]'g0).toNat,none⟩ _ rfl vY vY rfl rfl (fun w1 h1=>jas (fun w=>by kernel_rfl) (by rw[<-b6.o];exact jaD Q1.o (((jad.refl (fun z=>Dk (jao p) z\/W.heap.size<=z) W).drew).trans h1) (by exact b8.o))) ?_;refine vS ?_;iterate 2 refine vZ ?_
 refine jcx _ (.iface T x) rfl vY rfl (fun w1=>by kernel_rfl) ?_;refine vS ?_
 refine vZ ?_
 refine jcx _ ((.pointer (some ⟨b,0,none⟩))) rfl vY rfl (fun w1=>by kernel_rfl) ?_;refine vS ?_
 refine vZ ?_
 refine jgq _ rfl vY rfl (fun Q hb K hK=>?_);have kb:Ext W Q:=(jaj _).trans hb;refine jbD (jcz (f:=je3 (ks (jao p))) (vs:=#[.string (jbs p)]) rfl (HM.o.drop _) (jfr _) vY) ?_;refine (a1.o Q kb).mono ?_;rintro e w2 ⟨v2,rfl,a3,X⟩
 refine⟨v2,rfl,hK _ _ (X.mono (fun z _ J=>.inl J)) ?_⟩
 have HS:=Hd (bB kb (bB a3 X));clear hK K hb kb a3 X;refine vS ?_
 refine vZ ?_
 refine jgr _ rfl vY rfl (fun wc hc K hK=>?_)
 obtain⟨hb,a3,X⟩:=HS.o
 have O:=HB.o.keeps (F:=fun _=>False) (hb) (fun _ _ e=>e);have kc:jad (Dk (jao p)) Q wc:=X.trans (hc.mono (fun _ _ e=>e.elim));have b0:PaAt (jbO (ks (jao p)) (jbs p)) v2 (Grow (Dk (jao p)) Q wc) wc:=(a3.keeps hc _ _ _ (fun _ _ e=>e)).mono (fun z J=>J.imp id (fun e=>⟨e.1,bP e.2 hc.size⟩))
 obtain⟨T2,x2,rfl⟩:=b0.form (jfq _ _)
 have ht:=O.turn q.o kc b0;have Z:=O.turn_keeps q.o kc (.iface T2 x2)
 obtain⟨old,q7⟩:∃ v,wc.cell? ⟨b,1+jao p,none⟩=some v:=⟨_,(O.blk.keeps kc (O.kid _ q.o).2.1).cellL (bA (by rw[jgM];have:=q.o;omega))⟩
 have f7:wc.frozen? ⟨b,1+jao p,none⟩=false:=(O.blk.keeps kc (O.kid _ q.o).2.1).frozen
 obtain⟨W3,a4⟩:=vE (wc.setCell ⟨b,1+jao p,none⟩ (.iface T2 x2))
 rw[<-a4]at ht Z
 obtain⟨c0,a0⟩:=vE (setV vk (jao p) (.iface T2 x2))
 obtain⟨c9,a7⟩:=vE (fun j=>if j=jao p then Grow (Dk (jao p)) Q wc else Dk j)
 rw[<-a0, <-a7]at ht;have c4:W3.cell? ⟨b,1+jao p,none⟩=some (.iface T2 x2):=by
  have:=ht.blk.cellL (jes v c0 q.o)
  rw[this,a0];show some (setV vk (jao p) (.iface T2 x2) (jao p))=_;unfold setV;rw[if_pos rfl]
 have HT:=Hd (bB ht (bB Z (bB hb (show W3.heap.size=wc.heap.size by rw[a4];exact fU _ _ _))));have c5:=Hd b0;rw[b6.o]at q7 f7 a4 c4;clear hb a3 X O kc b0 ht Z hc;go_simp;rw[<-a4];refine hK _ _ ?_;clear hK K q7 f7 a4 a0 a7;have d0:∀ w,(Instr.typeAssert (.iface T2 x2) 87 244 true).run Tryz.prog w=.ok (.tuple #[.agg #[],.bool false]) w:=jsd c5.o b9.o;go_wp2_with fail
 obtain⟨W4,b2⟩:=vE (W3.alloc (.cells #[] 244))
 have a2:Ext W3 W4:=by rw[b2];exact (ExtR W3).alloc _
 rw[<-b2];have b3:=Hd (bB (HT.o.1.keeps a2 (fun _ _ e=>e)) a2);clear a2 b2;refine (jmW W4 _ v _ b b3.o.1.pa b7.o).mono ?_;rintro e w6 ⟨v6,rfl,b1,a5⟩;have HZ:=Hd (bB b1 (bB a5 (jey b3.o.1.lt a5)));clear b1 a5;go_wp2_with fail
 go_ret
 obtain⟨b1,a5,c6⟩:=HZ.o
 obtain⟨ht,Z,hb,d1⟩:=HT.o
 obtain⟨_,a2⟩:=b3.o
 have d2:W.heap.size<=W3.heap.size:=by have:=hb.size;have:=Z.size;omega
 have c7:=a2.size;have g1:∀ z,Grow D Q wc z->D z\/W.heap.size<=z:=fun z J=>J.imp id (fun e=>bL hb.size e.1);refine PaTo.mk1 (b1.mono (fun z J=>?_)) ?_
 ·have hl:=c6 z J
  rcases J with J | J
  ·exact (g1 z J).imp id (fun e=>⟨e,hl⟩)
  ·exact .inr ⟨by have:=J.1;omega,hl⟩
 ·have k1:jad D W W3:=(hb.mono (fun _ _ e=>e.elim):jad D W Q).trans Z
  have k2:jad D W W4:=k1.trans (a2.mono (fun _ _ e=>e.elim));exact k2.trans' a5 (fun z J e=>(g1 z e).elim id (fun e=>by omega))
theorem jo5(W:vW)(D:Nat->Prop)(v:vB)(ks:Nat->PA)(b:Nat)(h:PaO (.br v ks) (brV b) D W)(p:vB)(h0:p.size≠0)(hp:jaM p=true)(hs:p.size<=900000)(hn:(ks (jao p)).isNil=false)(hd:Dp (.br v ks) 900000)(hk:js0 (ks (jao p)))(hno:(jbO (ks (jao p)) (jbs p)).isNo=true) :
  vQ 272 #[.pointer (some ⟨b,0,none⟩),.string p] W (PaTo D W (jdm v (setK ks (jao p) .nil))):=by
 obtain⟨vk,Dk,hb⟩:=h.br
 obtain⟨y,t,hy⟩:=jcd h0
 obtain⟨e1,e2⟩:=jbE hy
 have H:=jdJ hp h0
 obtain⟨g0,c4⟩:=jgl hy
 have d5:=jcY h0;have a7:=jcm hp;have c5:(jbs p).size<=900000:=by unfold jbs;rw[jaZ];omega
 have hI:jao p=(p[0]'g0).toNat:=by rw[e1,c4]
 have J:=hb.kid (jao p) H
 obtain⟨T,x,b0⟩:=J.1.form hn
 have q1:=hb.blk.cellL (jes v vk H);rw[b0]at q1;have Q1:=Hd q1;have HB:=Hd hb;have HM:=Hd ((show PaAt (ks (jao p)) (.iface T x) (Dk (jao p)) W by rw[<-b0];exact J.1).meth);have b5:=hd (jao p) hn;have a1:=Hd (show ∀ Q,Ext W Q->vQ (je3 (ks (jao p))) #[x,.string (jbs p)] Q (PaTo (Dk (jao p)) Q (jbO (ks (jao p)) (jbs p)))from fun Q e=>hk Q T x _ _ ⟨(show PaAt (ks (jao p)) (.iface T x) (Dk (jao p)) W by rw[<-b0];exact J.1).keeps e _ _ _ (fun _ _ e=>e),fun z E=>bP (hb.lt z (J.2.2 z E)) e.size⟩ c5 a7 (jb7 _ _ _ b5.2 vO));have c8:Hid (Dp (.br v (setK ks (jao p) .nil)) 900000):=jh6 hd b5.1 ((show Dp PA.nil (900000 - 1)from trivial)) v;have c9:=Hd (show ¬(Dk (jao p) b\/W.heap.size<=b)from fun e=>e.elim (hb.kid _ H).2.1 (fun e=>by have:=hb.lt b hb.mem;omega));have hQ:=jmK T x;have b6:=Hd hI;have q:=Hd H;have c1:(0:Int) < (p.size:Int):=vO
 have c2:((p[0]'g0).toNat:Int) < 16:=vO
 have c3:(1:Int)<=(p.size:Int):=vO
 rw[hI]at q1;have d0:=Hd hno;clear h b0 hy e1 e2 h0 hp hn c4 a7 c5 H hI hb J hd b5 hk hno;go_enter Tryz.func272,Tryz.ntmps272;go_wp2_with fail
 refine jc7 [0,1,2,3,4,5,6,7,8,9,10,11,13,14,12,15] 16 [12] Ext (jad (fun z=>Dk (jao p) z\/W.heap.size<=z)) ExtR ExtT (fun x y z h k=>jad.trans h k) (fun x y h=>h.mono (fun _ _ h=>h.elim)) vY vY vY ?_;iterate 4 refine vZ ?_
 refine jcx _ ((.pointer (some ⟨b,0,none⟩))) rfl vY rfl (fun w1=>by kernel_rfl) ?_;refine vS ?_;iterate 2 refine vZ ?_
 refine jgs ⟨b,1+(p[0]'g0).toNat,none⟩ _ rfl vY vY rfl rfl (fun w1 h1=>jas (fun w=>by kernel_rfl) (by rw[<-b6.o];exact jaD Q1.o (((jad.refl (fun z=>Dk (jao p) z\/W.heap.size<=z) W).drew).trans h1) (by exact c9.o))) ?_;refine vS ?_;iterate 2 refine vZ ?_
 refine jcx _ (.iface T x) rfl vY rfl (fun w1=>by kernel_rfl) ?_;refine vS ?_
 refine vZ ?_
 refine jcx _ ((.pointer (some ⟨b,0,none⟩))) rfl vY rfl (fun w1=>by kernel_rfl) ?_;refine vS ?_
 refine vZ ?_
 refine jgq _ rfl vY rfl (fun Q hb K hK=>?_);have kb:Ext W Q:=(jaj _).trans hb;refine jbD (jcz (f:=je3 (ks (jao p))) (vs:=#[.string (jbs p)]) rfl (HM.o.drop _) (jfr _) vY) ?_;refine (a1.o Q kb).mono ?_;rintro e w2 ⟨v2,rfl,a4,X⟩
 refine⟨v2,rfl,hK _ _ (X.mono (fun z _ E=>.inl E)) ?_⟩
 have HS:=Hd (bB kb (bB a4 X));clear hK K hb kb a4 X;refine vS ?_
 refine vZ ?_
 refine jgr _ rfl vY rfl (fun wc hc K hK=>?_)
 obtain⟨hb,a4,X⟩:=HS.o
 have O:=HB.o.keeps (F:=fun _=>False) (hb) (fun _ _ e=>e);have kc:jad (Dk (jao p)) Q wc:=X.trans (hc.mono (fun _ _ e=>e.elim));have b1:PaAt (jbO (ks (jao p)) (jbs p)) v2 (Grow (Dk (jao p)) Q wc) wc:=(a4.keeps hc _ _ _ (fun _ _ e=>e)).mono (fun z E=>E.imp id (fun e=>⟨e.1,bP e.2 hc.size⟩))
 obtain⟨T2,x2,rfl⟩:=b1.form (jfq _ _)
 have ht:=O.turn q.o kc b1;have Z:=O.turn_keeps q.o kc (.iface T2 x2)
 obtain⟨old,q7⟩:∃ v,wc.cell? ⟨b,1+jao p,none⟩=some v:=⟨_,(O.blk.keeps kc (O.kid _ q.o).2.1).cellL (bA (by rw[jgM];have:=q.o;omega))⟩
 have f7:wc.frozen? ⟨b,1+jao p,none⟩=false:=(O.blk.keeps kc (O.kid _ q.o).2.1).frozen
 obtain⟨W3,a5⟩:=vE (wc.setCell ⟨b,1+jao p,none⟩ (.iface T2 x2))
 rw[<-a5]at ht Z
 obtain⟨d1,a0⟩:=vE (setV vk (jao p) (.iface T2 x2))
 obtain⟨d6,a8⟩:=vE (fun j=>if j=jao p then Grow (Dk (jao p)) Q wc else Dk j)
 rw[<-a0, <-a8]at ht;have b7:W3.cell? ⟨b,1+jao p,none⟩=some (.iface T2 x2):=by
  have:=ht.blk.cellL (jes v d1 q.o)
  rw[this,a0];show some (setV vk (jao p) (.iface T2 x2) (jao p))=_;unfold setV;rw[if_pos rfl]
 have HT:=Hd (bB ht (bB Z (bB hb (show W3.heap.size=wc.heap.size by rw[a5];exact fU _ _ _))));have d2:=Hd b1;rw[b6.o]at q7 f7 a5 b7;clear hb a4 X O kc b1 ht Z hc;go_simp;rw[<-a5];refine hK _ _ ?_;clear hK K q7 f7 a5 a0 a8;have c6:Value.iface T2 x2=noV:=by have:=d2.o;rw[jrp d0.o]at this;exact this
 unfold noV at c6;injection c6 with hn1 hn2;subst hn1 hn2;have d7:∀ w,(Instr.typeAssert (.iface 244 (.agg #[])) 87 244 true).run Tryz.prog w=.ok (.tuple #[.agg #[],.bool true]) w:=fun w=>by kernel_rfl
 have q4:(W3.alloc (.cells #[] 244)).cell? ⟨b,1+(p[0]'g0).toNat,none⟩=some (.iface 244 (.agg #[])):=jaa b7 ((ExtR W3).alloc _);have f4:(W3.alloc (.cells #[] 244)).frozen? ⟨b,1+(p[0]'g0).toNat,none⟩=false:=(HT.o.1.blk.alloc _).frozen;clear q4;have q4:=jaa b7 ((ExtR W3).alloc (.cells #[] 244));go_wp2_with fail
 obtain⟨W4,b8⟩:=vE (W3.alloc (.cells #[] 244))
 have a2:Ext W3 W4:=by rw[b8];exact (ExtR W3).alloc _
 rw[<-b8]at q4 f4 ⊢;have b9:=HT.o.1.keeps a2 (fun _ _ e=>e);have b2:=b9.turn q.o (P:=.nil) (v:=.nilIface) (jad.refl _ W4) rfl;have a3:=b9.turn_keeps q.o (jad.refl _ W4) .nilIface
 obtain⟨W5,b3⟩:=vE (W4.setCell ⟨b,1+jao p,none⟩ .nilIface)
 rw[<-b3]at b2 a3;rw[b6.o]at b3;rw[<-b3];have c7:setK (setK ks (jao p) (jbO (ks (jao p)) (jbs p))) (jao p) .nil=setK ks (jao p) .nil:=by
  funext j
  unfold setK
  by_cases e:j=jao p
  ·rw[if_pos e,if_pos e]
  ·rw[if_neg e,if_neg e,if_neg e]
 rw[c7]at b2;have a9:W4.heap.size<=W5.heap.size:=a3.size;have c0:=Hd (bB b2 (bB a3 (bB a2 a9)));clear b9 b2 a3 a2 b8 b3 q4 f4 c7 a9;refine (jmW W5 _ v _ b c0.o.1.pa c8.o).mono ?_;rintro e w6 ⟨v6,rfl,b4,a6⟩;have HZ:=Hd (bB b4 (bB a6 (jey c0.o.1.lt a6)));clear b4 a6;go_wp2_with fail
 go_ret
 obtain⟨b4,a6,d3⟩:=HZ.o
 obtain⟨ht,Z,hb,d8⟩:=HT.o
 obtain⟨_,a3,a2,d9⟩:=c0.o
 have e0:W.heap.size<=W3.heap.size:=by have:=hb.size;have:=Z.size;omega
 have d4:=a2.size;have g1:∀ z,Grow D Q wc z->D z\/W.heap.size<=z:=fun z E=>E.imp id (fun e=>bL hb.size e.1);have g2:∀ z,Grow (Grow D Q wc) W4 W4 z->D z\/W.heap.size<=z:=fun z E=>E.elim (g1 z) (fun e=>by omega);refine PaTo.mk1 (b4.mono (fun z E=>?_)) ?_
 ·have hl:=d3 z E
  rcases E with E | E
  ·exact (g2 z E).imp id (fun e=>⟨e,hl⟩)
  ·exact .inr ⟨by have:=E.1;omega,hl⟩
 ·have k1:jad D W W3:=(hb.mono (fun _ _ e=>e.elim):jad D W Q).trans Z
  have k2:jad D W W4:=k1.trans (a2.mono (fun _ _ e=>e.elim));have k3:jad D W W5:=k2.trans' a3 (fun z E e=>(g1 z e).elim id (fun e=>by omega));exact k3.trans' a6 (fun z E e=>(g2 z e).elim id (fun e=>by omega))
theorem jhI:∀ (P:PA),VaP P->js0 P
 | .nil,_=>fun W T x D p h _ _ _=>by cases h.at'
 | .no,_=>fun W T x D p h _ _ _=>by
  have e:Value.iface T x=noV:=h.at';unfold noV at e;injection e with e1 e2;subst e1 e2;exact jui W D p
 | .leaf q v,hv=>fun W T x D p h E H o=>by
  obtain⟨b,e,K,O⟩:=h.at'
  unfold jiT at e;injection e with e1 e2;subst e1 e2;exact jwl W D q v p b O K
 | .ext q n,hv=>fun W T x D p h E H o=>by
  obtain⟨b,X,Z,Q,e,K,O,h3,h4,h5⟩:=h.at'
  unfold extV at e;injection e with e1 e2;subst e1 e2;have J:∀ z,Q z->D z/\z < W.heap.size:=fun z hz=>⟨h5 z hz,h.lt z (h5 z hz)⟩;show Calls _ _ _ W (PaTo D W (jbO (.ext q n) p));unfold jbO;cases hf:preB q p with
  | true =>
   rw[if_pos rfl];exact jtK W D q n X Z Q b O K h3 h4 J p H o.1 E (jb7 _ _ _ o.2 vO) (jhI n hv.2) hf
  | false =>
   rw[if_neg ff];exact jtL W D q n X Z Q b O K h3 h4 J p H o.1 E hf
 | .br v ks,hv=>fun W T x D p h E H o=>by
  obtain⟨b,vk,Dk,e,_⟩:=h.at'
  unfold brV at e;injection e with e1 e2;subst e1 e2;show Calls _ _ _ W (PaTo D W (jbO (.br v ks) p));unfold jbO
  by_cases h0:p.size=0
  ·rw[if_pos h0,jbo h0]
   exact jqo W D v ks b h o
  ·rw[if_neg h0]
   cases hk:(ks (jao p)).isNil with
   | true=>rw[if_pos rfl];exact jth W D v ks b h p h0 H E hk
   | false =>
    rw[if_neg ff];unfold unNo;cases hno:(jbO (ks (jao p)) (jbs p)).isNo with
    | true=>rw[if_pos rfl];exact jo5 W D v ks b h p h0 H E hk o (jhI (ks (jao p)) (hv _)) hno
    | false=>rw[if_neg ff];exact jqn W D v ks b h p h0 H E hk o (jhI (ks (jao p)) (hv _)) hno
def cntP:PA->Nat
 | .nil=>0
 | .no=>1
 | .leaf _ _=>1
 | .ext _ n=>1+cntP n
 | .br _ ks=>1+sumF (fun i=>cntP (ks i)) 16
theorem jn4(p v:vB):(keyR p v).length<=1:=by unfold keyR;split <;> simp
theorem jgm{α:Type}(g:Nat->List α)(f:Nat->Nat)(h:∀ i,(g i).length<=f i):∀ n,((List.range n).flatMap g).length<=sumF f n
 | 0=>by simp
 | n+1=>by
  rw[fX,dK,bG]
  have:=jgm g f h n
  have:=h n
  simp only[cE,fM,bR,sumF];omega
theorem jmI:∀ (P:PA) (p:vB),(entP P p).length<=cntP P
 | .nil,_=>bM _
 | .no,_=>cC _
 | .leaf q v,p=>jn4 _ _
 | .ext q n,p=>bL (jmI n (p++q)) (Nat.le_add_left _ _)
 | .br v ks,p=>by
  show ((if v.size=0 then []else keyR p v)++(List.range 16).flatMap fun i=>if (ks i).isNil then []else entP (ks i) (p++nib1 i)).length<=1+sumF (fun i=>cntP (ks i)) 16;rw[bG];have e:(if v.size=0 then []else keyR p v:vL).length<=1:=by
   split
   ·simp
   ·exact jn4 _ _
  have o:=jgm (fun i=>if (ks i).isNil then []else entP (ks i) (p++nib1 i)) (fun i=>cntP (ks i)) (fun i=>by
   show (if (ks i).isNil=true then ([]:vL)else entP (ks i) (p++nib1 i)).length<=cntP (ks i);split
   ·simp
   ·exact jmI (ks i) _) 16
  omega
theorem ERow.len'{w0 w:vW}{v:vV}{n:Nat}{xs:vL}(h:ERow w0 w v n xs):n=xs.length:=by have:=h.len;rw[jdx]at this;omega
def EnP(w0:vW)(xs:vL)(e:Ending)(w':vW):Prop:=∃ v n,e=.returned v/\ERow w0 w' v n xs
def EntC(P:PA):Prop:=∀ (w0 W:vW) (T:TypeId) (x:vV) (D:Nat->Prop) (p:vB) (v:vV) (n k:Nat) (E:vL),PaO P (.iface T x) D w0->ERow w0 W v n E->Dp P k->p.size+k<=900000->n+cntP P<=100000 ->
 vQ (jfZ P) #[x,.string p,v] W (EnP w0 (E++entP P p))
theorem jwx(w0 W:vW)(p:vB)(v:vV)(n:Nat)(E:vL)(h:ERow w0 W v n E):vQ 277 #[.agg #[],.string p,v] W (EnP w0 E):=by
 have H:=Hd h
 obtain⟨a,c,rfl⟩:=h.sl
 clear h;go_enter Tryz.func277,Tryz.ntmps277;go_wp2_with fail
 go_ret
 exact⟨_,n,rfl,H.o.mono ((ExtR W).alloc _)⟩
theorem ji3(k v:vB):jb2 [(k,v)]=[.string k,.string v]:=rfl
theorem jyk(w0 W:vW)(q u p:vB)(b:Nat)(hB:Blk w0 b (.cells #[.string q,.string u] 235))(v:vV)(n:Nat)(E:vL)(h:ERow w0 W v n E)(hs:p.size+q.size<=900000)(hn:n<=100000) :
  vQ 261 #[.pointer (some ⟨b,0,none⟩),.string p,v] W (EnP w0 (E++keyR (p++q) u)):=by
 have q0:=jaa (hB.cell (i:=0) (v:=.string q) vF) h.ext;have Q1:=Hd (jaa (hB.cell (i:=1) (v:=.string u) vF) h.ext);have H:=Hd h
 obtain⟨a,c,rfl⟩:=h.sl
 have e:=fun w=>jrr w (p++q) (by rw[jc1];omega);unfold keyV at e;unfold keyR;cases hok:jdc (p++q)with
 | false =>
  rw[if_neg ff,bR];rw[hok,if_neg ff]at e;have J:=Hd e;clear h hB e hok;go_enter Tryz.func261,Tryz.ntmps261;go_wp2_with fail
  refine vH (J.o W) fun w1 Q=>?_;go_wp2_with fail
  go_ret
  exact⟨_,n,rfl,H.o.mono Q.o⟩
 | true =>
  rw[if_pos rfl];rw[hok,if_pos rfl]at e;have J:=Hd e;clear h hB e hok;go_enter Tryz.func261,Tryz.ntmps261;go_wp2_with fail
  refine vC (J.o W) fun w1 z=>?_;have Q:=Hd z;have q1:=jaa Q1.o z;have HR:=Hd (H.o.mono z);clear z;go_wp2_with (at_builtin;refine ja5 Tryz.sEnts (HR.o.mono ((ExtR w1).alloc _)) (.tmp 20) (.tmp 27) rfl rfl rfl (ja3 (Blk.new w1 _)) (news:=[.string (jbz (p++q)),.string u]) (by intro u X;simp at X;rcases X with rfl | rfl <;> rfl) rfl rfl (by unfold maxLen;omega) vO (fun v' w' Z r2 r3=>?_);obtain⟨a5,c5,K⟩:=Z.sl;subst K;have O:=Hd Z)
  go_ret
  exact⟨_,n+1,rfl,by have:=O.o;rw[<-ji3, <-jbg]at this;exact this⟩
def jpX(w0 a b:vW):Prop:=Ext w0 a->Ext w0 b
theorem jmq(w0 x y z:vW)(h:jpX w0 x y)(k:jpX w0 y z):jpX w0 x z:=fun e=>k (h e)
theorem jqe(w0 x y:vW)(h:Ext x y):jpX w0 x y:=fun e=>e.trans h
theorem jx5(w0 W:vW)(q:vB)(n:PA)(T:TypeId)(x:vV)(Dn:Nat->Prop)(b:Nat)(hB:Blk w0 b (.cells #[.string q,.iface T x] 238))(hv:PaAt n (.iface T x) Dn w0)(hD:∀ x,Dn x->x < w0.heap.size)(p:vB)(v:vV)(m k:Nat)(E:vL)(h:ERow w0 W v m E)(O:Dp n k)(hs:(p++q).size+k<=900000)(hn:m+cntP n<=100000)(hk:EntC n) :
  vQ 267 #[.pointer (some ⟨b,0,none⟩),.string p,v] W (EnP w0 (E++entP n (p++q))):=by
 have Q0:=Hd (hB.cell (i:=0) (v:=.string q) vF);have Q1:=Hd (hB.cell (i:=1) (v:=.iface T x) vF);have Q:=Hd h.ext;have HM:=Hd hv.meth;have hz:p.size+q.size<=900000:=by rw[<-jc1];omega
 obtain⟨a,c,X⟩:=h.sl
 have z:=Hd (show ∀ H,Ext W H->vQ (jfZ n) #[x,.string (p++q),v] H (EnP w0 (E++entP n (p++q)))from fun H e=>hk w0 H T x Dn (p++q) v m k E ⟨hv,hD⟩ (h.mono e) O hs hn);subst X;clear hB hv hD h O hs hn hk;go_enter Tryz.func267,Tryz.ntmps267;go_wp2_with fail
 refine ja4 [0,1,2,3,4,5,6,7,8,9,10,11,12,13,14] [13] Ext (jpX w0) ExtR ExtT (jmq w0) (jqe w0) vY vY vY ?_
 refine vD ?_
 refine qDV _ ((.pointer (some ⟨b,0,none⟩))) rfl (fun w1 _=>by kernel_rfl) ?_;refine vS ?_
 refine vD ?_
 refine qDL ⟨b,1,none⟩ _ rfl (fun w1 Z=>jas (fun w=>by kernel_rfl) (jaa Q1.o (Z (Q.o.trans (jaj _))))) ?_;refine vS ?_;iterate 2 refine vD ?_
 refine qDV _ ((.pointer (some ⟨b,0,none⟩))) rfl (fun w1 _=>by kernel_rfl) ?_;refine vS ?_
 refine vD ?_
 refine qDL ⟨b,0,none⟩ _ rfl (fun w1 Z=>jas (fun w=>by kernel_rfl) (jaa Q0.o (Z (Q.o.trans (jaj _))))) ?_;refine vS ?_;iterate 2 refine vD ?_
 refine qDV _ (.iface T x) rfl (fun w1 _=>by kernel_rfl) ?_;refine vS ?_
 refine vD ?_
 refine qDH _ rfl (fun H hb K hK=>?_);have kb:Ext W H:=(jaj _).trans hb;refine jbD (jcz (f:=jfZ n) (vs:=#[.string (p++q),.slice a m c]) rfl (HM.o.ent _) (jd7 _) vY) ?_;refine (z.o H kb).mono ?_;rintro e w2 ⟨v2,m2,rfl,J⟩
 refine⟨v2,rfl,hK _ _ (fun _=>J.ext) ?_⟩
 have HS:=Hd J;clear hK K hb kb J;refine vS ?_
 refine vD ?_
 refine jck vY (fun wd O=>?_);have HQ:=Hd O;clear O;go_wp2_with fail
 go_ret
 exact⟨_,_,rfl,HS.o.mono HQ.o⟩
def entK(ks:Nat->PA)(p:vB)(k:Nat):vL:=(List.range k).flatMap fun i=>if (ks i).isNil then []else entP (ks i) (p++nib1 i)
theorem jh7(ks:Nat->PA)(p:vB)(k:Nat):entK ks p (k+1)=entK ks p k++(if (ks k).isNil then []else entP (ks k) (p++nib1 k)):=by
 unfold entK;rw[fX,dK]
 simp
theorem jjX(ks:Nat->PA)(p:vB)(k:Nat):(entK ks p k).length<=sumF (fun i=>cntP (ks i)) k:=jgm _ _ (fun i=>by
 show (if (ks i).isNil=true then ([]:vL)else entP (ks i) (p++nib1 i)).length<=cntP (ks i);split
 ·simp
 ·exact jmI (ks i) _) k
theorem jel(f:Nat->Nat)(k:Nat):∀ d,sumF f k<=sumF f (k+d)
 | 0=>bM _
 | d+1=>bL (jel f k d) (Nat.le_add_right _ _)
def jvt(w0:vW)(ks:Nat->PA)(p:vB)(E:vL)(tv iv:vV)(wr:vW):Prop:=∃ (k m:Nat),k<=16/\iv=.int .i64 (k:Int)/\ERow w0 wr tv m (E++entK ks p k)
theorem jjU(w:vW){m:Nat}(hm:m < 16):(convert 56 9 (.slice (some ⟨w.heap.size,0,none⟩) 1 1)).run Tryz.prog (w.alloc (.cells #[.int .u8 (m:Int)] 5))=.ok (.string (nib1 m)) (w.alloc (.cells #[.int .u8 (m:Int)] 5)):=by
 have e:(m:Int)=((UInt8.ofNat m).toNat:Int):=by rw[jnk m vO]
 rw[e];exact Tryz.run_lit1 w (UInt8.ofNat m)
structure BrRd(u:vB)(ks:Nat->PA)(b:Nat)(vk:Nat->Value)(Dk:Nat->Nat->Prop)(W:World):Prop where
 blk:Blk W b (.cells (brC u vk).toArray 242)
 kid:∀ i,i < 16->PaO (ks i) (vk i) (Dk i) W
theorem jqp(w0 W:vW)(u p:vB)(ks:Nat->PA)(b:Nat)(vk:Nat->vV)(Dk:Nat->Nat->Prop)(hb:BrRd u ks b vk Dk w0)(v:vV)(n kk:Nat)(E:vL)(h:ERow w0 W v n E)(hd:Dp (.br u ks) kk)(hs:p.size+kk<=900000)(hn:n+1+sumF (fun i=>cntP (ks i)) 16<=100000)(ih:∀ i,i < 16->(ks i).isNil=false->EntC (ks i))(ho:jdc p=false) :
  vQ 273 #[.pointer (some ⟨b,0,none⟩),.string p,v] W (EnP w0 (E++entK ks p 16)):=by
 have H:=Hd hb;have a9:=Hd hd;have a5:=Hd hs;have b0:=Hd ih;have b3:=Hd h.ext;have H0:=Hd h;have b4:=h.len';have q0:=jaa (hb.blk.cellL (i:=0) (v:=.string u) vF) h.ext;have O:=ja8 (hb.blk.keeps h.ext (fun e=>e));have c1:(⟨#[]⟩:vB).toList.isEmpty=true:=by rw[bW];rfl
 have c4:=jkc;have z:=jrr W p vO;unfold keyV at z
 obtain⟨a,c,a4⟩:=h.sl
 rw[ho,if_neg ff]at z;have HK:=Hd z;have b5:=Hd (show E.length+sumF (fun i=>cntP (ks i)) 16<=100000 by omega);have hB:=Hd hb.blk;clear hb hd hs ih h hn ho z O;subst a4;go_enter Tryz.func273,Tryz.ntmps273;go_wp2_with fail
 refine HK.o.mono ?_;rintro e w1 ⟨rfl,hE⟩;have O:=ja8 (hB.o.keeps (b3.o.trans hE) (fun e=>e));have b6:=Hd (H0.o.mono hE);clear hE q0;clear b4;go_wp2_with (refine jaf 240 (.tmp 35) rfl rfl _ _ rfl O ?_)
 go_loopw [2,37] (fun tv iv wr=>jvt w0 ks p E tv iv wr) (fun _ iv _=>16 - (intOf iv).toNat)
 case atStart=>exact⟨0,n,by omega,rfl,by rw[show entK ks p 0=[]from rfl,bR];exact b6.o⟩
 case round =>
  obtain⟨k,m,hk,rfl,hR⟩:=hrel
  have Q:=Hd hR;have a6:m<=E.length+sumF (fun i=>cntP (ks i)) k:=by
   have h1:=hR.len';have h2:=jjX ks p k;rw[bG]at h1;omega
  have b7:=Hd a6
  obtain⟨a2,c2,J⟩:=hR.sl
  clear hR a6
  by_cases hlt:k < 16
  ·have a7:=jeF vk hlt
   have q:=jh7 ks p k;rcases (H.o.kid k hlt).at'.kid with⟨hn,hv⟩ |⟨hn,T,x,hv⟩
   ·rw[hn,if_pos rfl,bR]at q
    rw[hv]at a7;have X:=Hd q;clear q hn hv;subst J;go_wp2;go_roundw
    case rel=>exact⟨k+1,m,by omega,by go_num,by rw[X.o];exact Q.o⟩
    case measure=>exact vJ
   ·rw[hn,if_neg ff]at q
    rw[hv]at a7;have hq:=jds T x;have K:=H.o.kid k hlt;rw[hv]at K;have a8:=K.at'.meth;have c5:∀ w,(Go.method (437+1) T x "guilloche/trie.entries").run Tryz.prog w=.ok (jfZ (ks k),x) w:=a8.ent;have c6:=jd7 (ks k);have c7:=jjU wr hlt;have Z:=a9.o k hn;have b8:sumF (fun i=>cntP (ks i)) k+cntP (ks k)<=sumF (fun i=>cntP (ks i)) 16:=by
     have h1:=jel (fun i=>cntP (ks i)) (k+1) (15 - k);rw[show k+1+(15 - k)=16 by omega]at h1;exact h1
    have a0:=Hd (show ∀ wb,Ext wr wb->vQ (jfZ (ks k)) #[x,.string (p++nib1 k),.slice a2 m c2] wb (EnP w0 (E++entK ks p k++entP (ks k) (p++nib1 k)))from fun wb e=>b0.o k hlt hn w0 wb T x (Dk k) (p++nib1 k) _ m (kk - 1) _ K (by rw[<-J];exact Q.o.mono e) Z.2 (by rw[jc1];have:(nib1 k).size=1:=rfl;have:=a5.o;have:=Z.1;omega) (by have:=b7.o;have:=b5.o;omega));have X:=Hd q;have b1:(k:Int) < 256:=vO
    have c8:p.size+(nib1 k).size<=900001:=by have:(nib1 k).size=1:=rfl;have:=a5.o;omega
    have b2:(k:Int) < 16:=vO
    clear q hn hv K a8 Z b8;subst J;go_wp2_with fail
    refine (a0.o _ ((ExtR wr).alloc _)).mono ?_;rintro e w2 ⟨v2,m2,rfl,a1⟩;have b9:=Hd a1
    obtain⟨a3,c3,c0⟩:=a1.sl
    subst c0;clear a1;go_wp2_with fail
    go_roundw
    case rel=>exact⟨k+1,m2,by omega,by go_num,by rw[X.o, <-bX];exact b9.o⟩
    case measure=>exact vJ
  ·obtain rfl:k=16:=vO
   subst J;go_wp2_with fail
   go_ret
   exact⟨_,_,rfl,Q.o⟩
theorem jtj(w0 W:vW)(u p:vB)(ks:Nat->PA)(b:Nat)(vk:Nat->vV)(Dk:Nat->Nat->Prop)(hb:BrRd u ks b vk Dk w0)(v:vV)(n kk:Nat)(E:vL)(h:ERow w0 W v n E)(hd:Dp (.br u ks) kk)(hs:p.size+kk<=900000)(hn:n+1+sumF (fun i=>cntP (ks i)) 16<=100000)(ih:∀ i,i < 16->(ks i).isNil=false->EntC (ks i))(ho:jdc p=true)(hu:u.size≠0) :
  vQ 273 #[.pointer (some ⟨b,0,none⟩),.string p,v] W (EnP w0 ((E++[(jbz p,u)])++entK ks p 16)):=by
 have H:=Hd hb;have b3:=Hd hd;have a6:=Hd hs;have b4:=Hd ih;have c7:=Hd h.ext;have H0:=Hd h;have b5:=h.len';have q0:=jaa (hb.blk.cellL (i:=0) (v:=.string u) vF) h.ext;have O:=ja8 (hb.blk.keeps h.ext (fun e=>e));have c8:(⟨#[]⟩:vB).toList.isEmpty=true:=by rw[bW];rfl
 have c9:=jkc;have z:=jrr W p vO;unfold keyV at z
 obtain⟨a,c,a4⟩:=h.sl
 rw[ho,if_pos rfl]at z;have HK:=Hd z;have d0:=jcY hu;have b6:=Hd (show (E++[(jbz p,u)]).length+sumF (fun i=>cntP (ks i)) 16<=100000 by rw[bG,iX];omega);have hB:=Hd hb.blk;have Q0:=Hd q0;have c6:n<=100000:=vO
 clear hb hd hs ih h hn ho z O hu q0;subst a4;go_enter Tryz.func273,Tryz.ntmps273;go_wp2_with fail
 refine HK.o.mono ?_;rintro e w1 ⟨rfl,hE⟩;have q0:=jaa Q0.o hE;have b7:=Hd (H0.o.mono hE);clear hE b5;go_wp2_with (first |(at_builtin;refine ja5 Tryz.sEnts (b7.o.mono ((ExtR w1).alloc _)) (.tmp 24) (.tmp 31) rfl rfl rfl (ja3 (Blk.new w1 _)) (news:=[.string (jbz p),.string u]) (by intro u hu;simp at hu;rcases hu with rfl | rfl <;> rfl) rfl rfl (by unfold maxLen;omega) vO (fun v' w' r1 r2 r3=>?_);obtain⟨a5,c5,b8⟩:=r1.sl;subst b8;have a7:Hid (ERow w0 w' (.slice a5 (n+1) c5) (n+1) (E++[(jbz p,u)])):=Hd (by rw[<-ji3, <-jbg]at r1;exact r1);have O:=ja8 (hB.o.keeps a7.o.ext (fun e=>e))) |(refine jaf 240 (.tmp 35) rfl rfl _ _ rfl O ?_))
 go_loopw [2,37] (fun tv iv wr=>jvt w0 ks p (E++[(jbz p,u)]) tv iv wr) (fun _ iv _=>16 - (intOf iv).toNat)
 case atStart=>exact⟨0,(n+1),by omega,rfl,by rw[show entK ks p 0=[]from rfl,bR];exact a7.o⟩
 case round =>
  obtain⟨k,m,hk,rfl,hR⟩:=hrel
  have Q:=Hd hR;have a8:m<=(E++[(jbz p,u)]).length+sumF (fun i=>cntP (ks i)) k:=by
   have h1:=hR.len';have h2:=jjX ks p k;rw[bG]at h1;omega
  have b9:=Hd a8
  obtain⟨a2,c2,J⟩:=hR.sl
  clear hR a8
  by_cases hlt:k < 16
  ·have a9:=jeF vk hlt
   have q:=jh7 ks p k;rcases (H.o.kid k hlt).at'.kid with⟨hn,hv⟩ |⟨hn,T,x,hv⟩
   ·rw[hn,if_pos rfl,bR]at q
    rw[hv]at a9;have X:=Hd q;clear q hn hv;subst J;go_wp2;go_roundw
    case rel=>exact⟨k+1,m,by omega,by go_num,by rw[X.o];exact Q.o⟩
    case measure=>exact vJ
   ·rw[hn,if_neg ff]at q
    rw[hv]at a9;have hq:=jds T x;have K:=H.o.kid k hlt;rw[hv]at K;have b0:=K.at'.meth;have d1:∀ w,(Go.method (437+1) T x "guilloche/trie.entries").run Tryz.prog w=.ok (jfZ (ks k),x) w:=b0.ent;have d2:=jd7 (ks k);have d3:=jjU wr hlt;have Z:=b3.o k hn;have c0:sumF (fun i=>cntP (ks i)) k+cntP (ks k)<=sumF (fun i=>cntP (ks i)) 16:=by
     have h1:=jel (fun i=>cntP (ks i)) (k+1) (15 - k);rw[show k+1+(15 - k)=16 by omega]at h1;exact h1
    have a0:=Hd (show ∀ wb,Ext wr wb->vQ (jfZ (ks k)) #[x,.string (p++nib1 k),.slice a2 m c2] wb (EnP w0 ((E++[(jbz p,u)])++entK ks p k++entP (ks k) (p++nib1 k)))from fun wb e=>b4.o k hlt hn w0 wb T x (Dk k) (p++nib1 k) _ m (kk - 1) _ K (by rw[<-J];exact Q.o.mono e) Z.2 (by rw[jc1];have:(nib1 k).size=1:=rfl;have:=a6.o;have:=Z.1;omega) (by have:=b9.o;have:=b6.o;omega));have X:=Hd q;have b1:(k:Int) < 256:=vO
    have d4:p.size+(nib1 k).size<=900001:=by have:(nib1 k).size=1:=rfl;have:=a6.o;omega
    have b2:(k:Int) < 16:=vO
    clear q hn hv K b0 Z c0;subst J;go_wp2_with fail
    refine (a0.o _ ((ExtR wr).alloc _)).mono ?_;rintro e w2 ⟨v2,m2,rfl,a1⟩;have c1:=Hd a1
    obtain⟨a3,c3,c4⟩:=a1.sl
    subst c4;clear a1;go_wp2_with fail
    go_roundw
    case rel=>exact⟨k+1,m2,by omega,by go_num,by rw[X.o, <-bX];exact c1.o⟩
    case measure=>exact vJ
  ·obtain rfl:k=16:=vO
   subst J;go_wp2_with fail
   go_ret
   exact⟨_,_,rfl,Q.o⟩
theorem jti(w0 W:vW)(u p:vB)(ks:Nat->PA)(b:Nat)(vk:Nat->vV)(Dk:Nat->Nat->Prop)(hb:BrRd u ks b vk Dk w0)(v:vV)(n kk:Nat)(E:vL)(h:ERow w0 W v n E)(hd:Dp (.br u ks) kk)(hs:p.size+kk<=900000)(hn:n+1+sumF (fun i=>cntP (ks i)) 16<=100000)(ih:∀ i,i < 16->(ks i).isNil=false->EntC (ks i))(ho:jdc p=true)(hu:u.size=0) :
  vQ 273 #[.pointer (some ⟨b,0,none⟩),.string p,v] W (EnP w0 (E++entK ks p 16)):=by
 have H:=Hd hb;have a9:=Hd hd;have a5:=Hd hs;have b0:=Hd ih;have b3:=Hd h.ext;have H0:=Hd h;have b4:=h.len';have q0:=jaa (hb.blk.cellL (i:=0) (v:=.string u) vF) h.ext;have O:=ja8 (hb.blk.keeps h.ext (fun e=>e));have c4:(⟨#[]⟩:vB).toList.isEmpty=true:=by rw[bW];rfl
 have c5:=jkc;have z:=jrr W p vO;unfold keyV at z
 obtain⟨a,c,a4⟩:=h.sl
 rw[ho,if_pos rfl]at z;have HK:=Hd z;have b5:=jbo hu;subst b5;have b6:=Hd (show E.length+sumF (fun i=>cntP (ks i)) 16<=100000 by omega);have hB:=Hd hb.blk;have Q0:=Hd q0;clear hb hd hs ih h hn ho z O hu q0;subst a4;go_enter Tryz.func273,Tryz.ntmps273;go_wp2_with fail
 refine HK.o.mono ?_;rintro e w1 ⟨rfl,hE⟩;have q0:=jaa Q0.o hE;have O:=ja8 (hB.o.keeps (b3.o.trans hE) (fun e=>e));have b7:=Hd (H0.o.mono hE);clear hE b4;go_wp2_with (refine jaf 240 (.tmp 35) rfl rfl _ _ rfl O ?_)
 go_loopw [2,37] (fun tv iv wr=>jvt w0 ks p E tv iv wr) (fun _ iv _=>16 - (intOf iv).toNat)
 case atStart=>exact⟨0,n,by omega,rfl,by rw[show entK ks p 0=[]from rfl,bR];exact b7.o⟩
 case round =>
  obtain⟨k,m,hk,rfl,hR⟩:=hrel
  have Q:=Hd hR;have a6:m<=E.length+sumF (fun i=>cntP (ks i)) k:=by
   have h1:=hR.len';have h2:=jjX ks p k;rw[bG]at h1;omega
  have b8:=Hd a6
  obtain⟨a2,c2,J⟩:=hR.sl
  clear hR a6
  by_cases hlt:k < 16
  ·have a7:=jeF vk hlt
   have q:=jh7 ks p k;rcases (H.o.kid k hlt).at'.kid with⟨hn,hv⟩ |⟨hn,T,x,hv⟩
   ·rw[hn,if_pos rfl,bR]at q
    rw[hv]at a7;have X:=Hd q;clear q hn hv;subst J;go_wp2;go_roundw
    case rel=>exact⟨k+1,m,by omega,by go_num,by rw[X.o];exact Q.o⟩
    case measure=>exact vJ
   ·rw[hn,if_neg ff]at q
    rw[hv]at a7;have hq:=jds T x;have K:=H.o.kid k hlt;rw[hv]at K;have a8:=K.at'.meth;have c6:∀ w,(Go.method (437+1) T x "guilloche/trie.entries").run Tryz.prog w=.ok (jfZ (ks k),x) w:=a8.ent;have c7:=jd7 (ks k);have c8:=jjU wr hlt;have Z:=a9.o k hn;have b9:sumF (fun i=>cntP (ks i)) k+cntP (ks k)<=sumF (fun i=>cntP (ks i)) 16:=by
     have h1:=jel (fun i=>cntP (ks i)) (k+1) (15 - k);rw[show k+1+(15 - k)=16 by omega]at h1;exact h1
    have a0:=Hd (show ∀ wb,Ext wr wb->vQ (jfZ (ks k)) #[x,.string (p++nib1 k),.slice a2 m c2] wb (EnP w0 (E++entK ks p k++entP (ks k) (p++nib1 k)))from fun wb e=>b0.o k hlt hn w0 wb T x (Dk k) (p++nib1 k) _ m (kk - 1) _ K (by rw[<-J];exact Q.o.mono e) Z.2 (by rw[jc1];have:(nib1 k).size=1:=rfl;have:=a5.o;have:=Z.1;omega) (by have:=b8.o;have:=b6.o;omega));have X:=Hd q;have b1:(k:Int) < 256:=vO
    have c9:p.size+(nib1 k).size<=900001:=by have:(nib1 k).size=1:=rfl;have:=a5.o;omega
    have b2:(k:Int) < 16:=vO
    clear q hn hv K a8 Z b9;subst J;go_wp2_with fail
    refine (a0.o _ ((ExtR wr).alloc _)).mono ?_;rintro e w2 ⟨v2,m2,rfl,a1⟩;have c0:=Hd a1
    obtain⟨a3,c3,c1⟩:=a1.sl
    subst c1;clear a1;go_wp2_with fail
    go_roundw
    case rel=>exact⟨k+1,m2,by omega,by go_num,by rw[X.o, <-bX];exact c0.o⟩
    case measure=>exact vJ
  ·obtain rfl:k=16:=vO
   subst J;go_wp2_with fail
   go_ret
   exact⟨_,_,rfl,Q.o⟩
end
theorem jm1:∀ (P:PA),EntC P
 | .nil=>fun o W T x D p v n k E h _ _ _ _=>by cases h.at'
 | .no=>fun o W T x D p v n k E h H _ _ _=>by
  have e:Value.iface T x=noV:=h.at';unfold noV at e;injection e with e1 e2;subst e1 e2;show Calls _ _ _ W (EnP o (E++[]));rw[bR];exact jwx o W p v n E H
 | .leaf q u=>fun o W T x D p v n k E h H J O K=>by
  obtain⟨b,e,h1,Q⟩:=h.at'
  unfold jiT at e;injection e with e1 e2;subst e1 e2;have J:q.size<=k:=J;have K:n+1<=100000:=K;exact jyk o W q u p b Q v n E H vO vO
 | .ext q m=>fun o W T x D p v n k E h H J O K=>by
  obtain⟨b,T',x',Dn,e,h1,Q,h3,h4,h5⟩:=h.at'
  unfold extV at e;injection e with e1 e2;subst e1 e2;have K:n+(1+cntP m)<=100000:=K;have h1:=J.1;exact jx5 o W q m T' x' Dn b Q h3 (fun z hz=>h.lt z (h5 z hz)) p v n (k - q.size) E H J.2 (by rw[jc1];omega) vO (jm1 m)
 | .br u ks=>fun o W T x D p v n k E h H J O K=>by
  obtain⟨b,X,Z,e,h1,Q,h3,h4⟩:=h.at'
  unfold brV at e;injection e with e1 e2;subst e1 e2;have hb:BrRd u ks b X Z o:=⟨Q,fun i hi=>⟨(h3 i hi).1,fun z hz=>h.lt z ((h3 i hi).2.2 z hz)⟩⟩;have K:n+(1+sumF (fun i=>cntP (ks i)) 16)<=100000:=K;have ih:∀ i,i < 16->(ks i).isNil=false->EntC (ks i):=fun i _ _=>jm1 (ks i);show Calls _ _ _ W (EnP o (E++((if u.size=0 then []else keyR p u)++entK ks p 16)));unfold keyR;rw[<-bX]
  by_cases hu:u.size=0
  ·rw[if_pos hu,bR]
   cases ho:jdc p with
   | true=>exact jti o W u p ks b X Z hb v n k E H J O vO ih ho hu
   | false=>exact jqp o W u p ks b X Z hb v n k E H J O vO ih ho
  ·rw[if_neg hu]
   cases ho:jdc p with
   | true=>rw[if_pos rfl];exact jtj o W u p ks b X Z hb v n k E H J O vO ih ho hu
   | false=>rw[if_neg ff,bR];exact jqp o W u p ks b X Z hb v n k E H J O vO ih ho
section
attribute [local go_sem] Oper.semAt_some
def jge(k:Key)(L:vT):vT:=L.map fun x=>if x.1=k then (x.1,x.2.1,putF 2 (x.2.2.used+1) x.2.2)else x
def jet(T:vM)(L:vT):vT:=T.foldl (fun L r=>jge r.data.toList L) L
theorem jpa(T:vM)(r:vB)(L:vT):jet (T++[r]) L=jge r.data.toList (jet T L):=by unfold jet;rw[fO];rfl
theorem jo9(k:Key)(L:vT):(jge k L).map (·.1)=L.map (·.1):=by
 unfold jge;rw[cT];refine cS (fun x _=>?_);simp only[Function.comp];split <;> rfl
theorem jo8(k:Key)(L:vT):(jge k L).map (·.2.1)=L.map (·.2.1):=by
 unfold jge;rw[cT];refine cS (fun x _=>?_);simp only[Function.comp];split <;> rfl
theorem jgO:∀ (T:vM) (L:vT),(jet T L).map (·.1)=L.map (·.1)
 | [],_=>rfl
 | r :: T,L=>by
  show (jet T (jge r.data.toList L)).map (·.1)=_;rw[jgO T,jo9]
theorem jgN:∀ (T:vM) (L:vT),(jet T L).map (·.2.1)=L.map (·.2.1)
 | [],_=>rfl
 | r :: T,L=>by
  show (jet T (jge r.data.toList L)).map (·.2.1)=_;rw[jgN T,jo8]
theorem jnp{A B:vT}(h:A.map (·.1)=B.map (·.1))(k:Key):(atL A k).isSome=(atL B k).isSome:=by
 have e:∀ L:vT,(atL L k).isSome=(L.map (·.1)).any (fun y=>decide (k=y)):=fun L=>by
  unfold atL;rw[List.isSome_find?,List.any_map];rfl
 rw[e,e,h]
theorem jiZ:∀ (T:vM) (L:vT) (lo hi:Int),(∀ x∈L,lo<=x.2.2.used/\x.2.2.used<=hi)->∀ x∈jet T L,lo<=x.2.2.used/\x.2.2.used<=hi+T.length
 | [],L,lo,hi,h=>fun x e=>by have:=h x e;simp;exact this
 | r :: T,L,lo,hi,h=>fun x e=>by
  have:=jiZ T (jge r.data.toList L) lo (hi+1) (fun y o=>by
   obtain⟨z,q,rfl⟩:=bC.1 o
   have:=h z q
   split
   ·simp only[putF,if_true];omega
   ·omega) x e
  rw[bQ];omega
def kvR(x:Nd5):Nat × vB × vM:=(x.2.1,x.2.2.text,x.2.2.refs)
def Like(W:vW)(bg:Nat)(G:vT):Prop:=∃ G',jcG W bg G'/\∀ k,(atL G' k).map kvR=(atL G k).map kvR
theorem jte(f c:Nat)(v:Int)(L:vT)(k:Key):atL (L.map (setB f c v)) k=(atL L k).map (setB f c v):=by
 unfold atL;rw[List.find?_map]
 congr 1
 refine congrFun (congrArg _ (funext fun x=>?_)) L;simp only[Function.comp,setB];split <;> rfl
theorem jt6(f c:Nat)(v:Int)(x:Nd5):kvR (setB f c v x)=kvR x:=by
 unfold setB kvR putF
 by_cases e:x.2.1=c
 ·rw[if_pos e]
  by_cases e2:f=2
  ·rw[if_pos e2]
  ·rw[if_neg e2]
 ·rw[if_neg e]
theorem Like.setF{W:vW}{bg:Nat}{G:vT}(h:Like W bg G){c:Nat}{it:It}(hc:jeJ W c it){f:Nat}(hf:f=2\/f=3)(v:Int):Like (W.setCell ⟨c,f,none⟩ (.int .i64 v)) bg G:=by
 obtain⟨q,e,o⟩:=h
 refine⟨_,e.setF hc hf v,fun k=>?_⟩
 rw[jte,Option.map_map, <-o k]
 congr 1
 funext x
 exact jt6 f c v x
theorem jsE{W:vW}{bm:Nat}{L:vT}(h:jcG W bm L){k:Key}{y:Nd5}(hy:atL L k=some y):L.map (setB 2 y.2.1 (y.2.2.used+1))=jge k L:=by
 obtain⟨H,J,_,z⟩:=h.mp
 have o:=z.keys;rw[cT]at o;have o:(L.map (·.1)).Nodup:=o;unfold jge;refine cS (fun x q=>?_);unfold setB
 by_cases e:x.2.1=y.2.1
 ·have:x=y:=jaQ h.blks q (jaF hy).1 e
  subst this;rw[if_pos rfl,if_pos (jaF hy).2]
 ·rw[if_neg e,if_neg]
  intro E
  have:x=y:=jaQ o q (jaF hy).1 (E.trans (jaF hy).2.symm)
  subst this;exact e rfl
structure Ad2(w5:World)(s bm bg:Nat)(room:Int)(S1 G:vT)(F:vM)(v:Value)(T:vM)(W:World):Prop where
 kp:jad (fun z=>z∈S1.map (·.2.1)) w5 W
 st:jaz W s bm room (jet T S1)
 gv:Like W bg G
 row:W.ownsRow 0 9 1 v F.length (F.map Value.string)
theorem Ad2.bump{w5:vW}{s bm bg:Nat}{room:Int}{S1 G:vT}{F:vM}{v:vV}{T:vM}{W:vW}(h:Ad2 w5 s bm bg room S1 G F v T W)
  (hu:∀ x∈S1,0<=x.2.2.used/\x.2.2.used<=1000000000) (hT:T.length<=1000000) (r:vB) (hr:(atL S1 r.data.toList).isSome=true) :
  ∃ (zb:Nat) (u:Int),(Instr.lookup 73 (.map (some bm)) (.string r) false).run Tryz.prog W=.ok (.pointer (some ⟨zb,0,none⟩)) W/\W.cell? ⟨zb,2,none⟩=some (.int .i64 u)/\W.frozen? ⟨zb,2,none⟩=false/\0<=u/\u<=2000000000 /\
   Ad2 w5 s bm bg room S1 G F v (T++[r]) (W.setCell ⟨zb,2,none⟩ (.int .i64 (u+1)))/\∀ E n xs,W.ownsRow 0 9 1 E n xs->(W.setCell ⟨zb,2,none⟩ (.int .i64 (u+1))).ownsRow 0 9 1 E n xs:=by
 have X:(atL (jet T S1) r.data.toList).isSome=true:=by rw[jnp (jgO T S1)];exact hr
 obtain⟨y,J⟩:=dB.1 X
 have o:=(jaF J).1;have K:=h.st.mp.items y o
 obtain⟨E,hb,Z⟩:=K.cells
 have q:=h.st.mp.look r false;rw[J]at q;simp only[cG,if_false]at q;have H:jad (fun z=>z=y.2.1) W (W.setCell ⟨y.2.1,2,none⟩ (.int .i64 (y.2.2.used+1))):=jad.oneSet W ⟨y.2.1,2,none⟩ _;have hN:jhn W (fun z=>z=y.2.1):=fun z a0 fz e hz=>by
  have e:z=y.2.1:=e;subst e
  have:=hb.uniq hz;injection this with _ h2;exact absurd h2 vI
 have O:y.2.1∈S1.map (·.2.1):=by rw[<-jgN T S1];exact bC.2 ⟨y,o,rfl⟩
 have Q:=jiZ T S1 0 1000000000 hu y o
 refine⟨y.2.1,y.2.2.used,q,hb.cell (i:=2) vF,hb.frozen,Q.1,by omega,⟨h.kp.trans (H.mono (fun z _ e=>by have e:z=_:=e;rw[e];exact O)),⟨h.st.st.keeps H (fun e=>?_),?_⟩,h.gv.setF K (.inl rfl) _,jcP h.row H hN⟩,fun E n xs hx=>jcP hx H hN⟩
 ·have e:s=y.2.1:=e
  rw[e]at h
  have:=hb.uniq h.st.st;injection this with _ h2;exact absurd h2 vI
 ·rw[jpa, <-jsE h.st.mp J]
  exact h.st.mp.setF K (.inl rfl) _
def jjR(k:Key)(L:vT):vT:=L.map fun x=>if x.1=k then (x.1,x.2.1,putF 3 (x.2.2.held+1) x.2.2)else x
theorem jpP{W:vW}{bm:Nat}{L:vT}(h:jcG W bm L){k:Key}{y:Nd5}(hy:atL L k=some y):L.map (setB 3 y.2.1 (y.2.2.held+1))=jjR k L:=by
 obtain⟨H,J,_,z⟩:=h.mp
 have o:=z.keys;rw[cT]at o;have o:(L.map (·.1)).Nodup:=o;unfold jjR;refine cS (fun x q=>?_);unfold setB
 by_cases e:x.2.1=y.2.1
 ·have:x=y:=jaQ h.blks q (jaF hy).1 e
  subst this;rw[if_pos rfl,if_pos (jaF hy).2]
 ·rw[if_neg e,if_neg]
  intro E
  have:x=y:=jaQ o q (jaF hy).1 (E.trans (jaF hy).2.symm)
  subst this;exact e rfl
theorem jiY:∀ (T:vM) (L:vT) (lo hi:Int),(∀ x∈L,lo<=x.2.2.held/\x.2.2.held<=hi)->∀ x∈jet T L,lo<=x.2.2.held/\x.2.2.held<=hi
 | [],L,lo,hi,h=>fun x e=>h x e
 | r :: T,L,lo,hi,h=>fun x e=>by
  refine jiY T (jge r.data.toList L) lo hi (fun y o=>?_) x e
  obtain⟨z,q,rfl⟩:=bC.1 o
  have:=h z q
  split
  ·simp only[putF,if_true];exact this
  ·exact this
theorem Ad2.hold{w5:vW}{s bm bg:Nat}{room:Int}{S1 G:vT}{F:vM}{v:vV}{T:vM}{W:vW}(h:Ad2 w5 s bm bg room S1 G F v T W)
  (hu:∀ x∈S1,0<=x.2.2.held/\x.2.2.held<=1000000000) (r:vB) (hr:(atL S1 r.data.toList).isSome=true) :
  ∃ (zb:Nat) (u:Int),(Instr.lookup 73 (.map (some bm)) (.string r) false).run Tryz.prog W=.ok (.pointer (some ⟨zb,0,none⟩)) W/\W.cell? ⟨zb,3,none⟩=some (.int .i64 u)/\W.frozen? ⟨zb,3,none⟩=false/\0<=u/\u<=1000000000 /\
   jaz (W.setCell ⟨zb,3,none⟩ (.int .i64 (u+1))) s bm room (jjR r.data.toList (jet T S1))/\jad (fun z=>z∈S1.map (·.2.1)) w5 (W.setCell ⟨zb,3,none⟩ (.int .i64 (u+1))):=by
 have Q:(atL (jet T S1) r.data.toList).isSome=true:=by rw[jnp (jgO T S1)];exact hr
 obtain⟨y,H⟩:=dB.1 Q
 have o:=(jaF H).1;have K:=h.st.mp.items y o
 obtain⟨Z,hb,X⟩:=K.cells
 have q:=h.st.mp.look r false;rw[H]at q;simp only[cG,if_false]at q;have O:jad (fun z=>z=y.2.1) W (W.setCell ⟨y.2.1,3,none⟩ (.int .i64 (y.2.2.held+1))):=jad.oneSet W ⟨y.2.1,3,none⟩ _;have J:y.2.1∈S1.map (·.2.1):=by rw[<-jgN T S1];exact bC.2 ⟨y,o,rfl⟩
 have E:=jiY T S1 0 1000000000 hu y o
 refine⟨y.2.1,y.2.2.held,q,hb.cell (i:=3) vF,hb.frozen,E.1,E.2,⟨h.st.st.keeps O (fun e=>?_),?_⟩,h.kp.trans (O.mono (fun z _ e=>by have e:z=_:=e;rw[e];exact J))⟩
 ·have e:s=y.2.1:=e
  rw[e]at h
  have:=hb.uniq h.st.st;injection this with _ h2;exact absurd h2 vI
 ·rw[<-jpP h.st.mp H]
  exact h.st.mp.setF K (.inr rfl) _
def jcQ(G:vT)(F:vM):vT:=F.filterMap fun x=>atL G x.data.toList
theorem jpH{G:vT}{F:vM}{i:Nat}{x:vB}{y:Nd5}(hx:F[i]?=some x)(hy:atL G x.data.toList=some y):jcQ G (F.take (i+1))=jcQ G (F.take i)++[y]:=by
 unfold jcQ;rw[cB,hx,List.filterMap_append];simp[hy]
theorem jbZ{G:vT}{F:vM}{y:Nd5}(h:y∈jcQ G F):y∈G/\∃ x∈F,y.1=x.data.toList:=by
 obtain⟨x,o,e⟩:=List.mem_filterMap.1 h
 exact⟨(jaF e).1,x,o,(jaF e).2⟩
theorem jvJ{A B:vT}{k:Key}(h:∀ x∈B,k≠x.1):atL (A++B) k=atL A k:=by
 unfold atL;rw[List.find?_append]
 have:B.find? (fun x=>decide (k=x.1))=none:=by rw[List.find?_eq_none];simpa using h
 rw[this];simp
theorem jcG.notRow{W:vW}{bm:Nat}{L:vT}(h:jcG W bm L):jhn W (fun z=>z=bm):=fun z o H e q=>by
 obtain⟨J,K,E,_⟩:=h.mp
 have e:z=bm:=e;subst e
 have:=E.uniq q;cases this
structure Ad1(w4:World)(s bm bg:Nat)(room:Int)(S G:vT)(F:vM)(v:Value)(i:Nat)(W:World):Prop where
 kp:jad (fun z=>z=bm) w4 W
 st:jaz W s bm room (S++jcQ G (F.take i))
 gv:jcG W bg G
 row:W.ownsRow 0 9 1 v F.length (F.map Value.string)
theorem Ad1.ext{w4:vW}{s bm bg:Nat}{room:Int}{S G:vT}{F:vM}{v:vV}{i:Nat}{W W':vW}(h:Ad1 w4 s bm bg room S G F v i W)(e:Ext W W'):Ad1 w4 s bm bg room S G F v i W':=
 ⟨h.kp.trans (e.mono (fun _ _ g=>g.elim)),h.st.ext e,h.gv.ext e,jbh h.row e⟩
theorem Ad1.put{w4:vW}{s bm bg:Nat}{room:Int}{S G:vT}{F:vM}{v:vV}{i:Nat}{W:vW}(h:Ad1 w4 s bm bg room S G F v i W)
  (hSG:∀ x∈S,∀ y∈G,x.2.1≠y.2.1) (hbg:bg≠bm) (hv:∀ z,v.ownBlock=some z->z≠bm) (hnd:F.Nodup) (hFS:∀ x∈F,atL S x.data.toList=none)
  {x:vB} {y:Nd5} (hx:F[i]?=some x) (hy:atL G x.data.toList=some y) :
  ∃ o,(Instr.mapUpdate 73 (.map (some bm)) (.string x) (.pointer (some ⟨y.2.1,0,none⟩))).run Tryz.prog W=.ok () (W.putObj bm o)/\Ad1 w4 s bm bg room S G F v (i+1) (W.putObj bm o):=by
 have hk:∀ z∈jcQ G (F.take i),x.data.toList≠z.1:=fun z q e=>by
  obtain⟨_,x',O,e'⟩:=jbZ q
  have:=jmy (e.trans e')
  subst this;exact jpF hnd hx O
 have hn:atL (S++jcQ G (F.take i)) x.data.toList=none:=by rw[jvJ hk];exact hFS x (bI hx)
 have E:=(jaF hy).1;have H:=(jaF hy).2;have J:∀ z∈S++jcQ G (F.take i),z.2.1≠y.2.1:=fun z q e=>by
  rcases bO.1 q with q | q
  ·exact hSG z q y E e
  ·have:=jaQ h.gv.blks (jbZ q).1 E e
   subst this;exact hk z q H.symm
 obtain⟨o,Q,hA⟩:=h.st.mp.put x hn (h.gv.items y E) J
 have K:jad (fun z=>z=bm) W (W.putObj bm o):=jad.onePut W bm o;have hN:=h.st.mp.notRow;have X:∀ {c:Nat} {it:It},jeJ W c it->¬ c=bm:=fun hi e=>by
  obtain⟨_,hc,_⟩:=hi.cells
  obtain⟨es,ck,Z,_⟩:=h.st.mp.mp
  subst e
  have:=Z.uniq hc;cases this
 refine⟨o,Q,h.kp.trans K,⟨h.st.st.keeps K (fun e=>?_),?_⟩,h.gv.keeps K hbg (fun z q=>X (h.gv.items z q)) hN,jaY h.row K (fun z q e=>hv z q e)⟩
 ·have e:s=bm:=e
  obtain⟨es,ck,Z,_⟩:=h.st.mp.mp
  subst e
  have:=Z.uniq h.st.st;cases this
 ·rw[jpH hx hy, <-bX]
  have e:(x.data.toList,y.2.1,y.2.2)=y:=by rw[<-H]
  rw[e]at hA;exact hA
theorem jxN(A B:vT)(k:Key):(atL (A++B) k).isSome=((atL A k).isSome ||(atL B k).isSome):=by
 unfold atL;rw[List.find?_append,Option.isSome_or]
def AdR2(w5:vW)(s bm bg:Nat)(room:Int)(S1 G:vT)(F:vM)(v iv:vV)(W:vW):Prop:=∃ i:Nat,i<=F.length/\iv=.int .i64 i/\Ad2 w5 s bm bg room S1 G F v ((F.take i).flatMap (jb4 G)) W
def AdR3(w5:vW)(s bm bg:Nat)(room:Int)(S1 G:vT)(F:vM)(v:vV)(T R:vM)(rv jv:vV)(W:vW):Prop:=∃ j:Nat,j<=R.length/\jv=.int .i64 j/\Ad2 w5 s bm bg room S1 G F v (T++R.take j) W/\W.ownsRow 0 9 1 rv R.length (R.map Value.string)
def AdR1(w4:vW)(s bm bg:Nat)(room:Int)(S G:vT)(F:vM)(v iv:vV)(W:vW):Prop:=∃ i:Nat,i<=F.length/\iv=.int .i64 i/\Ad1 w4 s bm bg room S G F v i W
def InjL(l:vM):Prop:=∀ x∈l,∀ y∈l,shaB x=shaB y->x=y
theorem InjL.step{L:vM}{i:Nat}{t:vB}(h:InjL (L.take i))(ht:L[i]?=some t)(hs:∀ x∈L.take i,shaB x=shaB t->x=t):InjL (L.take (i+1)):=by
 intro x o y q e;rw[cB,ht]at o q;rcases bO.1 o with h1 | h1 <;> rcases bO.1 q with h2 | h2
 ·exact h x h1 y h2 e
 ·simp at h2;subst h2;exact hs x h1 e
 ·simp at h1;subst h1;exact (hs y h2 e.symm).symm
 ·simp at h1 h2;rw[h1,h2]
def ApR1(w:vW)(L:vM)(hv iv:vV)(W:vW):Prop:=∃ i:Nat,i<=L.length/\iv=.int .i64 i/\SRow w W hv i ((L.take i).map shaB)/\InjL (L.take i)
def ApR2(w4:vW)(L:vM)(t:vB)(i:Nat)(kv:vV)(W:vW):Prop:=∃ k:Nat,k<=i/\kv=.int .i64 k/\Ext w4 W/\∀ x∈L.take k,shaB x=shaB t->x=t
def ApP(L:vM)(w:vW)(e:Ending)(w':vW):Prop:=∃ b,e=.returned (.bool b)/\(b=true↔InjL L)/\Ext w w'
theorem jmr(w:vW)(hc:jbS w)(v:vV)(L:vM)(hv:RdS w v L)(hl:L.length<=1000000):vQ 55 #[v] w (ApP L w):=by
 obtain⟨a,c,rfl,_⟩:=hv.slice
 have HV:=Hd hv;have HC:=Hd hc;clear hv hc;go_enter Tryz.func55,Tryz.ntmps55;go_wp2_with fail
 go_loopw [3,4] (fun hv iv wr=>ApR1 w L hv iv wr) (fun _ iv _=>L.length - (intOf iv).toNat)
 case atStart=>exact⟨0,cC _,rfl,ORow.nil _ _ (ExtR w),fun x O=>by cases O⟩
 case round =>
  obtain⟨i,hi,rfl,hR,hI⟩:=hrel
  obtain⟨ah,ch,rfl⟩:=hR.sl
  have HR:=Hd hR;have HI:=Hd hI;clear hR hI
  by_cases hlt:i < L.length
  ·have b1:(i:Int) < (L.length:Int):=vO
   obtain⟨t,ht⟩:∃ t,L[i]?=some t:=⟨_,bA hlt⟩
   obtain⟨ax,cx,hh,q⟩:=HV.o.slice
   obtain⟨ba,oa,b0,Z⟩:=q i t ht
   subst b0;cases hh;have q1:=jaa Z HR.o.ext;have HT:=Hd ht;have b4:=Hd Z;have b5:=Hd (show ∀ (j:Nat) x,L[j]?=some x->w.cell? ⟨ba,oa+j,none⟩=some (.string x)from fun j x O=>by
    obtain⟨b',o',e,h⟩:=q j x O
    cases e;exact h)
   clear q Z ht;go_wp2_with fail
   refine vH (of_t _ _ [t] (by simp) (jcO wr [t] 9) (HC.o.ext (HR.o.ext.alloc _))) fun w4 hE=>?_;rw[jdQ];have a0:=((ExtR wr).alloc (.cells #[.string t] 9)).trans hE;have a1:=Hd (HR.o.mono a0);have a2:=Hd (HR.o.ext.trans a0)
   obtain⟨sh,a3⟩:=vE (shaB t)
   have a4:=Hd a3;rw[<-a3];clear a0 a3 q1 HR;go_wp2_with fail
   go_loopw [6] (fun kv b6=>ApR2 w4 L t i kv b6) (fun kv _=>i - (intOf kv).toNat)
   case atStart=>exact⟨0,cC _,rfl,ExtR w4,fun x O=>by cases O⟩
   case round =>
    obtain⟨k,hk,rfl,hE,hs⟩:=hrel
    have J:=Hd hE;have HS:=Hd hs;clear hE hs
    by_cases hlt2:k < i
    ·have b2:(k:Int) < (i:Int):=vO
     have b3:(k:Int) < (L.length:Int):=vO
     obtain⟨x,O⟩:∃ x,L[k]?=some x:=⟨_,bA vO⟩
     have Q:((L.take i).map shaB)[k]?=some (shaB x):=by rw[cA,List.getElem?_take,if_pos hlt2,O];rfl
     have a8:=jhl a1.o.own;have E:∃ bh oh,ah=some ⟨bh,oh,none⟩/\w4.cell? ⟨bh,oh+k,none⟩=some (.string (shaB x)):=by
      rcases a8 with⟨_,_,_,h0⟩ |⟨bq,oq,cq,hh,_,_,q⟩
      ·rw[h0]at Q;cases Q
      ·exact⟨bq,oq,(dY hh).1,q k _ Q⟩
     obtain⟨bh,oh,rfl,E⟩:=E
     obtain⟨sx,a5⟩:=vE (shaB x)
     rw[<-a5]at E;have a9:=Hd a5;have Q1:=Hd (jaa E J.o);have Q2:=Hd (jaa (b5.o k x O) (a2.o.trans J.o));have Q3:=Hd (jaa b4.o (a2.o.trans J.o));have HX:=Hd O;clear O Q a8 E a5;go_wp2_with fail
     refine jai [0,1,2,3,4,5,6,7,8,9,10,11,12,13,14,15,16] Ext ExtR ExtT vY vY vY ?_;iterate 3 refine vK ?_
     refine qKL ⟨bh,oh+k,none⟩ _ rfl (fun w1 H=>jac Tryz.underlying9 rfl (jaa Q1.o ((jaj _).trans H))) ?_;refine vS ?_;iterate 3 refine vK ?_
     cases hq:(sx.toList == sh.toList)with
     | false =>
      have HN:=Hd (show shaB x=shaB t->x=t from fun e=>by
       rw[<-a9.o, <-a4.o]at e;rw[e]at hq;simp at hq)
      clear hq;iterate 9 (refine qKS _ rfl ?_;refine vS ?_)
      refine vK ?_
      refine qKE (fun w5 X=>?_);have K:=Hd (J.o.trans ((jaj _).trans X));have a6:=Hd (show ∀ z∈L.take (k+1),shaB z=shaB t->z=t from fun z hz e=>by
       rw[cB,HX.o]at hz;rcases bO.1 hz with H | H
       ·exact HS.o z H e
       ·simp at H;subst H;exact HN.o e)
      clear X Q1 Q2 Q3 J HS;go_wp2_with fail
      go_roundw
      case rel=>exact⟨k+1,by omega,by go_num,K.o,a6.o⟩
      case measure=>exact vJ
     | true =>
      have b7:=Hd (show shaB x=shaB t by rw[<-a9.o, <-a4.o];exact jhe (by simpa using hq));clear hq;iterate 3 refine vK ?_
      refine qKL ⟨ba,oa+k,none⟩ _ rfl (fun w1 H=>jac Tryz.underlying9 rfl (jaa Q2.o ((jaj _).trans H))) ?_;refine vS ?_;iterate 3 refine vK ?_
      refine qKL ⟨ba,oa+i,none⟩ _ rfl (fun w1 H=>jac Tryz.underlying9 rfl (jaa Q3.o ((jaj _).trans H))) ?_;refine vS ?_
      refine vK ?_
      cases E:(x.toList == t.toList)with
      | true =>
       have HN:Hid (x=t):=(jhe (by simpa using E));have hb:(!true)=false:=rfl;clear E;rw[hb]
       refine vK ?_
       refine qKE (fun w5 X=>?_);have K:=Hd (J.o.trans ((jaj _).trans X));have a6:=Hd (show ∀ z∈L.take (k+1),shaB z=shaB t->z=t from fun z hz e=>by
        rw[cB,HX.o]at hz;rcases bO.1 hz with H | H
        ·exact HS.o z H e
        ·simp at H;subst H;exact HN.o)
       clear X Q1 Q2 Q3 J HS hb;go_wp2_with fail
       go_roundw
       case rel=>exact⟨k+1,by omega,by go_num,K.o,a6.o⟩
       case measure=>exact vJ
      | false =>
       have hb:(!false)=true:=rfl;have b8:=Hd (show ¬ InjL L from fun h=>by
        have:=h x (bI HX.o) t (bI HT.o) b7.o
        rw[this]at E;simp at E)
       clear E;rw[hb]
       refine vK ?_
       refine qKE (fun w5 X=>?_);have K:=Hd (J.o.trans ((jaj _).trans X));clear X Q1 Q2 Q3 J HS hb;go_wp2_with fail
       go_ret
       exact⟨false,rfl,⟨fun e=>(by cases e),fun h=>absurd h b8.o⟩,a2.o.trans K.o⟩
    ·have b9:k=i:=vO
     subst b9;have c0:=Hd (HI.o.step HT.o HS.o);have c1:=Hd (a1.o.mono J.o);have c2:=Hd (show (L.take (k+1)).map shaB=(L.take k).map shaB++[sh] by rw[cB,HT.o,bY,a4.o];rfl);have c3:k+1<=maxLen:=by unfold maxLen;omega
     have c4:(k+1) * 16<=140737488355328:=vO
     clear HS HI J a1;go_wp2_with (at_builtin;refine ja5 Tryz.sStrs (c1.o.mono ((ExtR wr).alloc _)) (.tmp 41) (.tmp 43) rfl rfl rfl (ja3 (Blk.new wr _)) (news:=[.string sh]) (by intro u hu;simp at hu;rcases hu with rfl;rfl) rfl rfl c3 c4 ?_;intro v' w' r1 r2 r3)
     have a7:SRow w w' v' (k+1) ((L.take (k+1)).map shaB):=by unfold SRow;rw[c2.o,bY];exact r1
     obtain⟨c8,c9,rfl⟩:=a7.sl
     have c5:=Hd a7;clear r1 r2 r3 a7;go_wp2_with fail
     go_roundw
     case rel=>exact⟨k+1,by omega,by go_num,c5.o,c0.o⟩
     case measure=>exact vJ
  ·have c6:i=L.length:=vO
   have c7:=Hd (show InjL L by have:=HI.o;rwa [c6,cF]at this);clear HI;go_wp2_with fail
   go_ret
   exact⟨true,rfl,⟨fun _=>c7.o,fun _=>rfl⟩,HR.o.ext⟩
end
def cK(T:vM)(k:Key):Nat:=(T.map (·.data.toList)).count k
theorem jnw(A B:vM)(k:Key):cK (A++B) k=cK A k+cK B k:=by unfold cK;rw[bY,List.count_append]
theorem jhQ(r:vB)(B:vM)(k:Key):cK (r :: B) k=cK B k+(if k=r.data.toList then 1 else 0):=by
 unfold cK;rw[bJ,List.count_cons]
 by_cases h:k=r.data.toList
 ·rw[if_pos h,h];simp
 ·rw[if_neg h,if_neg];simpa using fun e=>h e.symm
theorem jvR{T:vM}{k:Key}(h:∀ r∈T,r.data.toList≠k):cK T k=0:=by
 unfold cK;rw[List.count_eq_zero];intro o
 obtain⟨r,q,e⟩:=bC.1 o
 exact h r q e
theorem jqA{T:vM}{r:vB}(h:r∈T):1<=cK T r.data.toList:=by
 unfold cK;exact fZ.2 (bC.2 ⟨r,h,rfl⟩)
def addU(n:Nat)(x:Nd5):Nd5:=(x.1,x.2.1,⟨x.2.2.text,x.2.2.refs,x.2.2.used+n,x.2.2.held⟩)
def addH(n:Nat)(x:Nd5):Nd5:=(x.1,x.2.1,⟨x.2.2.text,x.2.2.refs,x.2.2.used,x.2.2.held+n⟩)
theorem jnv:∀ (T:vM) (L:vT),jet T L=L.map fun x=>addU (cK T x.1) x
 | [],L=>by
  show L=_
  have:(fun x:Nd5=>addU (cK [] x.1) x)=id:=by
   funext x
   obtain⟨a,b,⟨t,r,u,h⟩⟩:=x
   unfold addU cK;simp
  rw[this,iK]
 | r :: T,L=>by
  show jet T (jge r.data.toList L)=_;rw[jnv T,jge,cT];refine cS fun x _=>?_;show addU (cK T (if x.1=r.data.toList then (x.1,x.2.1,putF 2 (x.2.2.used+1) x.2.2)else x).1) (if x.1=r.data.toList then (x.1,x.2.1,putF 2 (x.2.2.used+1) x.2.2)else x)=_;rw[jhQ]
  by_cases h:x.1=r.data.toList
  ·simp only[if_pos h]
   unfold addU putF;simp only[if_true];rw[show x.2.2.used+1+((cK T x.1:Nat):Int)=x.2.2.used+((cK T x.1+1:Nat):Int) by omega]
  ·simp only[if_neg h,gQ]
theorem jtq(r:vB)(L:vT):jjR r.data.toList L=L.map fun x=>addH (cK [r] x.1) x:=by
 unfold jjR;refine cS fun x _=>?_;rw[jhQ]
 by_cases h:x.1=r.data.toList
 ·rw[if_pos h,if_pos h];rfl
 ·rw[if_neg h,if_neg h]
  obtain⟨a,b,⟨t,r,u,h⟩⟩:=x
  unfold addH cK;simp
def jkV(T:vM)(r:vB)(x:Nd5):Nd5:=addH (cK [r] x.1) (addU (cK T x.1) x)
theorem jvP(T:vM)(r:vB)(L:vT):jjR r.data.toList (jet T L)=L.map (jkV T r):=by
 rw[jtq,jnv,cT];rfl
theorem jqr(T:vM)(r:vB)(L:vT):(L.map (jkV T r)).map (·.1)=L.map (·.1):=by
 rw[cT];rfl
theorem jqs(T:vM)(r:vB)(L:vT):(L.map (jkV T r)).flatMap (fun y=>y.2.2.refs)=L.flatMap (fun y=>y.2.2.refs):=by
 rw[List.flatMap_map];rfl
theorem jjt(G:vT):∀ F:vM,F.flatMap (jb4 G)=(jcQ G F).flatMap (fun y=>y.2.2.refs)
 | []=>rfl
 | x :: F=>by
  have e:=jjt G F;unfold jcQ at *;rw[cE,fY];cases h:atL G x.data.toList with
  | none=>rw[e];unfold jb4;rw[h];rfl
  | some y=>rw[e,jfz h,cE]
theorem jdh{S:vT}{k:Key}:(atL S k).isSome=true↔k∈S.map (·.1):=by
 constructor
 ·intro h
  obtain⟨y,o⟩:=dB.1 h
  exact bC.2 ⟨y,(jaF o).1,(jaF o).2⟩
 ·intro h
  obtain⟨y,o,e⟩:=bC.1 h
  cases ha:atL S k with
  | some z=>rfl
  | none=>exact absurd e.symm (jhv.1 ha y o)
theorem jvK{S:vT}(hn:(S.map (·.1)).Nodup){x y:Nd5}{k:Key}(hx:x∈S)(e:x.1=k)(hy:atL S k=some y):y=x:=by
 obtain⟨o,q⟩:=jaF hy
 exact jaQ hn o hx (q.trans e.symm)
def jyW(L:vM)(top:vB):Prop:=∀ P:vB->Prop,(∀ t∈L,P (shaB t)->∀ h∈jaG (nodeOf t),P h)->P (shaB top)->∀ t∈L,P (shaB t)
theorem jn6{U:vM}(hU:InjL U){s t:vB}(hs:s∈U)(ht:t∈U)(h:ky s=ky t):s=t:=hU s hs t ht (jmy h)
def addS(S G:vT)(M:vM)(top:vB):vT:=jjR (shaB top).data.toList (jet ((frK S M).flatMap (jb4 G)) (S++jcQ G (frK S M)))
theorem jdg(S G:vT)(M:vM)(top:vB):addS S G M top=(S++jcQ G (frK S M)).map (jkV ((frK S M).flatMap (jb4 G)) (shaB top)):=jvP _ _ _
theorem jrs{A B:List Key}(ha:A.Nodup)(hb:B.Nodup)(h:∀ k,k∈A↔k∈B):A.Perm B:=(List.perm_ext_iff_of_nodup ha hb).2 h
theorem jzw(w:vW)(P:vB->Prop):∀ (f:Nat) (l:vL),jaq f l->(∀ t∈jam (jab (f+1) l),P (shaB t)->∀ h∈jaG (nodeOf t),P h)->P (shaB (jaS (jak (jab f) l)))->∀ t∈jam (jab (f+1) l),P (shaB t):=by
 intro f;induction f with
 | zero =>
  intro l h _ J t o;have Q:jan (jab 0) l=[]:=by have:=jbv h;unfold jan;rw[if_pos vO]
  have z:jam (jab (0+1) l)=[jaS (jak (jab 0) l)]:=by
   show jam (.mk (jaS (jak (jab 0) l)) (jan (jab 0) l))=_;rw[jam,Q];simp[jay]
  rw[z,bS]at o;subst o;exact J
 | succ f ih =>
  intro l h E J t o;have z:jam (jab (f+1+1) l)=jaS (jak (jab (f+1)) l) :: jay (jan (jab (f+1)) l):=by
   show jam (.mk (jaS (jak (jab (f+1)) l)) (jan (jab (f+1)) l))=_;rw[jam]
  have X:=jda (f+1) l h;have q:jbj (jaS (jak (jab (f+1)) l)) (jak (jab (f+1)) l):=⟨rfl,f+1,(good (f+1) l h).1⟩;rw[z]at o;rcases bK.1 o with rfl | o
  ·exact J
  obtain⟨K,O,o⟩:=jbb.1 o
  obtain⟨g,m,eg,e,Z,a0⟩:=jeP h O
  obtain rfl:f=g:=vO
  subst e;have H:∀ t∈jam (jab (f+1) m),t∈jam (jab (f+1+1) l):=fun t o=>by
   rw[z];exact bD _ (jbb.2 ⟨_,O,o⟩)
  refine ih m Z (fun t o=>E t (H t o)) ?_ t o;refine E _ (by rw[z];exact bF) J _ ?_;rw[jcX w (jcu q) q,X];exact bC.2 ⟨_,O,rfl⟩
theorem juE(w:vW){l:vL}(h:jat l=0):jyW (ja6 (jam (jau l))) (jau l).text:=fun P o q t e =>
 jzw w P 12 (jaR l) (jbt (jaw h)) (fun t e=>o t ((jaN _ _).2 e)) q t ((jaN _ _).1 e)
theorem jpS(w:vW){l:vL}(h:jat l=0)(hl:(ja6 (jam (jau l))).length<=1000):jxF (ja6 (jam (jau l))):=
 ⟨fun t o=>by obtain⟨n,e,_⟩:=(jf5 h).node t o;exact⟨n,e⟩,
  fun t o x q=>by
  obtain⟨n,e,z⟩:=(jf5 h).node t o
  rw[jcX w (jcu e) e]at q;exact z x q,hl⟩
theorem jaz.nd{W:vW}{s bm:Nat}{room:Int}{S:vT}(h:jaz W s bm room S):(S.map (·.1)).Nodup:=by
 obtain⟨o,q,_,e⟩:=h.mp.mp
 have:=e.keys
 rw[cT]at this;exact this
section
attribute [local go_sem] Oper.semAt_some
def jaL(l:vL):vM:=ja6 (jam (jau l))
theorem jc0{l:vL}(h:jat l=0):(jaL l).length<=121:=by
 have e:=(jpT h).1;have o:=(jaw h).len;show (ja6 (jam (jau l))).length<=_;omega
def jxn(l:vL)(w:vW)(e:Ending)(w':vW):Prop:=e=.returned (.tuple #[.pointer none,.string ⟨#[]⟩])/\Ext w w'/\¬(fewB l=true/\jat l=0/\InjL (jaL l))
end
end Go.Proofs.YtmobgkphhbmhbaaGreatDoor
