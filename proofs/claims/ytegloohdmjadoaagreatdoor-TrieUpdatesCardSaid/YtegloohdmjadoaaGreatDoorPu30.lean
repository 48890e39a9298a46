/- Lemmas; each is under no condition but those that it states. -/
import Derived.Test.YtegloohdmjadoaaGreatDoorPu29
import Derived.Stop.Asserts
namespace Go.Proofs.YtegloohdmjadoaaGreatDoor
set_option linter.unusedSimpArgs false
set_option linter.unusedVariables false
set_option maxRecDepth 100000
set_option maxHeartbeats 16000000
open Go Go.RowKit
section
attribute [local go_sem] Oper.semAt_some
def cutV(s p:vB):vV:=if preB p s then .tuple #[.string (s.extract p.size s.size),.bool true]else .tuple #[.string s,.bool false]
theorem jlC(w:vW)(s p:vB)(hs:s.size<=1000000)(hp:p.size<=1000000):vQ 234 #[.string s,.string p] w fun e w'=>e=.returned (cutV s p)/\w'=w:=by
 unfold cutV;cases hb:preB p s with
 | true =>
  have A:=jve hb;have E:(p.size:Int)<=(s.size:Int):=vO
  have m:=Hd hb;clear hb;go_enter Tryz.func234,Tryz.ntmps234;go_wp2_with fail
  refine (jkO w s p hs hp).mono ?_;rintro e w1 ⟨rfl,rfl⟩;rw[m.o];go_wp2_with fail
  go_ret2
  exact⟨rfl,rfl⟩
 | false =>
  have m:=Hd hb;clear hb;go_enter Tryz.func234,Tryz.ntmps234;go_wp2_with fail
  refine (jkO w s p hs hp).mono ?_;rintro e w1 ⟨rfl,rfl⟩;rw[m.o];go_wp2_with fail
  go_ret2
  exact⟨rfl,rfl⟩
theorem jig(w:vW)(s p:vB)(hs:s.size<=1000000)(hp:p.size<=1000000):vQ 233 #[.string s,.string p] w fun e w'=>e=.returned (cutV s p)/\w'=w:=by
 have H:=Hd (jlC w s p hs hp);unfold cutV at *;cases hb:preB p s with
 | true =>
  rw[hb,if_pos rfl]at H;rw[if_pos rfl];clear hb;go_enter Tryz.func233,Tryz.ntmps233;go_wp2_with fail
  refine H.o.mono ?_;rintro e w1 ⟨rfl,rfl⟩;go_wp2_with fail
  go_ret2
  exact⟨rfl,rfl⟩
 | false =>
  rw[hb,if_neg ff]at H;rw[if_neg ff];clear hb;go_enter Tryz.func233,Tryz.ntmps233;go_wp2_with fail
  refine H.o.mono ?_;rintro e w1 ⟨rfl,rfl⟩;go_wp2_with fail
  go_ret2
  exact⟨rfl,rfl⟩
def jtI(P:PA):Prop:=∀ (W:vW) (T:TypeId) (x:vV) (D:Nat->Prop) (p:vB),PaO P (.iface T x) D W->p.size<=900000->jaz p=true->Dp P 900000 ->
 vQ (jfd P) #[x,.string p] W (PaTo D W (jbS P p))
theorem ju1(W:vW)(D:Nat->Prop)(p:vB):vQ 239 #[.agg #[],.string p] W (PaTo D W .no):=by
 go_enter Tryz.func239,Tryz.ntmps239;go_wp2_with fail
 go_ret;exact PaTo.mk1 rfl (((ExtR W).alloc _).mono (fun _ _ e=>e.elim))
theorem jxf(W:vW)(D:Nat->Prop)(q v p:vB)(b:Nat)(hB:Blk W b (.cells #[.string q,.string v] 197))(hD:D b):vQ 222 #[.pointer (some ⟨b,0,none⟩),.string p] W (PaTo D W (jbS (.leaf q v) p)):=by
 have H:=hB.cell (i:=0) (v:=.string q) vF;have A:=Hd hB;have E:=Hd hD;have m:jbS (.leaf q v) p=if p=q then .no else .leaf q v:=rfl
 rw[m];clear hB hD m
 by_cases hpq:p=q
 ·rw[if_pos hpq]
  have e:(p.toList == q.toList)=true:=by rw[jhX];exact decide_eq_true hpq
  clear hpq;go_enter Tryz.func222,Tryz.ntmps222;go_wp2_with fail
  go_ret;exact PaTo.mk1 rfl (jae.refl _ W)
 ·rw[if_neg hpq]
  have e:(p.toList == q.toList)=false:=by rw[jhX];exact decide_eq_false hpq
  clear hpq;go_enter Tryz.func222,Tryz.ntmps222;go_wp2_with fail
  go_ret;exact PaTo.mk1 ⟨b,rfl,.inl E.o,A.o⟩ (jae.refl _ W)
theorem jfx:∀ (P:PA) (p:vB),(jbS P p).isNil=false
 | .nil,_=>rfl
 | .no,_=>rfl
 | .leaf q v,p=>by
  unfold jbS;split <;> rfl
 | .ext q n,p=>by
  unfold jbS;split
  ·exact jdA (jfx n _)
  ·rfl
 | .br v ks,p=>by
  have m:∀ v ks,(jdq v ks).isNil=false:=by
   intro v ks;have o:∀ i∈idxK ks,(ks i).isNil=false:=fun i A=>by
    have:=(cU.1 A).2
    simpa using this
   unfold jdq;cases e:idxK ks with
   | nil =>
    show (if v.size=0 then PA.no else .leaf ⟨#[]⟩ v).isNil=false;split <;> rfl
   | cons i r =>
    cases r with
    | nil =>
     show (if v.size=0 then jcf ⟨#[UInt8.ofNat i]⟩ (ks i)else .br v ks).isNil=false;split
     ·exact jdA (o i (by rw[e];exact bK))
     ·rfl
    | cons j r=>rfl
  unfold jbS;split
  ·exact m _ _
  ·split
   ·rfl
   ·exact m _ _
theorem jur(W:vW)(D:Nat->Prop)(q:vB)(n:PA)(T:TypeId)(x:vV)(Dn:Nat->Prop)(b:Nat)(hB:Blk W b (.cells #[.string q,.iface T x] 200))(hDb:D b)(hv:PaAt n (.iface T x) Dn W)(hbn:¬ Dn b)(hD:∀ x,Dn x->D x/\x < W.heap.size)(p:vB)(hp:jaz p=true)(hqs:q.size<=900000)(hps:p.size<=900000)(hf:preB q p=false):vQ 229 #[.pointer (some ⟨b,0,none⟩),.string p] W (PaTo D W (.ext q n)):=by
 have E:=hB.cell (i:=0) (v:=.string q) vF;have H:=hB.cell (i:=1) (v:=.iface T x) vF;have Z:=Hd E;have Q1:=Hd H;have J:=Hd hB;have K:=Hd hv;have O:Hid (∀ z,Dn z->D z/\z < W.heap.size):=hD;have A:=Hd (bB hDb hbn);have m:=jig W p q vO vO;unfold cutV at m;rw[hf,if_neg ff]at m;have Q:=Hd m;clear hB hDb hv hbn hD hp hf m;go_enter Tryz.func229,Tryz.ntmps229;go_wp2_with fail
 refine Q.o.mono ?_;rintro e w1 ⟨rfl,rfl⟩;go_wp2_with fail
 go_ret;exact PaTo.mk1 ⟨b,T,x,Dn,rfl,.inl A.o.1,J.o,K.o,A.o.2,fun z X=>.inl (O.o z X).1⟩ (jae.refl _ _)
theorem juq(W:vW)(D:Nat->Prop)(q:vB)(n:PA)(T:TypeId)(x:vV)(Dn:Nat->Prop)(b:Nat)(hB:Blk W b (.cells #[.string q,.iface T x] 200))(hDb:D b)(hv:PaAt n (.iface T x) Dn W)(hbn:¬ Dn b)(hD:∀ x,Dn x->D x/\x < W.heap.size)(p:vB)(hp:jaz p=true)(hqs:q.size<=900000)(hps:p.size<=900000)(O:Dp n 900000)(hk:jtI n)(hf:preB q p=true) :
  vQ 229 #[.pointer (some ⟨b,0,none⟩),.string p] W (PaTo D W (jcf q (jbS n (p.extract q.size p.size)))):=by
 have q0:=hB.cell (i:=0) (v:=.string q) vF;have q1:=hB.cell (i:=1) (v:=.iface T x) vF;have Q0:=Hd q0;have Q1:=Hd q1;have HB:=Hd hB;have HV:=Hd hv;have HD:Hid (∀ z,Dn z->D z/\z < W.heap.size):=hD;have X:=jig W p q vO vO;unfold cutV at X;rw[hf,if_pos rfl]at X;have HC:=Hd X;have a7:=hB.lt;have a3:=Hd (show ¬(Dn b\/W.heap.size<=b)from fun e=>e.elim hbn (fun e=>by omega));have a0:jaz (p.extract q.size p.size)=true:=jbi hp _ _;have a4:(p.extract q.size p.size).size<=900000:=by rw[jaX];omega
 have HM:=Hd hv.meth;have Z:=Hd (show ∀ H,Ext W H->vQ (jfd n) #[x,.string (p.extract q.size p.size)] H (PaTo Dn H (jbS n (p.extract q.size p.size)))from fun H e=>hk H T x Dn _ ⟨hv.keeps e _ _ _ (fun _ _ e=>e),fun z m=>bJ (hD z m).2 e.size⟩ a4 a0 O);have a8:Hid (Dp (jbS n (p.extract q.size p.size)) 1000000):=(jcd _ _ _ (jin n 900000 _ O) vO);clear hB hDb hv hbn hD hp O hk hf a0 a4 X a7;go_enter Tryz.func229,Tryz.ntmps229;go_wp2_with fail
 refine HC.o.mono ?_;rintro e Wk ⟨rfl,rfl⟩;go_wp2_with fail
 refine jaJ [0,1,2,3,4,5,6,7,8,9,10,11] [9,10] Ext (jae (fun z=>Dn z\/Wk.heap.size<=z)) ExtR ExtT (fun x y z h k=>jae.trans h k) (fun x y h=>h.mono (fun _ _ h=>h.elim)) vY vY vY ?_
 refine vD ?_
 refine qDV _ ((.pointer (some ⟨b,0,none⟩))) rfl (fun w1 _=>by kernel_rfl) ?_;refine vS ?_
 refine vD ?_
 refine qDL ⟨b,0,none⟩ _ rfl (fun w1 h1=>jaE (fun w=>by kernel_rfl) (jan Q0.o (((jae.refl (fun z=>Dn z\/Wk.heap.size<=z) Wk).drew).trans h1) (by exact a3.o))) ?_;refine vS ?_
 refine vD ?_
 refine qDV _ ((.pointer (some ⟨b,0,none⟩))) rfl (fun w1 _=>by kernel_rfl) ?_;refine vS ?_
 refine vD ?_
 refine qDL ⟨b,1,none⟩ _ rfl (fun w1 h1=>jaE (fun w=>by kernel_rfl) (jan Q1.o (((jae.refl (fun z=>Dn z\/Wk.heap.size<=z) Wk).drew).trans h1) (by exact a3.o))) ?_;refine vS ?_
 refine vD ?_
 refine qDH _ rfl (fun H hb K hK=>?_);have Q:Ext Wk H:=((ExtR Wk).drew).trans hb;refine jbG (jcI (f:=jfd n) (vs:=#[.string (p.extract q.size p.size)]) rfl (HM.o.drop _) (jfy _) vY) ?_;refine (Z.o H Q).mono ?_;rintro e w2 ⟨v2,rfl,J,A⟩
 refine⟨v2,rfl,hK _ _ (A.mono (fun z _ m=>.inl m)) ?_⟩
 have HS:=Hd (bB Q (bB J A));clear hK K hb Q J A;refine vS ?_;refine qDH _ rfl (fun wc hc K hK=>?_)
 obtain⟨Q,J,A⟩:=HS.o
 have kc:jae Dn H wc:=A.trans (hc.mono (fun _ _ e=>e.elim));have a5:PaAt (jbS n (p.extract q.size p.size)) v2 (Grow Dn H wc) wc:=(J.keeps hc _ _ _ (fun _ _ e=>e)).mono (fun z m=>m.imp id (fun e=>⟨e.1,bJ e.2 hc.size⟩));have a2:=PaTo.own a5 kc (fun z m=>bJ (HD.o z m).2 Q.size);refine jbG (jat (vX 228) vY) ((pj_c wc _ q _ v2 a2 (jfx _ _) vO a8.o).mono ?_);rintro e w5 ⟨v5,rfl,a1,E⟩
 refine⟨v5,rfl,hK _ _ (E.mono (fun _ _ e=>e.elim)) ?_⟩
 have HZ:=Hd (bB kc (bB a1 (bB E (jeH a2.lt E))));clear hK K hc Q J A kc a5 a2 a1 E;refine vS ?_
 refine vD ?_
 refine qDE (fun wd O=>?_);have HQ:=Hd O;clear O;go_wp2_with fail
 go_ret
 obtain⟨Q,_,_⟩:=HS.o
 obtain⟨kc,a1,E,a9⟩:=HZ.o
 have O:=HQ.o;refine PaTo.mk1 ((a1.keeps O _ _ _ (fun _ _ e=>e)).mono (fun z m=>?_)) (((Q.mono (fun _ _ e=>e.elim):jae D Wk H).trans (kc.mono (fun z _ m=>(HD.o z m).1))).trans ((E.trans O).mono (fun _ _ e=>e.elim)));have a6:=bJ (a9 z m) O.size;rcases m with (m | m) | m
 ·exact .inl (HD.o z m).1
 ·exact .inr ⟨bG Q.size m.1,a6⟩
 ·exact .inr ⟨bG (bG Q.size kc.size) m.1,a6⟩
theorem Tryz.uKids:Tryz.prog.underlying 202=some (.array 16 88):=vY
theorem Tryz.iKids:(Tryz.prog.info? 202).map (·.size)=some 16:=vY
theorem Tryz.partOne:(Tryz.prog.info? 88).map (·.size)=some 1:=vY
theorem Tryz.partAgg(w:vW):(isAgg 88).run Tryz.prog w=.ok false w:=vY
def jpZ(vk:Nat->vV):List vV:=(List.range 16).map vk
theorem juO(vk:Nat->vV){i:Nat}(h:i < 16):(jpZ vk)[i]?=some (vk i):=by
 unfold jpZ;rw[bV,dW h];rfl
theorem jbh{W:vW}{b:Nat}{u:vB}{vk:Nat->vV}(hB:Blk W b (.cells (brC u vk).toArray 204)):(Instr.loadAt 202 (.pointer (some ⟨b,1,none⟩))).run Tryz.prog W=.ok (.agg (jpZ vk).toArray) W:=by
 have e:W.rangeAt b 1 (jpZ vk):=fun j v o=>hB.cellL (by rw[iK];exact o);have m:=run_loadVar_mid (P:=Tryz.prog) W b 1 202 _ _ e Tryz.uKids rfl (by unfold jpZ;simp only[bU,gV];exact Tryz.iKids);simp[Instr.loadAt,Instr.sureAddr,cA,Result.andThen,m]
theorem jeO(vk:Nat->vV){i:Nat}(h:i < 16)(w:vW):(Instr.index 202 (.agg (jpZ vk).toArray) (.int .i64 (i:Int))).run Tryz.prog w=.ok (vk i) w:=
 jeN Tryz.uKids Tryz.partOne Tryz.partAgg _ i h _ (juO vk h) w
theorem jdu(T:TypeId)(x:vV)(w:vW):(binOp .neq 88 (.iface T x) .nilIface).run Tryz.prog w=.ok (.bool true) w:=vY
theorem jkB(w:vW):(binOp .neq 88 .nilIface .nilIface).run Tryz.prog w=.ok (.bool false) w:=vY
def idxN(ks:Nat->PA)(k:Nat):List Nat:=(List.range k).filter fun i => !(ks i).isNil
theorem jfa(ks:Nat->PA)(k:Nat):idxN ks (k+1)=idxN ks k++(if (ks k).isNil then []else [k]):=by
 unfold idxN;rw[fT,gS]
 congr 1
 cases h:(ks k).isNil <;> simp[h]
theorem PaAt.kid{P:PA}{v:vV}{D:Nat->Prop}{W:vW}(h:PaAt P v D W):(P.isNil=true/\v=.nilIface)\/(P.isNil=false/\∃ T x,v=.iface T x):=by
 cases hn:P.isNil with
 | true=>rw[jbv hn]at h;exact .inl ⟨rfl,h⟩
 | false=>exact .inr ⟨rfl,h.form hn⟩
def jqH(ks:Nat->PA)(W:vW)(cv ov iv:vV)(wr:vW):Prop:=∃ (k c o:Nat),k<=16/\iv=.int .i64 (k:Int)/\cv=.int .i64 (c:Int)/\ov=.int .i64 (o:Int)/\wr=W/\c=(idxN ks k).length/\o=(idxN ks k).getLast?.getD 0
theorem jp3(wr:vW)(D:Nat->Prop)(v:vB)(ks:Nat->PA)(b:Nat)(h:PaO (.br v ks) (brV b) D wr)(hi:idxK ks=[])(hv:v.size=0) :
  vQ 238 #[.pointer (some ⟨b,0,none⟩)] wr (PaTo D wr .no):=by
 obtain⟨vk,Dk,hb⟩:=h.br
 have J:=jbh hb.blk;have q0:=hb.blk.cellL (i:=0) (v:=.string v) vF;have H:=Hd hb;have a0:(⟨#[]⟩:vB).toList.isEmpty=true:=by rw[bL];rfl
 obtain⟨W,hW⟩:=vE wr
 have Q:=jbj hv;subst Q;have HI:=Hd hi;clear h hb hi hv;rw[<-hW]at J q0 H ⊢;clear hW;go_enter Tryz.func238,Tryz.ntmps238;go_wp2_with (refine jaf 202 (.tmp 9) rfl rfl _ _ rfl J ?_)
 go_loopw [3,4,11] (fun cv ov X wr=>jqH ks W cv ov X wr) (fun _ _ X _=>16 - (intOf X).toNat)
 case atStart=>exact⟨0,0,0,by omega,rfl,rfl,rfl,rfl,rfl,rfl⟩
 case round =>
  obtain⟨k,c,o,hk,rfl,rfl,rfl,rfl,E,K⟩:=hrel
  by_cases hlt:k < 16
  ·have O:=jeO vk hlt
   have e:=jfa ks k;have a1:c<=16:=by rw[E];exact bG (dE _ _) (by rw[gV];omega)
   have m:=Hd (bB E K);rcases (H.o.kid k hlt).1.kid with⟨hn,hv⟩ |⟨hn,T,x,hv⟩
   ·rw[hn,if_pos rfl,cC]at e
    rw[hv]at O;have A:=Hd e;clear e E K hn hv;go_wp2;go_roundw
    case rel=>exact⟨k+1,c,o,by omega,by go_num,rfl,rfl,rfl,by rw[A.o];exact m.o.1,by rw[A.o];exact m.o.2⟩
    case measure=>exact vJ
   ·rw[hn,if_neg ff]at e
    rw[hv]at O;have hq:=jdu T x;have A:=Hd e;clear e E K hn hv;go_wp2;go_roundw
    case rel=>exact⟨k+1,c+1,k,by omega,by go_num,by go_num,rfl,rfl,by rw[A.o,bF, <-m.o.1];rfl,by rw[A.o];simp⟩
    case measure=>exact vJ
  ·obtain rfl:k=16:=vO
   have m:=Hd (bB E K);clear E K;have Z:c=0:=by rw[m.o.1];show (idxK ks).length=0;rw[HI.o];rfl
   subst Z;go_wp2_with fail
   go_ret;exact PaTo.mk1 rfl (jae.refl _ _)
theorem jp2(wr:vW)(D:Nat->Prop)(v:vB)(ks:Nat->PA)(b:Nat)(h:PaO (.br v ks) (brV b) D wr)(hi:idxK ks=[])(hv:v.size≠0) :
  vQ 238 #[.pointer (some ⟨b,0,none⟩)] wr (PaTo D wr (.leaf ⟨#[]⟩ v)):=by
 obtain⟨vk,Dk,hb⟩:=h.br
 have K:=jbh hb.blk;have q0:=hb.blk.cellL (i:=0) (v:=.string v) vF;have H:=Hd hb;have a0:(⟨#[]⟩:vB).toList.isEmpty=true:=by rw[bL];rfl
 have a1:=jc7 hv;clear hv
 obtain⟨W,hW⟩:=vE wr
 have HI:=Hd hi;rw[<-hW]at K q0 H ⊢;clear h hb hi hW;go_enter Tryz.func238,Tryz.ntmps238;go_wp2_with (refine jaf 202 (.tmp 9) rfl rfl _ _ rfl K ?_)
 go_loopw [3,4,11] (fun cv ov X wr=>jqH ks W cv ov X wr) (fun _ _ X _=>16 - (intOf X).toNat)
 case atStart=>exact⟨0,0,0,by omega,rfl,rfl,rfl,rfl,rfl,rfl⟩
 case round =>
  obtain⟨k,c,o,hk,rfl,rfl,rfl,rfl,J,O⟩:=hrel
  by_cases hlt:k < 16
  ·have Q:=jeO vk hlt
   have m:=jfa ks k;have a2:c<=16:=by rw[J];exact bG (dE _ _) (by rw[gV];omega)
   have A:=Hd (bB J O);rcases (H.o.kid k hlt).1.kid with⟨hn,hv⟩ |⟨hn,T,x,hv⟩
   ·rw[hn,if_pos rfl,cC]at m
    rw[hv]at Q;have E:=Hd m;clear m J O hn hv;go_wp2;go_roundw
    case rel=>exact⟨k+1,c,o,by omega,by go_num,rfl,rfl,rfl,by rw[E.o];exact A.o.1,by rw[E.o];exact A.o.2⟩
    case measure=>exact vJ
   ·rw[hn,if_neg ff]at m
    rw[hv]at Q;have hq:=jdu T x;have E:=Hd m;clear m J O hn hv;go_wp2;go_roundw
    case rel=>exact⟨k+1,c+1,k,by omega,by go_num,by go_num,rfl,rfl,by rw[E.o,bF, <-A.o.1];rfl,by rw[E.o];simp⟩
    case measure=>exact vJ
  ·obtain rfl:k=16:=vO
   have A:=Hd (bB J O);clear J O;have Z:c=0:=by rw[A.o.1];show (idxK ks).length=0;rw[HI.o];rfl
   subst Z;go_wp2_with fail
   go_ret;have hB:=Blk.new wr (.cells #[.string ⟨#[]⟩,.string v] 197);exact PaTo.mk1 ⟨_,rfl,.inr ⟨bM _,hB.lt⟩,hB⟩ (((ExtR wr).alloc _).mono (fun _ _ e=>e.elim))
theorem jnq(wr:vW)(D:Nat->Prop)(v:vB)(ks:Nat->PA)(b:Nat)(h:PaO (.br v ks) (brV b) D wr)(i:Nat)(hi:idxK ks=[i])(hv:v.size≠0) :
  vQ 238 #[.pointer (some ⟨b,0,none⟩)] wr (PaTo D wr (.br v ks)):=by
 obtain⟨vk,Dk,hb⟩:=h.br
 have J:=jbh hb.blk;have q0:=hb.blk.cellL (i:=0) (v:=.string v) vF;have H:=Hd hb;have a0:(⟨#[]⟩:vB).toList.isEmpty=true:=by rw[bL];rfl
 have a1:=jc7 hv;clear hv
 obtain⟨W,Z⟩:=vE wr
 have HI:=Hd hi;rw[<-Z]at J q0 H ⊢;clear h hb hi Z;go_enter Tryz.func238,Tryz.ntmps238;go_wp2_with (refine jaf 202 (.tmp 9) rfl rfl _ _ rfl J ?_)
 go_loopw [3,4,11] (fun cv ov Q wr=>jqH ks W cv ov Q wr) (fun _ _ Q _=>16 - (intOf Q).toNat)
 case atStart=>exact⟨0,0,0,by omega,rfl,rfl,rfl,rfl,rfl,rfl⟩
 case round =>
  obtain⟨k,c,o,hk,rfl,rfl,rfl,rfl,E,K⟩:=hrel
  by_cases hlt:k < 16
  ·have O:=jeO vk hlt
   have e:=jfa ks k;have a2:c<=16:=by rw[E];exact bG (dE _ _) (by rw[gV];omega)
   have m:=Hd (bB E K);rcases (H.o.kid k hlt).1.kid with⟨hn,hv⟩ |⟨hn,T,x,hv⟩
   ·rw[hn,if_pos rfl,cC]at e
    rw[hv]at O;have A:=Hd e;clear e E K hn hv;go_wp2;go_roundw
    case rel=>exact⟨k+1,c,o,by omega,by go_num,rfl,rfl,rfl,by rw[A.o];exact m.o.1,by rw[A.o];exact m.o.2⟩
    case measure=>exact vJ
   ·rw[hn,if_neg ff]at e
    rw[hv]at O;have hq:=jdu T x;have A:=Hd e;clear e E K hn hv;go_wp2;go_roundw
    case rel=>exact⟨k+1,c+1,k,by omega,by go_num,by go_num,rfl,rfl,by rw[A.o,bF, <-m.o.1];rfl,by rw[A.o];simp⟩
    case measure=>exact vJ
  ·obtain rfl:k=16:=vO
   have m:=Hd (bB E K);clear E K;have X:c=1:=by rw[m.o.1];show (idxK ks).length=1;rw[HI.o];rfl
   subst X;go_wp2_with fail
   go_ret;exact PaTo.mk1 (H.o.pa.at'.mono (fun x hx=>.inl hx)) (jae.refl _ _)
theorem jnr(wr:vW)(D:Nat->Prop)(v:vB)(ks:Nat->PA)(b:Nat)(h:PaO (.br v ks) (brV b) D wr)(hi:2<=(idxK ks).length) :
  vQ 238 #[.pointer (some ⟨b,0,none⟩)] wr (PaTo D wr (.br v ks)):=by
 obtain⟨vk,Dk,hb⟩:=h.br
 have J:=jbh hb.blk;have q0:=hb.blk.cellL (i:=0) (v:=.string v) vF;have H:=Hd hb;have a0:(⟨#[]⟩:vB).toList.isEmpty=true:=by rw[bL];rfl
 obtain⟨W,Z⟩:=vE wr
 have HI:=Hd hi;rw[<-Z]at J q0 H ⊢;clear h hb hi Z;go_enter Tryz.func238,Tryz.ntmps238;go_wp2_with (refine jaf 202 (.tmp 9) rfl rfl _ _ rfl J ?_)
 go_loopw [3,4,11] (fun cv ov Q wr=>jqH ks W cv ov Q wr) (fun _ _ Q _=>16 - (intOf Q).toNat)
 case atStart=>exact⟨0,0,0,by omega,rfl,rfl,rfl,rfl,rfl,rfl⟩
 case round =>
  obtain⟨k,c,o,hk,rfl,rfl,rfl,rfl,E,K⟩:=hrel
  by_cases hlt:k < 16
  ·have O:=jeO vk hlt
   have e:=jfa ks k;have a1:c<=16:=by rw[E];exact bG (dE _ _) (by rw[gV];omega)
   have m:=Hd (bB E K);rcases (H.o.kid k hlt).1.kid with⟨hn,hv⟩ |⟨hn,T,x,hv⟩
   ·rw[hn,if_pos rfl,cC]at e
    rw[hv]at O;have A:=Hd e;clear e E K hn hv;go_wp2;go_roundw
    case rel=>exact⟨k+1,c,o,by omega,by go_num,rfl,rfl,rfl,by rw[A.o];exact m.o.1,by rw[A.o];exact m.o.2⟩
    case measure=>exact vJ
   ·rw[hn,if_neg ff]at e
    rw[hv]at O;have hq:=jdu T x;have A:=Hd e;clear e E K hn hv;go_wp2;go_roundw
    case rel=>exact⟨k+1,c+1,k,by omega,by go_num,by go_num,rfl,rfl,by rw[A.o,bF, <-m.o.1];rfl,by rw[A.o];simp⟩
    case measure=>exact vJ
  ·obtain rfl:k=16:=vO
   have m:=Hd (bB E K);clear E K;have X:2<=c:=by rw[m.o.1];exact HI.o
   have g0:((c:Int) == 0)=false:=by simp;omega
   have g1:((c:Int) == 1)=false:=by simp;omega
   clear X;go_wp2_with fail
   go_ret;exact PaTo.mk1 (H.o.pa.at'.mono (fun x hx=>.inl hx)) (jae.refl _ _)
theorem jr6(wr:vW)(D:Nat->Prop)(v:vB)(ks:Nat->PA)(b:Nat)(h:PaO (.br v ks) (brV b) D wr)(i:Nat)(hi:idxK ks=[i])(hv:v.size=0)(hd:Dp (.br v ks) 900000) :
  vQ 238 #[.pointer (some ⟨b,0,none⟩)] wr (PaTo D wr (jcf (nib1 i) (ks i))):=by
 obtain⟨vk,Dk,hb⟩:=h.br
 have a3:=jbh hb.blk;have q0:=hb.blk.cellL (i:=0) (v:=.string v) vF;have H:=Hd hb;have b4:(⟨#[]⟩:vB).toList.isEmpty=true:=by rw[bL];rfl
 have a8:=jbj hv;subst a8;have a9:=Hd hd;clear hv hd
 obtain⟨W,hW⟩:=vE wr
 have HI:=Hd hi;rw[<-hW]at a3 q0 H ⊢;clear h hb hi hW;go_enter Tryz.func238,Tryz.ntmps238;go_wp2_with (refine jaf 202 (.tmp 9) rfl rfl _ _ rfl a3 ?_)
 go_loopw [3,4,11] (fun cv ov iv wr=>jqH ks W cv ov iv wr) (fun _ _ iv _=>16 - (intOf iv).toNat)
 case atStart=>exact⟨0,0,0,by omega,rfl,rfl,rfl,rfl,rfl,rfl⟩
 case round =>
  obtain⟨k,c,o,hk,rfl,rfl,rfl,rfl,hc,ho⟩:=hrel
  by_cases hlt:k < 16
  ·have a7:=jeO vk hlt
   have E:=jfa ks k;have b5:c<=16:=by rw[hc];exact bG (dE _ _) (by rw[gV];omega)
   have J:=Hd (bB hc ho);rcases (H.o.kid k hlt).1.kid with⟨hn,hv⟩ |⟨hn,T,x,hv⟩
   ·rw[hn,if_pos rfl,cC]at E
    rw[hv]at a7;have O:=Hd E;clear E hc ho hn hv;go_wp2;go_roundw
    case rel=>exact⟨k+1,c,o,by omega,by go_num,rfl,rfl,rfl,by rw[O.o];exact J.o.1,by rw[O.o];exact J.o.2⟩
    case measure=>exact vJ
   ·rw[hn,if_neg ff]at E
    rw[hv]at a7;have hq:=jdu T x;have O:=Hd E;clear E hc ho hn hv;go_wp2;go_roundw
    case rel=>exact⟨k+1,c+1,k,by omega,by go_num,by go_num,rfl,rfl,by rw[O.o,bF, <-J.o.1];rfl,by rw[O.o];simp⟩
    case measure=>exact vJ
  ·obtain rfl:k=16:=vO
   have J:=Hd (bB hc ho);clear hc ho;have b0:c=1:=by rw[J.o.1];show (idxK ks).length=1;rw[HI.o];rfl
   have a4:o=i:=by rw[J.o.2];show (idxK ks).getLast?.getD 0=i;rw[HI.o];rfl
   subst b0;have a0:i∈idxK ks:=by rw[HI.o];exact bK
   have m:i < 16:=dZ.1 (cU.1 a0).1;have Q:(ks i).isNil=false:=by have:=(cU.1 a0).2;simpa using this
   rw[<-a4]at a0 m Q;have b1:=Hd a4;have A:=H.o.kid o m
   obtain⟨T,x,a5⟩:=A.1.form Q
   have qk:=H.o.blk.cellL (jeD ⟨#[]⟩ vk m);rw[a5]at qk;have QK:=Hd qk;have a1:=Hd (show PaAt (ks o) (.iface T x) (Dk o) wr/\(∀ z,Dk o z->z < wr.heap.size)/\(ks o).isNil=false/\Dp (ks o) 1000000 from⟨by rw[<-a5];exact A.1,fun z Z=>H.o.lt z (A.2.2 z Z),Q,jcd _ _ _ (a9.o o Q).2 vO⟩);have b2:=Hd A.2.2;have a6:o < 16:=m;have c1:(o:Int) < 16:=vO
   have c2:(o:Int) < 256:=vO
   clear a0 m Q A a5 qk a4 a3;go_wp2_with fail
   refine jah [0,1,4,5,6,7,8,9,2,3,10,11] (Ext) ExtR ExtT vY vY vY ?_;iterate 4 refine vK ?_
   refine jcr _ ((.pointer (some ⟨b,0,none⟩))) rfl vY rfl (fun w1 _=>by kernel_rfl) ?_;refine vS ?_;iterate 2 refine vK ?_
   refine qKL ⟨b,1+o,none⟩ _ rfl (fun w1 h1=>jaE (fun w=>by kernel_rfl) (jaa (jaa QK.o (jai _)) h1)) ?_;refine vS ?_;refine jen _ rfl vY rfl (fun w2 he K hK=>?_);have b3:=Hd (show Ext wr w2 from(jai _).trans he);clear he;go_simp;refine hK _ _ ((jae.refl _ w2).alloc _) ?_;clear hK K;refine jcr _ (.string (nib1 o)) rfl vY rfl (fun w3 h3=>jkn vY h3 (fun e=>e) a6) ?_;refine vS ?_;refine jen _ rfl vY rfl (fun wc hc K hK=>?_);have kc:Ext wr wc:=(b3.o.alloc _).trans hc;refine jbG (jat (vX 228) vY) ((pj_c wc (Dk o) (nib1 o) (ks o) (.iface T x) ⟨a1.o.1.keeps kc _ _ _ (fun _ _ e=>e),fun z Z=>bJ (a1.o.2.1 z Z) kc.size⟩ a1.o.2.2.1 (by show 1<=_;omega) a1.o.2.2.2).mono ?_);rintro e w5 ⟨v5,rfl,a2,X⟩
   refine⟨v5,rfl,hK _ _ X ?_⟩
   have HZ:=Hd (bB kc (bB a2 X));clear hK K hc kc a2 X;refine vS ?_
   refine vK ?_
   refine qKE (fun wd hd=>?_);have HQ:=Hd hd;clear hd;go_wp2_with fail
   go_ret
   obtain⟨kc,a2,X⟩:=HZ.o
   have hd:=HQ.o;rw[<-b1.o];refine PaTo.mk1 ((a2.keeps hd _ _ _ (fun _ _ e=>e)).mono (fun z Z=>?_)) (((kc.trans X).trans hd).mono (fun _ _ e=>e.elim));rcases Z with Z | Z
   ·exact .inl (b2.o z Z)
   ·exact .inr ⟨bG kc.size Z.1,bJ Z.2 hd.size⟩
theorem jnp(W:vW)(D:Nat->Prop)(v:vB)(ks:Nat->PA)(b:Nat)(h:PaO (.br v ks) (brV b) D W)(hd:Dp (.br v ks) 900000) :
  vQ 238 #[.pointer (some ⟨b,0,none⟩)] W (PaTo D W (jdq v ks)):=by
 unfold jdq;cases hi:idxK ks with
 | nil =>
  show Calls _ _ _ W (PaTo D W (if v.size=0 then PA.no else .leaf ⟨#[]⟩ v))
  by_cases h0:v.size=0
  ·rw[if_pos h0];exact jp3 W D v ks b h hi h0
  ·rw[if_neg h0];exact jp2 W D v ks b h hi h0
 | cons i r =>
  cases r with
  | nil =>
   show Calls _ _ _ W (PaTo D W (if v.size=0 then jcf ⟨#[UInt8.ofNat i]⟩ (ks i)else .br v ks))
   by_cases h0:v.size=0
   ·rw[if_pos h0];exact jr6 W D v ks b h i hi h0 hd
   ·rw[if_neg h0];exact jnq W D v ks b h i hi h0
  | cons j r=>exact jnr W D v ks b h (by rw[hi];simp)
theorem jq6(W:vW)(D:Nat->Prop)(v:vB)(ks:Nat->PA)(b:Nat)(h:PaO (.br v ks) (brV b) D W)(hd:Dp (.br v ks) 900000):vQ 235 #[.pointer (some ⟨b,0,none⟩),.string ⟨#[]⟩] W (PaTo D W (jdq ⟨#[]⟩ ks)):=by
 obtain⟨vk,Dk,hb⟩:=h.br
 have q0:=hb.blk.cellL (i:=0) (v:=.string v) vF;have f0:W.frozen? ⟨b,0,none⟩=false:=hb.blk.frozen;have H:=Hd hb;have X:Hid (Dp (.br ⟨#[]⟩ ks) 900000):=hd;have Z:(⟨#[]⟩:vB).toList.isEmpty=true:=by rw[bL];rfl
 clear h hb hd;go_enter Tryz.func235,Tryz.ntmps235;go_wp2_with fail
 obtain⟨Q,E⟩:=vE (W.setCell ⟨b,0,none⟩ (.string ⟨#[]⟩))
 have K:jae D W Q:=by rw[E];exact (jae.oneSet W ⟨b,0,none⟩ (.string ⟨#[]⟩)).mono (fun x _ e=>by have e:x=b:=e;rw[e];exact H.o.mem)
 have J:=H.o.val ⟨#[]⟩;rw[<-E]at J ⊢;have O:=Hd (bB J K);clear J K E;refine (jnp Q D ⟨#[]⟩ ks b O.o.1.pa X.o).mono ?_;rintro e w2 ⟨v2,rfl,m,A⟩;have HZ:=Hd (bB m A);clear m A;go_wp2_with fail
 go_ret
 obtain⟨m,A⟩:=HZ.o
 exact PaTo.mk1 (m.mono (fun x hx=>hx.imp id (fun e=>⟨bG O.o.2.size e.1,e.2⟩))) (O.o.2.trans A)
theorem jtZ(W:vW)(D:Nat->Prop)(v:vB)(ks:Nat->PA)(b:Nat)(h:PaO (.br v ks) (brV b) D W)(p:vB)(h0:p.size≠0)(hp:jaz p=true)(hs:p.size<=900000)(hn:(ks (jau p)).isNil=true):vQ 235 #[.pointer (some ⟨b,0,none⟩),.string p] W (PaTo D W (.br v ks)):=by
 obtain⟨Q,Dk,hb⟩:=h.br
 obtain⟨y,t,J⟩:=jcm h0
 obtain⟨X,e2⟩:=jbH J
 have e:=jdN hp h0
 obtain⟨Z,A⟩:=jcF J
 have a1:=jc7 h0;have E:=jct hp;have K:(jbs p).size<=900000:=by unfold jbs;rw[jaX];omega
 have O:jau p=(p[0]'Z).toNat:=by rw[X,A]
 have m:=hb.kid (jau p) e;have H:Q (jau p)=.nilIface:=by have:=m.1;rw[jbv hn]at this;exact this
 have q1:=hb.blk.cellL (jeD v Q e);rw[H]at q1;have HB:=Hd hb;have a2:=Hd O;have a0:=Hd e;have c1:(0:Int) < (p.size:Int):=vO
 have c2:((p[0]'Z).toNat:Int) < 16:=vO
 have c3:(1:Int)<=(p.size:Int):=vO
 rw[O]at q1;have hq:=jy6;clear h H J X e2 h0 hp hn A E K e O hb m;go_enter Tryz.func235,Tryz.ntmps235;go_wp2_with fail
 go_ret;exact PaTo.mk1 (HB.o.pa.at'.mono (fun x hx=>.inl hx)) (jae.refl _ _)
theorem jsP{P:PA}{T:TypeId}{x:vV}{D:Nat->Prop}{W:vW}(h:PaAt P (.iface T x) D W)(hn:P.isNo=false)(w:vW):(Instr.typeAssert (.iface T x) 88 206 true).run Tryz.prog w=.ok (.tuple #[.agg #[],.bool false]) w:=by
 cases P with
 | nil=>cases h
 | no=>cases hn
 | leaf q u=>obtain⟨b,h,_⟩:=h;unfold jjj at h;injection h with h1 h2;subst h1 h2;kernel_rfl
 | ext q n=>obtain⟨b,_,_,_,h,_⟩:=h;unfold extV at h;injection h with h1 h2;subst h1 h2;kernel_rfl
 | br u ks=>obtain⟨b,_,_,h,_⟩:=h;unfold brV at h;injection h with h1 h2;subst h1 h2;kernel_rfl
theorem jq5(W:vW)(D:Nat->Prop)(v:vB)(ks:Nat->PA)(b:Nat)(h:PaO (.br v ks) (brV b) D W)(p:vB)(h0:p.size≠0)(hp:jaz p=true)(hs:p.size<=900000)(hn:(ks (jau p)).isNil=false)(hd:Dp (.br v ks) 900000)(hk:jtI (ks (jau p)))(hno:(jbS (ks (jau p)) (jbs p)).isNo=false) :
  vQ 235 #[.pointer (some ⟨b,0,none⟩),.string p] W (PaTo D W (jdq v (setK ks (jau p) (jbS (ks (jau p)) (jbs p))))):=by
 obtain⟨vk,Dk,hb⟩:=h.br
 obtain⟨y,t,hy⟩:=jcm h0
 obtain⟨e1,e2⟩:=jbH hy
 have A:=jdN hp h0
 obtain⟨g0,b3⟩:=jcF hy
 have c7:=jc7 h0;have a5:=jct hp;have b4:(jbs p).size<=900000:=by unfold jbs;rw[jaX];omega
 have hI:jau p=(p[0]'g0).toNat:=by rw[e1,b3]
 have E:=hb.kid (jau p) A
 obtain⟨T,x,a7⟩:=E.1.form hn
 have q1:=hb.blk.cellL (jeD v vk A);rw[a7]at q1;have Q1:=Hd q1;have HB:=Hd hb;have HM:=Hd ((show PaAt (ks (jau p)) (.iface T x) (Dk (jau p)) W by rw[<-a7];exact E.1).meth);have a8:=hd (jau p) hn;have a1:=Hd (show ∀ O,Ext W O->vQ (jfd (ks (jau p))) #[x,.string (jbs p)] O (PaTo (Dk (jau p)) O (jbS (ks (jau p)) (jbs p)))from fun O e=>hk O T x _ _ ⟨(show PaAt (ks (jau p)) (.iface T x) (Dk (jau p)) W by rw[<-a7];exact E.1).keeps e _ _ _ (fun _ _ e=>e),fun z H=>bJ (hb.lt z (E.2.2 z H)) e.size⟩ b4 a5 (jcd _ _ _ a8.2 vO));have b6:Hid (Dp (.br v (setK ks (jau p) (jbS (ks (jau p)) (jbs p)))) 900000):=jio hd a8.1 (jin _ _ _ a8.2) v;have b7:=Hd (show ¬(Dk (jau p) b\/W.heap.size<=b)from fun e=>e.elim (hb.kid _ A).2.1 (fun e=>by have:=hb.lt b hb.mem;omega));have hQ:=jnd T x;have b5:=Hd hI;have m:=Hd A;have c1:(0:Int) < (p.size:Int):=vO
 have c2:((p[0]'g0).toNat:Int) < 16:=vO
 have c3:(1:Int)<=(p.size:Int):=vO
 rw[hI]at q1;have b8:=Hd hno;clear h a7 hy e1 e2 h0 hp hn b3 a5 b4 A hI hb E hd a8 hk hno;go_enter Tryz.func235,Tryz.ntmps235;go_wp2_with fail
 refine jdf [0,1,2,3,4,5,6,7,8,9,10,11,13,14,12,15] 16 [12] Ext (jae (fun z=>Dk (jau p) z\/W.heap.size<=z)) ExtR ExtT (fun x y z h k=>jae.trans h k) (fun x y h=>h.mono (fun _ _ h=>h.elim)) vY vY vY ?_;iterate 4 refine vZ ?_
 refine jcH _ ((.pointer (some ⟨b,0,none⟩))) rfl vY rfl (fun w1=>by kernel_rfl) ?_;refine vS ?_;iterate 2 refine vZ ?_
 refine jgu ⟨b,1+(p[0]'g0).toNat,none⟩ _ rfl vY vY rfl rfl (fun w1 h1=>jaE (fun w=>by kernel_rfl) (by rw[<-b5.o];exact jan Q1.o (((jae.refl (fun z=>Dk (jau p) z\/W.heap.size<=z) W).drew).trans h1) (by exact b7.o))) ?_;refine vS ?_;iterate 2 refine vZ ?_
 refine jcH _ (.iface T x) rfl vY rfl (fun w1=>by kernel_rfl) ?_;refine vS ?_
 refine vZ ?_
 refine jcH _ ((.pointer (some ⟨b,0,none⟩))) rfl vY rfl (fun w1=>by kernel_rfl) ?_;refine vS ?_
 refine vZ ?_
 refine jgs _ rfl vY rfl (fun O hb K hK=>?_);have kb:Ext W O:=(jai _).trans hb;refine jbG (jcI (f:=jfd (ks (jau p))) (vs:=#[.string (jbs p)]) rfl (HM.o.drop _) (jfy _) vY) ?_;refine (a1.o O kb).mono ?_;rintro e w2 ⟨v2,rfl,a2,Q⟩
 refine⟨v2,rfl,hK _ _ (Q.mono (fun z _ H=>.inl H)) ?_⟩
 have HS:=Hd (bB kb (bB a2 Q));clear hK K hb kb a2 Q;refine vS ?_
 refine vZ ?_
 refine jgt _ rfl vY rfl (fun wc hc K hK=>?_)
 obtain⟨hb,a2,Q⟩:=HS.o
 have J:=HB.o.keeps (F:=fun _=>False) (hb) (fun _ _ e=>e);have kc:jae (Dk (jau p)) O wc:=Q.trans (hc.mono (fun _ _ e=>e.elim));have a9:PaAt (jbS (ks (jau p)) (jbs p)) v2 (Grow (Dk (jau p)) O wc) wc:=(a2.keeps hc _ _ _ (fun _ _ e=>e)).mono (fun z H=>H.imp id (fun e=>⟨e.1,bJ e.2 hc.size⟩))
 obtain⟨T2,x2,rfl⟩:=a9.form (jfx _ _)
 have ht:=J.turn m.o kc a9;have X:=J.turn_keeps m.o kc (.iface T2 x2)
 obtain⟨old,q7⟩:∃ v,wc.cell? ⟨b,1+jau p,none⟩=some v:=⟨_,(J.blk.keeps kc (J.kid _ m.o).2.1).cellL (bA (by rw[jgR];have:=m.o;omega))⟩
 have f7:wc.frozen? ⟨b,1+jau p,none⟩=false:=(J.blk.keeps kc (J.kid _ m.o).2.1).frozen
 obtain⟨W3,a3⟩:=vE (wc.setCell ⟨b,1+jau p,none⟩ (.iface T2 x2))
 rw[<-a3]at ht X
 obtain⟨b9,a0⟩:=vE (setV vk (jau p) (.iface T2 x2))
 obtain⟨c8,a6⟩:=vE (fun j=>if j=jau p then Grow (Dk (jau p)) O wc else Dk j)
 rw[<-a0, <-a6]at ht;have c0:W3.cell? ⟨b,1+jau p,none⟩=some (.iface T2 x2):=by
  have:=ht.blk.cellL (jeD v b9 m.o)
  rw[this,a0];show some (setV vk (jau p) (.iface T2 x2) (jau p))=_;unfold setV;rw[if_pos rfl]
 have HT:=Hd (bB ht (bB X (bB hb (show W3.heap.size=wc.heap.size by rw[a3];exact gG _ _ _))));have c4:=Hd a9;rw[b5.o]at q7 f7 a3 c0;clear hb a2 Q J kc a9 ht X hc;go_simp;rw[<-a3];refine hK _ _ ?_;clear hK K q7 f7 a3 a0 a6;have c9:∀ w,(Instr.typeAssert (.iface T2 x2) 88 206 true).run Tryz.prog w=.ok (.tuple #[.agg #[],.bool false]) w:=jsP c4.o b8.o;go_wp2_with fail
 obtain⟨W4,b1⟩:=vE (W3.alloc (.cells #[] 206))
 have Z:Ext W3 W4:=by rw[b1];exact (ExtR W3).alloc _
 rw[<-b1];have b2:=Hd (bB (HT.o.1.keeps Z (fun _ _ e=>e)) Z);clear Z b1;refine (jnp W4 _ v _ b b2.o.1.pa b6.o).mono ?_;rintro e w6 ⟨v6,rfl,b0,a4⟩;have HZ:=Hd (bB b0 (bB a4 (jeH b2.o.1.lt a4)));clear b0 a4;go_wp2_with fail
 go_ret
 obtain⟨b0,a4,c5⟩:=HZ.o
 obtain⟨ht,X,hb,d0⟩:=HT.o
 obtain⟨_,Z⟩:=b2.o
 have d1:W.heap.size<=W3.heap.size:=by have:=hb.size;have:=X.size;omega
 have c6:=Z.size;have g1:∀ z,Grow D O wc z->D z\/W.heap.size<=z:=fun z H=>H.imp id (fun e=>bG hb.size e.1);refine PaTo.mk1 (b0.mono (fun z H=>?_)) ?_
 ·have hl:=c5 z H
  rcases H with H | H
  ·exact (g1 z H).imp id (fun e=>⟨e,hl⟩)
  ·exact .inr ⟨by have:=H.1;omega,hl⟩
 ·have k1:jae D W W3:=(hb.mono (fun _ _ e=>e.elim):jae D W O).trans X
  have k2:jae D W W4:=k1.trans (Z.mono (fun _ _ e=>e.elim));exact k2.trans' a4 (fun z H e=>(g1 z e).elim id (fun e=>by omega))
theorem jpA(W:vW)(D:Nat->Prop)(v:vB)(ks:Nat->PA)(b:Nat)(h:PaO (.br v ks) (brV b) D W)(p:vB)(h0:p.size≠0)(hp:jaz p=true)(hs:p.size<=900000)(hn:(ks (jau p)).isNil=false)(hd:Dp (.br v ks) 900000)(hk:jtI (ks (jau p)))(hno:(jbS (ks (jau p)) (jbs p)).isNo=true) :
  vQ 235 #[.pointer (some ⟨b,0,none⟩),.string p] W (PaTo D W (jdq v (setK ks (jau p) .nil))):=by
 obtain⟨vk,Dk,hb⟩:=h.br
 obtain⟨y,t,hy⟩:=jcm h0
 obtain⟨e1,e2⟩:=jbH hy
 have E:=jdN hp h0
 obtain⟨g0,c0⟩:=jcF hy
 have d4:=jc7 h0;have a6:=jct hp;have c4:(jbs p).size<=900000:=by unfold jbs;rw[jaX];omega
 have hI:jau p=(p[0]'g0).toNat:=by rw[e1,c0]
 have H:=hb.kid (jau p) E
 obtain⟨T,x,a9⟩:=H.1.form hn
 have q1:=hb.blk.cellL (jeD v vk E);rw[a9]at q1;have Q1:=Hd q1;have HB:=Hd hb;have HM:=Hd ((show PaAt (ks (jau p)) (.iface T x) (Dk (jau p)) W by rw[<-a9];exact H.1).meth);have b4:=hd (jau p) hn;have a1:=Hd (show ∀ O,Ext W O->vQ (jfd (ks (jau p))) #[x,.string (jbs p)] O (PaTo (Dk (jau p)) O (jbS (ks (jau p)) (jbs p)))from fun O e=>hk O T x _ _ ⟨(show PaAt (ks (jau p)) (.iface T x) (Dk (jau p)) W by rw[<-a9];exact H.1).keeps e _ _ _ (fun _ _ e=>e),fun z A=>bJ (hb.lt z (H.2.2 z A)) e.size⟩ c4 a6 (jcd _ _ _ b4.2 vO));have c7:Hid (Dp (.br v (setK ks (jau p) .nil)) 900000):=jio hd b4.1 ((show Dp PA.nil (900000 - 1)from trivial)) v;have c8:=Hd (show ¬(Dk (jau p) b\/W.heap.size<=b)from fun e=>e.elim (hb.kid _ E).2.1 (fun e=>by have:=hb.lt b hb.mem;omega));have hQ:=jnd T x;have b5:=Hd hI;have m:=Hd E;have c1:(0:Int) < (p.size:Int):=vO
 have c2:((p[0]'g0).toNat:Int) < 16:=vO
 have c3:(1:Int)<=(p.size:Int):=vO
 rw[hI]at q1;have c9:=Hd hno;clear h a9 hy e1 e2 h0 hp hn c0 a6 c4 E hI hb H hd b4 hk hno;go_enter Tryz.func235,Tryz.ntmps235;go_wp2_with fail
 refine jdf [0,1,2,3,4,5,6,7,8,9,10,11,13,14,12,15] 16 [12] Ext (jae (fun z=>Dk (jau p) z\/W.heap.size<=z)) ExtR ExtT (fun x y z h k=>jae.trans h k) (fun x y h=>h.mono (fun _ _ h=>h.elim)) vY vY vY ?_;iterate 4 refine vZ ?_
 refine jcH _ ((.pointer (some ⟨b,0,none⟩))) rfl vY rfl (fun w1=>by kernel_rfl) ?_;refine vS ?_;iterate 2 refine vZ ?_
 refine jgu ⟨b,1+(p[0]'g0).toNat,none⟩ _ rfl vY vY rfl rfl (fun w1 h1=>jaE (fun w=>by kernel_rfl) (by rw[<-b5.o];exact jan Q1.o (((jae.refl (fun z=>Dk (jau p) z\/W.heap.size<=z) W).drew).trans h1) (by exact c8.o))) ?_;refine vS ?_;iterate 2 refine vZ ?_
 refine jcH _ (.iface T x) rfl vY rfl (fun w1=>by kernel_rfl) ?_;refine vS ?_
 refine vZ ?_
 refine jcH _ ((.pointer (some ⟨b,0,none⟩))) rfl vY rfl (fun w1=>by kernel_rfl) ?_;refine vS ?_
 refine vZ ?_
 refine jgs _ rfl vY rfl (fun O hb K hK=>?_);have kb:Ext W O:=(jai _).trans hb;refine jbG (jcI (f:=jfd (ks (jau p))) (vs:=#[.string (jbs p)]) rfl (HM.o.drop _) (jfy _) vY) ?_;refine (a1.o O kb).mono ?_;rintro e w2 ⟨v2,rfl,a3,Q⟩
 refine⟨v2,rfl,hK _ _ (Q.mono (fun z _ A=>.inl A)) ?_⟩
 have HS:=Hd (bB kb (bB a3 Q));clear hK K hb kb a3 Q;refine vS ?_
 refine vZ ?_
 refine jgt _ rfl vY rfl (fun wc hc K hK=>?_)
 obtain⟨hb,a3,Q⟩:=HS.o
 have J:=HB.o.keeps (F:=fun _=>False) (hb) (fun _ _ e=>e);have kc:jae (Dk (jau p)) O wc:=Q.trans (hc.mono (fun _ _ e=>e.elim));have b0:PaAt (jbS (ks (jau p)) (jbs p)) v2 (Grow (Dk (jau p)) O wc) wc:=(a3.keeps hc _ _ _ (fun _ _ e=>e)).mono (fun z A=>A.imp id (fun e=>⟨e.1,bJ e.2 hc.size⟩))
 obtain⟨T2,x2,rfl⟩:=b0.form (jfx _ _)
 have ht:=J.turn m.o kc b0;have X:=J.turn_keeps m.o kc (.iface T2 x2)
 obtain⟨old,q7⟩:∃ v,wc.cell? ⟨b,1+jau p,none⟩=some v:=⟨_,(J.blk.keeps kc (J.kid _ m.o).2.1).cellL (bA (by rw[jgR];have:=m.o;omega))⟩
 have f7:wc.frozen? ⟨b,1+jau p,none⟩=false:=(J.blk.keeps kc (J.kid _ m.o).2.1).frozen
 obtain⟨W3,a4⟩:=vE (wc.setCell ⟨b,1+jau p,none⟩ (.iface T2 x2))
 rw[<-a4]at ht X
 obtain⟨d0,a0⟩:=vE (setV vk (jau p) (.iface T2 x2))
 obtain⟨d5,a7⟩:=vE (fun j=>if j=jau p then Grow (Dk (jau p)) O wc else Dk j)
 rw[<-a0, <-a7]at ht;have b6:W3.cell? ⟨b,1+jau p,none⟩=some (.iface T2 x2):=by
  have:=ht.blk.cellL (jeD v d0 m.o)
  rw[this,a0];show some (setV vk (jau p) (.iface T2 x2) (jau p))=_;unfold setV;rw[if_pos rfl]
 have HT:=Hd (bB ht (bB X (bB hb (show W3.heap.size=wc.heap.size by rw[a4];exact gG _ _ _))));have d1:=Hd b0;rw[b5.o]at q7 f7 a4 b6;clear hb a3 Q J kc b0 ht X hc;go_simp;rw[<-a4];refine hK _ _ ?_;clear hK K q7 f7 a4 a0 a7;have c5:Value.iface T2 x2=noV:=by have:=d1.o;rw[jr2 c9.o]at this;exact this
 unfold noV at c5;injection c5 with hn1 hn2;subst hn1 hn2;have d6:∀ w,(Instr.typeAssert (.iface 206 (.agg #[])) 88 206 true).run Tryz.prog w=.ok (.tuple #[.agg #[],.bool true]) w:=fun w=>by kernel_rfl
 have q4:(W3.alloc (.cells #[] 206)).cell? ⟨b,1+(p[0]'g0).toNat,none⟩=some (.iface 206 (.agg #[])):=jaa b6 ((ExtR W3).alloc _);have f4:(W3.alloc (.cells #[] 206)).frozen? ⟨b,1+(p[0]'g0).toNat,none⟩=false:=(HT.o.1.blk.alloc _).frozen;clear q4;have q4:=jaa b6 ((ExtR W3).alloc (.cells #[] 206));go_wp2_with fail
 obtain⟨W4,b7⟩:=vE (W3.alloc (.cells #[] 206))
 have Z:Ext W3 W4:=by rw[b7];exact (ExtR W3).alloc _
 rw[<-b7]at q4 f4 ⊢;have b8:=HT.o.1.keeps Z (fun _ _ e=>e);have b1:=b8.turn m.o (P:=.nil) (v:=.nilIface) (jae.refl _ W4) rfl;have a2:=b8.turn_keeps m.o (jae.refl _ W4) .nilIface
 obtain⟨W5,b2⟩:=vE (W4.setCell ⟨b,1+jau p,none⟩ .nilIface)
 rw[<-b2]at b1 a2;rw[b5.o]at b2;rw[<-b2];have c6:setK (setK ks (jau p) (jbS (ks (jau p)) (jbs p))) (jau p) .nil=setK ks (jau p) .nil:=by
  funext j
  unfold setK
  by_cases e:j=jau p
  ·rw[if_pos e,if_pos e]
  ·rw[if_neg e,if_neg e,if_neg e]
 rw[c6]at b1;have a8:W4.heap.size<=W5.heap.size:=a2.size;have b9:=Hd (bB b1 (bB a2 (bB Z a8)));clear b8 b1 a2 Z b7 b2 q4 f4 c6 a8;refine (jnp W5 _ v _ b b9.o.1.pa c7.o).mono ?_;rintro e w6 ⟨v6,rfl,b3,a5⟩;have HZ:=Hd (bB b3 (bB a5 (jeH b9.o.1.lt a5)));clear b3 a5;go_wp2_with fail
 go_ret
 obtain⟨b3,a5,d2⟩:=HZ.o
 obtain⟨ht,X,hb,d7⟩:=HT.o
 obtain⟨_,a2,Z,d8⟩:=b9.o
 have d9:W.heap.size<=W3.heap.size:=by have:=hb.size;have:=X.size;omega
 have d3:=Z.size;have g1:∀ z,Grow D O wc z->D z\/W.heap.size<=z:=fun z A=>A.imp id (fun e=>bG hb.size e.1);have g2:∀ z,Grow (Grow D O wc) W4 W4 z->D z\/W.heap.size<=z:=fun z A=>A.elim (g1 z) (fun e=>by omega);refine PaTo.mk1 (b3.mono (fun z A=>?_)) ?_
 ·have hl:=d2 z A
  rcases A with A | A
  ·exact (g2 z A).imp id (fun e=>⟨e,hl⟩)
  ·exact .inr ⟨by have:=A.1;omega,hl⟩
 ·have k1:jae D W W3:=(hb.mono (fun _ _ e=>e.elim):jae D W O).trans X
  have k2:jae D W W4:=k1.trans (Z.mono (fun _ _ e=>e.elim));have k3:jae D W W5:=k2.trans' a2 (fun z A e=>(g1 z e).elim id (fun e=>by omega));exact k3.trans' a5 (fun z A e=>(g2 z e).elim id (fun e=>by omega))
theorem jhZ:∀ (P:PA),VaP P->jtI P
 | .nil,_=>fun W T x D p h _ _ _=>by cases h.at'
 | .no,_=>fun W T x D p h _ _ _=>by
  have e:Value.iface T x=noV:=h.at';unfold noV at e;injection e with e1 e2;subst e1 e2;exact ju1 W D p
 | .leaf q v,hv=>fun W T x D p h o A m=>by
  obtain⟨b,e,H,J⟩:=h.at'
  unfold jjj at e;injection e with e1 e2;subst e1 e2;exact jxf W D q v p b J H
 | .ext q n,hv=>fun W T x D p h o A m=>by
  obtain⟨b,O,Q,K,e,H,J,X,Z,h5⟩:=h.at'
  unfold extV at e;injection e with e1 e2;subst e1 e2;have E:∀ z,K z->D z/\z < W.heap.size:=fun z hz=>⟨h5 z hz,h.lt z (h5 z hz)⟩;show Calls _ _ _ W (PaTo D W (jbS (.ext q n) p));unfold jbS;cases hf:preB q p with
  | true =>
   rw[if_pos rfl];exact juq W D q n O Q K b J H X Z E p A m.1 o (jcd _ _ _ m.2 vO) (jhZ n hv.2) hf
  | false =>
   rw[if_neg ff];exact jur W D q n O Q K b J H X Z E p A m.1 o hf
 | .br v ks,hv=>fun W T x D p h o A m=>by
  obtain⟨b,vk,Dk,e,_⟩:=h.at'
  unfold brV at e;injection e with e1 e2;subst e1 e2;show Calls _ _ _ W (PaTo D W (jbS (.br v ks) p));unfold jbS
  by_cases h0:p.size=0
  ·rw[if_pos h0,jbj h0]
   exact jq6 W D v ks b h m
  ·rw[if_neg h0]
   cases hk:(ks (jau p)).isNil with
   | true=>rw[if_pos rfl];exact jtZ W D v ks b h p h0 A o hk
   | false =>
    rw[if_neg ff];unfold unNo;cases hno:(jbS (ks (jau p)) (jbs p)).isNo with
    | true=>rw[if_pos rfl];exact jpA W D v ks b h p h0 A o hk m (jhZ (ks (jau p)) (hv _)) hno
    | false=>rw[if_neg ff];exact jq5 W D v ks b h p h0 A o hk m (jhZ (ks (jau p)) (hv _)) hno
def cntP:PA->Nat
 | .nil=>0
 | .no=>1
 | .leaf _ _=>1
 | .ext _ n=>1+cntP n
 | .br _ ks=>1+sumF (fun i=>cntP (ks i)) 16
theorem joA(p v:vB):(keyR p v).length<=1:=by unfold keyR;split <;> simp
theorem jgj{α:Type}(g:Nat->List α)(f:Nat->Nat)(h:∀ i,(g i).length<=f i):∀ n,((List.range n).flatMap g).length<=sumF f n
 | 0=>by simp
 | n+1=>by
  rw[fT,fN,bF]
  have:=jgj g f h n
  have:=h n
  simp only[dI,List.flatMap_nil,cC,sumF];omega
theorem jnb:∀ (P:PA) (p:vB),(entP P p).length<=cntP P
 | .nil,_=>bM _
 | .no,_=>cD _
 | .leaf q v,p=>joA _ _
 | .ext q n,p=>bG (jnb n (p++q)) (Nat.le_add_left _ _)
 | .br v ks,p=>by
  show ((if v.size=0 then []else keyR p v)++(List.range 16).flatMap fun i=>if (ks i).isNil then []else entP (ks i) (p++nib1 i)).length<=1+sumF (fun i=>cntP (ks i)) 16;rw[bF];have e:(if v.size=0 then []else keyR p v:vL).length<=1:=by
   split
   ·simp
   ·exact joA _ _
  have m:=jgj (fun i=>if (ks i).isNil then []else entP (ks i) (p++nib1 i)) (fun i=>cntP (ks i)) (fun i=>by
   show (if (ks i).isNil=true then ([]:vL)else entP (ks i) (p++nib1 i)).length<=cntP (ks i);split
   ·simp
   ·exact jnb (ks i) _) 16
  omega
theorem ERow.len'{w0 w:vW}{v:vV}{n:Nat}{xs:vL}(h:ERow w0 w v n xs):n=xs.length:=by have:=h.len;rw[jgU]at this;omega
def EnP(w0:vW)(xs:vL)(e:Ending)(w':vW):Prop:=∃ v n,e=.returned v/\ERow w0 w' v n xs
def EntC(P:PA):Prop:=∀ (w0 W:vW) (T:TypeId) (x:vV) (D:Nat->Prop) (p:vB) (v:vV) (n k:Nat) (E:vL),PaO P (.iface T x) D w0->ERow w0 W v n E->Dp P k->p.size+k<=900000->n+cntP P<=100000 ->
 vQ (jf0 P) #[x,.string p,v] W (EnP w0 (E++entP P p))
theorem jxq(w0 W:vW)(p:vB)(v:vV)(n:Nat)(E:vL)(h:ERow w0 W v n E):vQ 240 #[.agg #[],.string p,v] W (EnP w0 E):=by
 have H:=Hd h
 obtain⟨a,c,rfl⟩:=h.sl
 clear h;go_enter Tryz.func240,Tryz.ntmps240;go_wp2_with fail
 go_ret
 exact⟨_,n,rfl,H.o.mono ((ExtR W).alloc _)⟩
theorem jjx(k v:vB):jef [(k,v)]=[.string k,.string v]:=rfl
theorem jzm(w0 W:vW)(q u p:vB)(b:Nat)(hB:Blk w0 b (.cells #[.string q,.string u] 197))(v:vV)(n:Nat)(E:vL)(h:ERow w0 W v n E)(hs:p.size+q.size<=900000)(hn:n<=100000) :
  vQ 223 #[.pointer (some ⟨b,0,none⟩),.string p,v] W (EnP w0 (E++keyR (p++q) u)):=by
 have q0:=jaa (hB.cell (i:=0) (v:=.string q) vF) h.ext;have Z:=Hd (jaa (hB.cell (i:=1) (v:=.string u) vF) h.ext);have H:=Hd h
 obtain⟨a,c,rfl⟩:=h.sl
 have e:=fun w=>juN w (p++q) (by rw[jc8];omega);unfold keyV at e;unfold keyR;cases hok:jem (p++q)with
 | false =>
  rw[if_neg ff,cC];rw[hok,if_neg ff]at e;have A:=Hd e;clear h hB e hok;go_enter Tryz.func223,Tryz.ntmps223;go_wp2_with fail
  refine vH (A.o W) fun w1 O=>?_;go_wp2_with fail
  go_ret
  exact⟨_,n,rfl,H.o.mono O.o⟩
 | true =>
  rw[if_pos rfl];rw[hok,if_pos rfl]at e;have A:=Hd e;clear h hB e hok;go_enter Tryz.func223,Tryz.ntmps223;go_wp2_with fail
  refine vC (A.o W) fun w1 m=>?_;have O:=Hd m;have q1:=jaa Z.o m;have HR:=Hd (H.o.mono m);clear m;go_wp2_with (at_builtin;refine jaS Tryz.sEnts (HR.o.mono ((ExtR w1).alloc _)) (.tmp 20) (.tmp 27) rfl rfl rfl (jaH (Blk.new w1 _)) (news:=[.string (jbD (p++q)),.string u]) (by intro u Q;simp at Q;rcases Q with rfl | rfl <;> rfl) rfl rfl (by unfold maxLen;omega) vO (fun v' w' X r2 r3=>?_);obtain⟨a5,c5,J⟩:=X.sl;subst J;have K:=Hd X)
  go_ret
  exact⟨_,n+1,rfl,by have:=K.o;rw[<-jjx, <-jbd]at this;exact this⟩
def jqD(w0 a b:vW):Prop:=Ext w0 a->Ext w0 b
theorem jmU(w0 x y z:vW)(h:jqD w0 x y)(k:jqD w0 y z):jqD w0 x z:=fun e=>k (h e)
theorem jqU(w0 x y:vW)(h:Ext x y):jqD w0 x y:=fun e=>e.trans h
theorem jy4(w0 W:vW)(q:vB)(n:PA)(T:TypeId)(x:vV)(Dn:Nat->Prop)(b:Nat)(hB:Blk w0 b (.cells #[.string q,.iface T x] 200))(hv:PaAt n (.iface T x) Dn w0)(hD:∀ x,Dn x->x < w0.heap.size)(p:vB)(v:vV)(m k:Nat)(E:vL)(h:ERow w0 W v m E)(O:Dp n k)(hs:(p++q).size+k<=900000)(hn:m+cntP n<=100000)(hk:EntC n) :
  vQ 230 #[.pointer (some ⟨b,0,none⟩),.string p,v] W (EnP w0 (E++entP n (p++q))):=by
 have Q0:=Hd (hB.cell (i:=0) (v:=.string q) vF);have Q1:=Hd (hB.cell (i:=1) (v:=.iface T x) vF);have Q:=Hd h.ext;have HM:=Hd hv.meth;have hz:p.size+q.size<=900000:=by rw[<-jc8];omega
 obtain⟨a,c,X⟩:=h.sl
 have A:=Hd (show ∀ H,Ext W H->vQ (jf0 n) #[x,.string (p++q),v] H (EnP w0 (E++entP n (p++q)))from fun H e=>hk w0 H T x Dn (p++q) v m k E ⟨hv,hD⟩ (h.mono e) O hs hn);subst X;clear hB hv hD h O hs hn hk;go_enter Tryz.func230,Tryz.ntmps230;go_wp2_with fail
 refine jaJ [0,1,2,3,4,5,6,7,8,9,10,11,12,13,14] [13] Ext (jqD w0) ExtR ExtT (jmU w0) (jqU w0) vY vY vY ?_
 refine vD ?_
 refine qDV _ ((.pointer (some ⟨b,0,none⟩))) rfl (fun w1 _=>by kernel_rfl) ?_;refine vS ?_
 refine vD ?_
 refine qDL ⟨b,1,none⟩ _ rfl (fun w1 Z=>jaE (fun w=>by kernel_rfl) (jaa Q1.o (Z (Q.o.trans (jai _))))) ?_;refine vS ?_;iterate 2 refine vD ?_
 refine qDV _ ((.pointer (some ⟨b,0,none⟩))) rfl (fun w1 _=>by kernel_rfl) ?_;refine vS ?_
 refine vD ?_
 refine qDL ⟨b,0,none⟩ _ rfl (fun w1 Z=>jaE (fun w=>by kernel_rfl) (jaa Q0.o (Z (Q.o.trans (jai _))))) ?_;refine vS ?_;iterate 2 refine vD ?_
 refine qDV _ (.iface T x) rfl (fun w1 _=>by kernel_rfl) ?_;refine vS ?_
 refine vD ?_
 refine qDH _ rfl (fun H hb K hK=>?_);have kb:Ext W H:=(jai _).trans hb;refine jbG (jcI (f:=jf0 n) (vs:=#[.string (p++q),.slice a m c]) rfl (HM.o.ent _) (jeg _) vY) ?_;refine (A.o H kb).mono ?_;rintro e w2 ⟨v2,m2,rfl,J⟩
 refine⟨v2,rfl,hK _ _ (fun _=>J.ext) ?_⟩
 have HS:=Hd J;clear hK K hb kb J;refine vS ?_
 refine vD ?_
 refine qDE (fun wd O=>?_);have HQ:=Hd O;clear O;go_wp2_with fail
 go_ret
 exact⟨_,_,rfl,HS.o.mono HQ.o⟩
def entK(ks:Nat->PA)(p:vB)(k:Nat):vL:=(List.range k).flatMap fun i=>if (ks i).isNil then []else entP (ks i) (p++nib1 i)
theorem jip(ks:Nat->PA)(p:vB)(k:Nat):entK ks p (k+1)=entK ks p k++(if (ks k).isNil then []else entP (ks k) (p++nib1 k)):=by
 unfold entK;rw[fT,fN]
 simp
theorem jkm(ks:Nat->PA)(p:vB)(k:Nat):(entK ks p k).length<=sumF (fun i=>cntP (ks i)) k:=jgj _ _ (fun i=>by
 show (if (ks i).isNil=true then ([]:vL)else entP (ks i) (p++nib1 i)).length<=cntP (ks i);split
 ·simp
 ·exact jnb (ks i) _) k
theorem jeu(f:Nat->Nat)(k:Nat):∀ d,sumF f k<=sumF f (k+d)
 | 0=>bM _
 | d+1=>bG (jeu f k d) (Nat.le_add_right _ _)
def jwn(w0:vW)(ks:Nat->PA)(p:vB)(E:vL)(tv iv:vV)(wr:vW):Prop:=∃ (k m:Nat),k<=16/\iv=.int .i64 (k:Int)/\ERow w0 wr tv m (E++entK ks p k)
theorem jki(w:vW){m:Nat}(hm:m < 16):(convert 52 9 (.slice (some ⟨w.heap.size,0,none⟩) 1 1)).run Tryz.prog (w.alloc (.cells #[.int .u8 (m:Int)] 5))=.ok (.string (nib1 m)) (w.alloc (.cells #[.int .u8 (m:Int)] 5)):=by
 have e:(m:Int)=((UInt8.ofNat m).toNat:Int):=by rw[jqy m vO]
 rw[e];exact Tryz.run_lit1 w (UInt8.ofNat m)
structure BrRd(u:vB)(ks:Nat->PA)(b:Nat)(vk:Nat->Value)(Dk:Nat->Nat->Prop)(W:World):Prop where
 blk:Blk W b (.cells (brC u vk).toArray 204)
 kid:∀ i,i < 16->PaO (ks i) (vk i) (Dk i) W
theorem jq8(w0 W:vW)(u p:vB)(ks:Nat->PA)(b:Nat)(vk:Nat->vV)(Dk:Nat->Nat->Prop)(hb:BrRd u ks b vk Dk w0)(v:vV)(n kk:Nat)(E:vL)(h:ERow w0 W v n E)(hd:Dp (.br u ks) kk)(hs:p.size+kk<=900000)(hn:n+1+sumF (fun i=>cntP (ks i)) 16<=100000)(ih:∀ i,i < 16->(ks i).isNil=false->EntC (ks i))(ho:jem p=false) :
  vQ 236 #[.pointer (some ⟨b,0,none⟩),.string p,v] W (EnP w0 (E++entK ks p 16)):=by
 have H:=Hd hb;have b0:=Hd hd;have a6:=Hd hs;have b3:=Hd ih;have b4:=Hd h.ext;have H0:=Hd h;have b5:=h.len';have q0:=jaa (hb.blk.cellL (i:=0) (v:=.string u) vF) h.ext;have Q:=jbh (hb.blk.keeps h.ext (fun e=>e));have c4:(⟨#[]⟩:vB).toList.isEmpty=true:=by rw[bL];rfl
 have c5:=jkB;have J:=juN W p vO;unfold keyV at J
 obtain⟨a,c,a5⟩:=h.sl
 rw[ho,if_neg ff]at J;have HK:=Hd J;have b6:=Hd (show E.length+sumF (fun i=>cntP (ks i)) 16<=100000 by omega);have hB:=Hd hb.blk;clear hb hd hs ih h hn ho J Q;subst a5;go_enter Tryz.func236,Tryz.ntmps236;go_wp2_with fail
 refine HK.o.mono ?_;rintro e w1 ⟨rfl,hE⟩;have Q:=jbh (hB.o.keeps (b4.o.trans hE) (fun e=>e));have b7:=Hd (H0.o.mono hE);clear hE q0;clear b5;go_wp2_with (refine jaf 202 (.tmp 35) rfl rfl _ _ rfl Q ?_)
 go_loopw [2,37] (fun tv iv wr=>jwn w0 ks p E tv iv wr) (fun _ iv _=>16 - (intOf iv).toNat)
 case atStart=>exact⟨0,n,by omega,rfl,by rw[show entK ks p 0=[]from rfl,cC];exact b7.o⟩
 case round =>
  obtain⟨k,m,hk,rfl,hR⟩:=hrel
  have X:=Hd hR;have a7:m<=E.length+sumF (fun i=>cntP (ks i)) k:=by
   have h1:=hR.len';have h2:=jkm ks p k;rw[bF]at h1;omega
  have b8:=Hd a7
  obtain⟨a2,c2,K⟩:=hR.sl
  clear hR a7
  by_cases hlt:k < 16
  ·have a8:=jeO vk hlt
   have A:=jip ks p k;rcases (H.o.kid k hlt).at'.kid with⟨hn,hv⟩ |⟨hn,T,x,hv⟩
   ·rw[hn,if_pos rfl,cC]at A
    rw[hv]at a8;have Z:=Hd A;clear A hn hv;subst K;go_wp2;go_roundw
    case rel=>exact⟨k+1,m,by omega,by go_num,by rw[Z.o];exact X.o⟩
    case measure=>exact vJ
   ·rw[hn,if_neg ff]at A
    rw[hv]at a8;have hq:=jdu T x;have O:=H.o.kid k hlt;rw[hv]at O;have a9:=O.at'.meth;have c6:∀ w,(Go.method (410+1) T x "guilloche/trie.entries").run Tryz.prog w=.ok (jf0 (ks k),x) w:=a9.ent;have c7:=jeg (ks k);have c8:=jki wr hlt;have a1:=b0.o k hn;have b9:sumF (fun i=>cntP (ks i)) k+cntP (ks k)<=sumF (fun i=>cntP (ks i)) 16:=by
     have h1:=jeu (fun i=>cntP (ks i)) (k+1) (15 - k);rw[show k+1+(15 - k)=16 by omega]at h1;exact h1
    have a0:=Hd (show ∀ wb,Ext wr wb->vQ (jf0 (ks k)) #[x,.string (p++nib1 k),.slice a2 m c2] wb (EnP w0 (E++entK ks p k++entP (ks k) (p++nib1 k)))from fun wb e=>b3.o k hlt hn w0 wb T x (Dk k) (p++nib1 k) _ m (kk - 1) _ O (by rw[<-K];exact X.o.mono e) a1.2 (by rw[jc8];have:(nib1 k).size=1:=rfl;have:=a6.o;have:=a1.1;omega) (by have:=b8.o;have:=b6.o;omega));have Z:=Hd A;have b1:(k:Int) < 256:=vO
    have c9:p.size+(nib1 k).size<=900001:=by have:(nib1 k).size=1:=rfl;have:=a6.o;omega
    have b2:(k:Int) < 16:=vO
    clear A hn hv O a9 a1 b9;subst K;go_wp2_with fail
    refine (a0.o _ ((ExtR wr).alloc _)).mono ?_;rintro e w2 ⟨v2,m2,rfl,a4⟩;have c0:=Hd a4
    obtain⟨a3,c3,c1⟩:=a4.sl
    subst c1;clear a4;go_wp2_with fail
    go_roundw
    case rel=>exact⟨k+1,m2,by omega,by go_num,by rw[Z.o, <-cB];exact c0.o⟩
    case measure=>exact vJ
  ·obtain rfl:k=16:=vO
   subst K;go_wp2_with fail
   go_ret
   exact⟨_,_,rfl,X.o⟩
theorem jt4(w0 W:vW)(u p:vB)(ks:Nat->PA)(b:Nat)(vk:Nat->vV)(Dk:Nat->Nat->Prop)(hb:BrRd u ks b vk Dk w0)(v:vV)(n kk:Nat)(E:vL)(h:ERow w0 W v n E)(hd:Dp (.br u ks) kk)(hs:p.size+kk<=900000)(hn:n+1+sumF (fun i=>cntP (ks i)) 16<=100000)(ih:∀ i,i < 16->(ks i).isNil=false->EntC (ks i))(ho:jem p=true)(hu:u.size≠0) :
  vQ 236 #[.pointer (some ⟨b,0,none⟩),.string p,v] W (EnP w0 ((E++[(jbD p,u)])++entK ks p 16)):=by
 have H:=Hd hb;have b4:=Hd hd;have a7:=Hd hs;have b5:=Hd ih;have c8:=Hd h.ext;have H0:=Hd h;have b6:=h.len';have q0:=jaa (hb.blk.cellL (i:=0) (v:=.string u) vF) h.ext;have Q:=jbh (hb.blk.keeps h.ext (fun e=>e));have c9:(⟨#[]⟩:vB).toList.isEmpty=true:=by rw[bL];rfl
 have d0:=jkB;have J:=juN W p vO;unfold keyV at J
 obtain⟨a,c,a6⟩:=h.sl
 rw[ho,if_pos rfl]at J;have HK:=Hd J;have d1:=jc7 hu;have b7:=Hd (show (E++[(jbD p,u)]).length+sumF (fun i=>cntP (ks i)) 16<=100000 by rw[bF,jA];omega);have hB:=Hd hb.blk;have Q0:=Hd q0;have c7:n<=100000:=vO
 clear hb hd hs ih h hn ho J Q hu q0;subst a6;go_enter Tryz.func236,Tryz.ntmps236;go_wp2_with fail
 refine HK.o.mono ?_;rintro e w1 ⟨rfl,hE⟩;have q0:=jaa Q0.o hE;have b8:=Hd (H0.o.mono hE);clear hE b6;go_wp2_with (first |(at_builtin;refine jaS Tryz.sEnts (b8.o.mono ((ExtR w1).alloc _)) (.tmp 24) (.tmp 31) rfl rfl rfl (jaH (Blk.new w1 _)) (news:=[.string (jbD p),.string u]) (by intro u hu;simp at hu;rcases hu with rfl | rfl <;> rfl) rfl rfl (by unfold maxLen;omega) vO (fun v' w' r1 r2 r3=>?_);obtain⟨a5,c5,b9⟩:=r1.sl;subst b9;have a8:Hid (ERow w0 w' (.slice a5 (n+1) c5) (n+1) (E++[(jbD p,u)])):=Hd (by rw[<-jjx, <-jbd]at r1;exact r1);have Q:=jbh (hB.o.keeps a8.o.ext (fun e=>e))) |(refine jaf 202 (.tmp 35) rfl rfl _ _ rfl Q ?_))
 go_loopw [2,37] (fun tv iv wr=>jwn w0 ks p (E++[(jbD p,u)]) tv iv wr) (fun _ iv _=>16 - (intOf iv).toNat)
 case atStart=>exact⟨0,(n+1),by omega,rfl,by rw[show entK ks p 0=[]from rfl,cC];exact a8.o⟩
 case round =>
  obtain⟨k,m,hk,rfl,hR⟩:=hrel
  have X:=Hd hR;have a9:m<=(E++[(jbD p,u)]).length+sumF (fun i=>cntP (ks i)) k:=by
   have h1:=hR.len';have h2:=jkm ks p k;rw[bF]at h1;omega
  have c0:=Hd a9
  obtain⟨a2,c2,K⟩:=hR.sl
  clear hR a9
  by_cases hlt:k < 16
  ·have b0:=jeO vk hlt
   have A:=jip ks p k;rcases (H.o.kid k hlt).at'.kid with⟨hn,hv⟩ |⟨hn,T,x,hv⟩
   ·rw[hn,if_pos rfl,cC]at A
    rw[hv]at b0;have Z:=Hd A;clear A hn hv;subst K;go_wp2;go_roundw
    case rel=>exact⟨k+1,m,by omega,by go_num,by rw[Z.o];exact X.o⟩
    case measure=>exact vJ
   ·rw[hn,if_neg ff]at A
    rw[hv]at b0;have hq:=jdu T x;have O:=H.o.kid k hlt;rw[hv]at O;have b3:=O.at'.meth;have d2:∀ w,(Go.method (410+1) T x "guilloche/trie.entries").run Tryz.prog w=.ok (jf0 (ks k),x) w:=b3.ent;have d3:=jeg (ks k);have d4:=jki wr hlt;have a1:=b4.o k hn;have c1:sumF (fun i=>cntP (ks i)) k+cntP (ks k)<=sumF (fun i=>cntP (ks i)) 16:=by
     have h1:=jeu (fun i=>cntP (ks i)) (k+1) (15 - k);rw[show k+1+(15 - k)=16 by omega]at h1;exact h1
    have a0:=Hd (show ∀ wb,Ext wr wb->vQ (jf0 (ks k)) #[x,.string (p++nib1 k),.slice a2 m c2] wb (EnP w0 ((E++[(jbD p,u)])++entK ks p k++entP (ks k) (p++nib1 k)))from fun wb e=>b5.o k hlt hn w0 wb T x (Dk k) (p++nib1 k) _ m (kk - 1) _ O (by rw[<-K];exact X.o.mono e) a1.2 (by rw[jc8];have:(nib1 k).size=1:=rfl;have:=a7.o;have:=a1.1;omega) (by have:=c0.o;have:=b7.o;omega));have Z:=Hd A;have b1:(k:Int) < 256:=vO
    have d5:p.size+(nib1 k).size<=900001:=by have:(nib1 k).size=1:=rfl;have:=a7.o;omega
    have b2:(k:Int) < 16:=vO
    clear A hn hv O b3 a1 c1;subst K;go_wp2_with fail
    refine (a0.o _ ((ExtR wr).alloc _)).mono ?_;rintro e w2 ⟨v2,m2,rfl,a4⟩;have c4:=Hd a4
    obtain⟨a3,c3,c6⟩:=a4.sl
    subst c6;clear a4;go_wp2_with fail
    go_roundw
    case rel=>exact⟨k+1,m2,by omega,by go_num,by rw[Z.o, <-cB];exact c4.o⟩
    case measure=>exact vJ
  ·obtain rfl:k=16:=vO
   subst K;go_wp2_with fail
   go_ret
   exact⟨_,_,rfl,X.o⟩
theorem jt3(w0 W:vW)(u p:vB)(ks:Nat->PA)(b:Nat)(vk:Nat->vV)(Dk:Nat->Nat->Prop)(hb:BrRd u ks b vk Dk w0)(v:vV)(n kk:Nat)(E:vL)(h:ERow w0 W v n E)(hd:Dp (.br u ks) kk)(hs:p.size+kk<=900000)(hn:n+1+sumF (fun i=>cntP (ks i)) 16<=100000)(ih:∀ i,i < 16->(ks i).isNil=false->EntC (ks i))(ho:jem p=true)(hu:u.size=0) :
  vQ 236 #[.pointer (some ⟨b,0,none⟩),.string p,v] W (EnP w0 (E++entK ks p 16)):=by
 have H:=Hd hb;have b0:=Hd hd;have a6:=Hd hs;have b3:=Hd ih;have b4:=Hd h.ext;have H0:=Hd h;have b5:=h.len';have q0:=jaa (hb.blk.cellL (i:=0) (v:=.string u) vF) h.ext;have Q:=jbh (hb.blk.keeps h.ext (fun e=>e));have c5:(⟨#[]⟩:vB).toList.isEmpty=true:=by rw[bL];rfl
 have c6:=jkB;have J:=juN W p vO;unfold keyV at J
 obtain⟨a,c,a5⟩:=h.sl
 rw[ho,if_pos rfl]at J;have HK:=Hd J;have b6:=jbj hu;subst b6;have b7:=Hd (show E.length+sumF (fun i=>cntP (ks i)) 16<=100000 by omega);have hB:=Hd hb.blk;have Q0:=Hd q0;clear hb hd hs ih h hn ho J Q hu q0;subst a5;go_enter Tryz.func236,Tryz.ntmps236;go_wp2_with fail
 refine HK.o.mono ?_;rintro e w1 ⟨rfl,hE⟩;have q0:=jaa Q0.o hE;have Q:=jbh (hB.o.keeps (b4.o.trans hE) (fun e=>e));have b8:=Hd (H0.o.mono hE);clear hE b5;go_wp2_with (refine jaf 202 (.tmp 35) rfl rfl _ _ rfl Q ?_)
 go_loopw [2,37] (fun tv iv wr=>jwn w0 ks p E tv iv wr) (fun _ iv _=>16 - (intOf iv).toNat)
 case atStart=>exact⟨0,n,by omega,rfl,by rw[show entK ks p 0=[]from rfl,cC];exact b8.o⟩
 case round =>
  obtain⟨k,m,hk,rfl,hR⟩:=hrel
  have X:=Hd hR;have a7:m<=E.length+sumF (fun i=>cntP (ks i)) k:=by
   have h1:=hR.len';have h2:=jkm ks p k;rw[bF]at h1;omega
  have b9:=Hd a7
  obtain⟨a2,c2,K⟩:=hR.sl
  clear hR a7
  by_cases hlt:k < 16
  ·have a8:=jeO vk hlt
   have A:=jip ks p k;rcases (H.o.kid k hlt).at'.kid with⟨hn,hv⟩ |⟨hn,T,x,hv⟩
   ·rw[hn,if_pos rfl,cC]at A
    rw[hv]at a8;have Z:=Hd A;clear A hn hv;subst K;go_wp2;go_roundw
    case rel=>exact⟨k+1,m,by omega,by go_num,by rw[Z.o];exact X.o⟩
    case measure=>exact vJ
   ·rw[hn,if_neg ff]at A
    rw[hv]at a8;have hq:=jdu T x;have O:=H.o.kid k hlt;rw[hv]at O;have a9:=O.at'.meth;have c7:∀ w,(Go.method (410+1) T x "guilloche/trie.entries").run Tryz.prog w=.ok (jf0 (ks k),x) w:=a9.ent;have c8:=jeg (ks k);have c9:=jki wr hlt;have a1:=b0.o k hn;have c0:sumF (fun i=>cntP (ks i)) k+cntP (ks k)<=sumF (fun i=>cntP (ks i)) 16:=by
     have h1:=jeu (fun i=>cntP (ks i)) (k+1) (15 - k);rw[show k+1+(15 - k)=16 by omega]at h1;exact h1
    have a0:=Hd (show ∀ wb,Ext wr wb->vQ (jf0 (ks k)) #[x,.string (p++nib1 k),.slice a2 m c2] wb (EnP w0 (E++entK ks p k++entP (ks k) (p++nib1 k)))from fun wb e=>b3.o k hlt hn w0 wb T x (Dk k) (p++nib1 k) _ m (kk - 1) _ O (by rw[<-K];exact X.o.mono e) a1.2 (by rw[jc8];have:(nib1 k).size=1:=rfl;have:=a6.o;have:=a1.1;omega) (by have:=b9.o;have:=b7.o;omega));have Z:=Hd A;have b1:(k:Int) < 256:=vO
    have d0:p.size+(nib1 k).size<=900001:=by have:(nib1 k).size=1:=rfl;have:=a6.o;omega
    have b2:(k:Int) < 16:=vO
    clear A hn hv O a9 a1 c0;subst K;go_wp2_with fail
    refine (a0.o _ ((ExtR wr).alloc _)).mono ?_;rintro e w2 ⟨v2,m2,rfl,a4⟩;have c1:=Hd a4
    obtain⟨a3,c3,c4⟩:=a4.sl
    subst c4;clear a4;go_wp2_with fail
    go_roundw
    case rel=>exact⟨k+1,m2,by omega,by go_num,by rw[Z.o, <-cB];exact c1.o⟩
    case measure=>exact vJ
  ·obtain rfl:k=16:=vO
   subst K;go_wp2_with fail
   go_ret
   exact⟨_,_,rfl,X.o⟩
end
theorem jnv:∀ (P:PA),EntC P
 | .nil=>fun w0 W T x D p v n k E h _ _ _ _=>by cases h.at'
 | .no=>fun w0 W T x D p v n k E h o _ _ _=>by
  have e:Value.iface T x=noV:=h.at';unfold noV at e;injection e with e1 e2;subst e1 e2;show Calls _ _ _ W (EnP w0 (E++[]));rw[cC];exact jxq w0 W p v n E o
 | .leaf q u=>fun w0 W T x D p v n k E h o A J H=>by
  obtain⟨b,e,h1,K⟩:=h.at'
  unfold jjj at e;injection e with e1 e2;subst e1 e2;have A:q.size<=k:=A;have H:n+1<=100000:=H;exact jzm w0 W q u p b K v n E o vO vO
 | .ext q m=>fun w0 W T x D p v n k E h o A J H=>by
  obtain⟨b,T',x',Dn,e,h1,K,X,h4,h5⟩:=h.at'
  unfold extV at e;injection e with e1 e2;subst e1 e2;have H:n+(1+cntP m)<=100000:=H;have h1:=A.1;exact jy4 w0 W q m T' x' Dn b K X (fun z hz=>h.lt z (h5 z hz)) p v n (k - q.size) E o A.2 (by rw[jc8];omega) vO (jnv m)
 | .br u ks=>fun w0 W T x D p v n k E h o A J H=>by
  obtain⟨b,O,Q,e,h1,K,X,h4⟩:=h.at'
  unfold brV at e;injection e with e1 e2;subst e1 e2;have hb:BrRd u ks b O Q w0:=⟨K,fun i hi=>⟨(X i hi).1,fun z hz=>h.lt z ((X i hi).2.2 z hz)⟩⟩;have H:n+(1+sumF (fun i=>cntP (ks i)) 16)<=100000:=H;have Z:∀ i,i < 16->(ks i).isNil=false->EntC (ks i):=fun i _ _=>jnv (ks i);show Calls _ _ _ W (EnP w0 (E++((if u.size=0 then []else keyR p u)++entK ks p 16)));unfold keyR;rw[<-cB]
  by_cases hu:u.size=0
  ·rw[if_pos hu,cC]
   cases ho:jem p with
   | true=>exact jt3 w0 W u p ks b O Q hb v n k E o A J vO Z ho hu
   | false=>exact jq8 w0 W u p ks b O Q hb v n k E o A J vO Z ho
  ·rw[if_neg hu]
   cases ho:jem p with
   | true=>rw[if_pos rfl];exact jt4 w0 W u p ks b O Q hb v n k E o A J vO Z ho hu
   | false=>rw[if_neg ff,cC];exact jq8 w0 W u p ks b O Q hb v n k E o A J vO Z ho
def malE:vV:=.iface 31 (.int .i64 2)
def Fa1(W0 W:vW)(v:vV):Prop:=∃ (b:Nat) (k:Int),v=.iface 237 (.pointer (some ⟨b,0,none⟩))/\Blk W b (.cells #[.int .i64 k,malE] 239)/\W0.heap.size<=b
def MalP(w:vW)(e:Ending)(w':vW):Prop:=∃ v,e=.returned v/\Ext w w'/\Fa1 w w' v
theorem jbP(w:vW)(k:Int):vQ 176 #[.int .i64 k] w (MalP w):=by
 go_enter Tryz.func176,Tryz.ntmps176;go_wp2_with fail
 go_ret
 exact⟨_,rfl,(ExtR w).alloc _,_,k,rfl,Blk.new w _,bM _⟩
def jAe(w:vW)(e:Ending)(w':vW):Prop:=∃ v,e=.returned (.tuple #[.int .i64 0,v])/\Ext w w'/\Fa1 w w' v
def jwq(s:vB)(to:Nat)(w:vW)(n i:vV)(wr:vW):Prop:=∃ k:Nat,1<=k/\k<=to/\i=.int .i64 k/\n=.int .i64 (beN ((s.data.toList.take k).drop 1))/\beN ((s.data.toList.take k).drop 1)<=1048576/\wr=w
theorem jlY(w:vW)(s:vB)(to:Nat)(hs:s.size<=1000000000)(h2:2<=to)(h9:to<=1000)(h:lenB s to=none):vQ 177 #[.string s,.int .i64 to] w (jAe w):=by
 by_cases hto:s.size < to
 ·have c0:(s.size:Int) < (to:Int):=vO
  clear h;go_enter Tryz.func177,Tryz.ntmps177;go_wp2_with fail
  refine (jbP w s.size).mono ?_;rintro e w1 ⟨v,rfl,A,J⟩
  obtain⟨b,k,rfl,E⟩:=J
  have H:=Hd (bB A E);clear A E;go_wp2_with fail
  go_ret2
  exact⟨_,rfl,H.o.1,b,k,rfl,H.o.2⟩
 have c0:¬(s.size:Int) < (to:Int):=vO
 have c1:(1:Int) < (s.size:Int):=vO
 by_cases hz:(s[1]'(by omega)).toNat=0
 ·have a3:(((s[1]'(by omega)).toNat:Int) == 0)=true:=by simp[hz]
  clear h;go_enter Tryz.func177,Tryz.ntmps177;go_wp2_with fail
  refine (jbP w 1).mono ?_;rintro e w1 ⟨v,rfl,A,J⟩
  obtain⟨b,k,rfl,E⟩:=J
  have H:=Hd (bB A E);clear A E;go_wp2_with fail
  go_ret2
  exact⟨_,rfl,H.o.1,b,k,rfl,H.o.2⟩
 have a3:(((s[1]'(by omega)).toNat:Int) == 0)=false:=by simpa using hz
 have HH:=Hd (show ¬(55 < beN ((s.data.toList.take to).drop 1)/\beN ((s.data.toList.take to).drop 1)<=1048576)from fun hc=>by
  unfold lenB at h;rw[if_neg ?_,if_pos hc]at h
  ·cases h
  ·rintro (X | X)
   ·exact hto X
   ·rw[bC,bA (by simp;omega)]at X
    have X:(s[1]'(by omega))=0:=X;exact hz (by rw[X];rfl))
 clear h hz;go_enter Tryz.func177,Tryz.ntmps177;go_wp2_with fail
 go_loopw [6,7] (fun m i wr=>jwq s to w m i wr) (fun _ i _=>to - (intOf i).toNat)
 case atStart=>exact⟨1,bM _,by omega,rfl,by simp[beN],by simp[beN],rfl⟩
 case round =>
  obtain⟨k,a4,a7,rfl,rfl,K,rfl⟩:=hrel
  by_cases hlt:k < to
  ·have a5:k < s.size:=vO
   have c2:(k:Int) < (s.size:Int):=vO
   have c3:(k:Int) < (to:Int):=vO
   have Z:=jfN s a4 a5
   obtain⟨m,O⟩:=vE (beN ((s.data.toList.take k).drop 1))
   rw[<-O]at K;have a1:=jsI m s[k] K;have a0:bits BinOp.or .i64 ((m:Int) * 256) (wrap64 (s[k].toNat:Int))=((m * 256+s[k].toNat:Nat):Int):=by
    have hb:=s[k].toNat_lt;rw[<-a1];congr 1;unfold wrap64;omega
   clear a1;have e5:beN ((s.data.toList.take (k+1)).drop 1)=m * 256+s[k].toNat:=by rw[Z,jj9, <-O]
   have H5:=Hd e5;rw[<-O];clear O Z e5
   obtain⟨m',Q⟩:∃ m',m'=m * 256+s[k].toNat:=⟨_,rfl⟩
   rw[<-Q]at a0;have a2:=Hd Q;clear Q
   by_cases hbig:1048576 < m'
   ·have c4:(1048576:Int) < (m':Int):=vO
    go_wp2_with fail
    refine (jbP wr k).mono ?_;rintro e w1 ⟨v,rfl,A,J⟩
    obtain⟨b,kk,rfl,E⟩:=J
    have H:=Hd (bB A E);clear A E;go_wp2_with fail
    go_ret2
    exact⟨_,rfl,H.o.1,b,kk,rfl,H.o.2⟩
   ·have c4:¬(1048576:Int) < (m':Int):=vO
    go_wp2_with fail
    go_roundw
    case rel=>exact⟨k+1,by omega,by omega,by go_num,by rw[H5.o,a2.o],by rw[H5.o, <-a2.o];omega,rfl⟩
    case measure=>exact vJ
  ·have a6:k=to:=vO
   subst a6;have c3:¬(k:Int) < (k:Int):=vO
   obtain⟨m,O⟩:=vE (beN ((s.data.toList.take k).drop 1))
   have hh:=HH.o;rw[<-O]at K hh ⊢;have c4:¬(55:Int) < (m:Int):=vO
   clear O hh;go_wp2_with fail
   refine (jbP wr 1).mono ?_;rintro e w1 ⟨v,rfl,A,J⟩
   obtain⟨b,kk,rfl,E⟩:=J
   have H:=Hd (bB A E);clear A E;go_wp2_with fail
   go_ret2
   exact⟨_,rfl,H.o.1,b,kk,rfl,H.o.2⟩
end Go.Proofs.YtegloohdmjadoaaGreatDoor
