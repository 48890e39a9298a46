/- Lemmas; each is under no condition but those that it states. -/
import Derived.Test.YtcpnjmcipainpaaGreatDoorPr43
namespace Go.Proofs.YtcpnjmcipainpaaGreatDoor
set_option linter.unusedSimpArgs false
set_option linter.unusedVariables false
set_option maxRecDepth 100000
set_option maxHeartbeats 16000000
section
open Go Go.RowKit
attribute [local go_sem] Oper.semAt_some
theorem jlq(w:World)(p v:vB)(rs:List vB)(hr:rs.length=16):vR 168 #[jad.V ⟨0,p,v,rs⟩] w (.string (jaN ⟨0,p,v,rs⟩)):=by
 unfold jad.V;have e0:(jad.cells ⟨0,p,v,rs⟩)[0]?=some (.int .i64 0):=rfl;rw[show jaN ⟨0,p,v,rs⟩=jao ⟨#[]⟩from rfl]
 obtain⟨R,hR⟩:=vE (jao ⟨#[]⟩)
 have HR:=Hd (fun w1=>jdR w1 ⟨#[]⟩ vI);rw[<-hR]at HR ⊢;clear hR;go_enter Tryz.func168,Tryz.ntmps168;go_wp2_with fail
 refine vC (HR.o _) fun w1 hE=>?_;have HE:=Hd (((ExtR w).alloc _).trans hE);clear hE;go_wp2_with fail
 go_ret
 exact⟨rfl,HE.o⟩
theorem jlp(w:World)(p v:vB)(rs:List vB)(hr:rs.length=16)(hp:p.size<=12)(hv:v.size<=80)(hpv:jat p=true):vR 168 #[jad.V ⟨1,p,v,rs⟩] w (.string (jaN ⟨1,p,v,rs⟩)):=by
 have hs1:=jbi p true;have hs2:=jaK (putB p true);have hs3:=jaK v;have e0:(jad.cells ⟨1,p,v,rs⟩)[0]?=some (.int .i64 1):=rfl;have e1:(jad.cells ⟨1,p,v,rs⟩)[1]?=some (.string p):=rfl;have e2:(jad.cells ⟨1,p,v,rs⟩)[2]?=some (.string v):=rfl
 obtain⟨r0,e3⟩:∃ r0,(jad.cells ⟨1,p,v,rs⟩)[3]?=some (.string r0):=by
  cases rs with
  | nil=>cases hr
  | cons r0 rs=>exact⟨r0,rfl⟩
 unfold jad.V
 obtain⟨C,hC⟩:=vE (jad.cells ⟨1,p,v,rs⟩)
 have hCl:C.length=19:=by rw[hC];exact jad.cells_len _ hr
 rw[<-hC]at e0 e1 e2 e3 ⊢;have HP:=Hd (fun w1=>jlC w1 p true vO hpv)
 obtain⟨put,hput⟩:=vE (putB p true)
 rw[<-hput]at hs1 hs2 HP;have HL:=Hd (show jaN ⟨1,p,v,rs⟩=ja4 [jao put,jao v] by rw[hput];rfl);have HT1:=Hd (fun w1=>jdR w1 put vO);have HT2:=Hd (fun w1=>jdR w1 v vO);have HLS:=Hd (show (catB [jao put,jao v]).size<=1000000 by rw[ja1,ja1,jcu];omega)
 obtain⟨t1,ht1⟩:=vE (jao put)
 obtain⟨t2,ht2⟩:=vE (jao v)
 rw[<-ht1]at HL HT1 HLS;rw[<-ht2]at HL HT2 HLS;rw[HL.o];clear hs1 hs2 hs3 hC hCl hput ht1 ht2 hp hv hr;go_enter Tryz.func168,Tryz.ntmps168;go_wp2_with fail
 have hB0:=Blk.new w (.cells C.toArray 144)
 obtain⟨W0,hW0⟩:=vE (w.alloc (.cells C.toArray 144))
 have HE0:=Hd (show Ext w W0 by rw[hW0];exact (ExtR w).alloc _);rw[<-hW0]at hB0 ⊢
 obtain⟨g,hg⟩:=vE w.heap.size
 rw[<-hg]at hB0 ⊢;have HB0:=Hd hB0;have HCE:=Hd (And.intro e0 (And.intro e2 e3));clear hW0 hg hB0 e0 e1 e2 e3;refine vC (HP.o W0) fun w1 hE=>?_;have HE1:=Hd (HE0.o.trans hE);have hB1:=HB0.o.keeps hE (fun h=>h);have q0:=hB1.cellL HCE.o.1;have q2:=hB1.cellL HCE.o.2.1;have q3:=hB1.cellL HCE.o.2.2;clear hE hB1;go_wp2_with fail
 refine vC (HT2.o w1) fun w2 hE=>?_;have HE2:=Hd (HE1.o.trans hE);clear hE q0 q2 q3;go_wp2_with fail
 refine vC (HT1.o w2) fun w3 hE=>?_;have HE3:=Hd (HE2.o.trans hE);clear hE;go_wp2_with fail
 refine vC (jj3 _ _ [t1,t2] (jdb w3 [t1,t2] 9) (by simp) HLS.o) fun w4 hE=>?_;have HE4:=Hd (HE3.o.trans (((ExtR w3).alloc _).trans hE));clear hE
 obtain⟨R,hR⟩:=vE (ja4 [t1,t2])
 rw[<-hR];go_wp2_with fail
 go_ret
 exact⟨rfl,HE4.o⟩
theorem jmB(w:World)(p v r0:vB)(rs:List vB)(hp:p.size<=12)(hv:r0.size<=80)(hpv:jat p=true):vR 168 #[jad.V ⟨2,p,v,r0 :: rs⟩] w (.string (jaN ⟨2,p,v,r0 :: rs⟩)):=by
 have hs1:=jbi p false;have hs2:=jaK (putB p false);have e0:(jad.cells ⟨2,p,v,r0 :: rs⟩)[0]?=some (.int .i64 2):=rfl;have e1:(jad.cells ⟨2,p,v,r0 :: rs⟩)[1]?=some (.string p):=rfl;have e2:(jad.cells ⟨2,p,v,r0 :: rs⟩)[2]?=some (.string v):=rfl;have e3:(jad.cells ⟨2,p,v,r0 :: rs⟩)[3]?=some (.string r0):=rfl;unfold jad.V
 obtain⟨C,hC⟩:=vE (jad.cells ⟨2,p,v,r0 :: rs⟩)
 rw[<-hC]at e0 e1 e2 e3 ⊢;have HP:=Hd (fun w1=>jlC w1 p false vO hpv)
 obtain⟨put,hput⟩:=vE (putB p false)
 rw[<-hput]at hs1 hs2 HP;have HL:=Hd (show jaN ⟨2,p,v,r0 :: rs⟩=ja4 [jao put,r0] by rw[hput];rfl);have HT1:=Hd (fun w1=>jdR w1 put vO);have HLS:=Hd (show (catB [jao put,r0]).size<=1000000 by rw[ja1,ja1,jcu];omega)
 obtain⟨t1,ht1⟩:=vE (jao put)
 rw[<-ht1]at HL HT1 HLS;rw[HL.o];clear hs1 hs2 hC hput ht1 hp hv;go_enter Tryz.func168,Tryz.ntmps168;go_wp2_with fail
 have hB0:=Blk.new w (.cells C.toArray 144)
 obtain⟨W0,hW0⟩:=vE (w.alloc (.cells C.toArray 144))
 have HE0:=Hd (show Ext w W0 by rw[hW0];exact (ExtR w).alloc _);rw[<-hW0]at hB0 ⊢
 obtain⟨g,hg⟩:=vE w.heap.size
 rw[<-hg]at hB0 ⊢;have HB0:=Hd hB0;have HCE:=Hd (And.intro e0 (And.intro e2 e3));clear hW0 hg hB0 e0 e1 e2 e3;refine vC (HP.o W0) fun w1 hE=>?_;have HE1:=Hd (HE0.o.trans hE);have hB1:=HB0.o.keeps hE (fun h=>h);have q0:=hB1.cellL HCE.o.1;have q2:=hB1.cellL HCE.o.2.1;have q3:=hB1.cellL HCE.o.2.2;clear hE hB1;go_wp2_with fail
 refine vC (HT1.o w1) fun w3 hE=>?_;have HE3:=Hd (HE1.o.trans hE);clear hE q0 q2 q3;go_wp2_with fail
 refine vC (jj3 _ _ [t1,r0] (jdb w3 [t1,r0] 9) (by simp) HLS.o) fun w4 hE=>?_;have HE4:=Hd (HE3.o.trans (((ExtR w3).alloc _).trans hE));clear hE
 obtain⟨R,hR⟩:=vE (ja4 [t1,r0])
 rw[<-hR];go_wp2_with fail
 go_ret
 exact⟨rfl,HE4.o⟩
theorem jhY(v:vB)(rs:List vB)(hr:rs.length=16):jaN ⟨3,⟨#[]⟩,v,rs⟩=ja4 (ja0 rs v):=by
 show jdN ⟨3,⟨#[]⟩,v,rs⟩=_;unfold jdN;rw[jdl _ hr]
def itB(r:vB):vB:=if r.size=0 then jao ⟨#[]⟩else r
def Rb4R(W:World)(rs:List vB)(lv iv xv:Value)(wr:World):Prop:=∃ k:Nat,k<=16/\iv=.int .i64 k/\ORow 9 1 W wr lv k (((rs.map itB).take k).map Value.string)
theorem jiy(w:World)(v:vB)(rs:List vB)(hr:rs.length=16)(hv:v.size<=80)(hz:(catB (ja0 rs v)).size<=100000):vR 168 #[jad.V ⟨3,⟨#[]⟩,v,rs⟩] w (.string (jaN ⟨3,⟨#[]⟩,v,rs⟩)):=by
 rw[jhY v rs hr];have HRL:=Hd hr;have HZ:=Hd hz;have HBX:=Hd (show ja0 rs v=rs.map itB++[jao v]from rfl);have e0:(jad.cells ⟨3,⟨#[]⟩,v,rs⟩)[0]?=some (.int .i64 3):=rfl;have e2:(jad.cells ⟨3,⟨#[]⟩,v,rs⟩)[2]?=some (.string v):=rfl;have eR:∀ (k:Nat) x,rs[k]?=some x->(jad.cells ⟨3,⟨#[]⟩,v,rs⟩)[3+k]?=some (.string x):=fun k x hx=>by
  show (Value.int .i64 3 :: .string ⟨#[]⟩ :: .string v :: rs.map Value.string)[3+k]?=_;rw[show 3+k=k+1+1+1 by omega];simp[hx]
 unfold jad.V
 obtain⟨C,hC⟩:=vE (jad.cells ⟨3,⟨#[]⟩,v,rs⟩)
 rw[<-hC]at e0 e2 eR ⊢;have HTE:=Hd (fun w1=>jdR w1 ⟨#[]⟩ vI);have HTV:=Hd (fun w1=>jdR w1 v vO);have HER:=Hd eR;clear hC hr hv hz eR;go_enter Tryz.func168,Tryz.ntmps168;go_wp2_with fail
 have hB0:=Blk.new w (.cells C.toArray 144)
 obtain⟨W0,hW0⟩:=vE (w.alloc (.cells C.toArray 144))
 have HE0:=Hd (show Ext w W0 by rw[hW0];exact (ExtR w).alloc _);rw[<-hW0]at hB0 ⊢
 obtain⟨g,hg⟩:=vE w.heap.size
 rw[<-hg]at hB0 ⊢;have HB0:=Hd hB0;have HE2:=Hd e2;clear hW0 hg hB0 e0 e2;go_loopw [6,7,8] (fun lv iv xv wr=>Rb4R W0 rs lv iv xv wr) (fun _ iv _ _=>16 - (intOf iv).toNat)
 case atStart=>exact⟨0,by omega,rfl,ORow.nil _ _ (ExtR W0)⟩
 case round =>
  obtain⟨k,hk,rfl,hR⟩:=hrel
  have HR:=Hd hR
  obtain⟨la,lc,rfl⟩:=hR.sl;clear hR
  by_cases hlt:k < 16
  ·have b1:(k:Int) < 16:=by omega
   obtain⟨x,hx⟩:∃ x,rs[k]?=some x:=⟨_,List.getElem?_eq_getElem (by have:=HRL.o;omega)⟩
   have q1:wr.cell? ⟨g,3+k,none⟩=some (.string x):=(HB0.o.keeps HR.o.ext (fun h=>h)).cellL (HER.o k x hx);have HTK:=Hd (show (rs.map itB).take (k+1)=(rs.map itB).take k++[itB x] by rw[List.take_add_one,List.getElem?_map,hx];rfl);have hm1:k+1<=maxLen:=by unfold maxLen;omega
   have hm2:(k+1) * 16<=140737488355328:=by omega
   clear hx
   by_cases hx0:x=⟨#[]⟩
   ·subst hx0
    rw[show itB ⟨#[]⟩=jao ⟨#[]⟩from rfl]at HTK
    obtain⟨t0,ht0⟩:=vE (jao ⟨#[]⟩)
    rw[<-ht0]at HTK;have HT0:=Hd ht0;clear ht0;go_wp2_with fail
    refine vC (HTE.o wr) fun w1 hE=>?_;have HR1:=Hd (HR.o.mono hE);rw[<-HT0.o];clear hE q1;go_wp2_with (at_builtin;refine jba Tryz.sStrs (HR1.o.mono ((ExtR w1).alloc _)) (.tmp 50) (.tmp 52) rfl rfl rfl (jaS (Blk.new w1 _)) (news:=[.string t0]) (by intro u hu;simp at hu;subst hu;rfl) rfl rfl hm1 hm2 ?_;intro v' w' r1 r2 r3)
    have r1':ORow 9 1 W0 w' v' (k+1) (((rs.map itB).take (k+1)).map Value.string):=by rw[HTK.o,List.map_append];exact r1
    obtain⟨a8,c8,rfl⟩:=r1'.sl
    have HR5:=Hd r1';clear r1 r2 r3 r1';go_wp2_with fail
    go_roundw
    case rel=>exact⟨k+1,by omega,by go_num,HR5.o⟩
    case measure=>simp[intOf];omega
   ·have hxs:x.size≠0:=fun e=>hx0 (jbt (List.eq_nil_of_length_eq_zero e))
    have hxm:x.toList.isEmpty=false:=by
     rw[ByteArray.toList_eq];cases h:x.data.toList with
     | nil=>exact absurd (show x.size=0 by show x.data.toList.length=0;rw[h];rfl) hxs
     | cons=>rfl
    rw[show itB x=x by unfold itB;rw[if_neg hxs]]at HTK;clear hx0 hxs;go_wp2_with (at_builtin;refine jba Tryz.sStrs (HR.o.mono ((ExtR wr).alloc _)) (.tmp 50) (.tmp 52) rfl rfl rfl (jaS (Blk.new wr _)) (news:=[.string x]) (by intro u hu;simp at hu;subst hu;rfl) rfl rfl hm1 hm2 ?_;intro v' w' r1 r2 r3)
    have r1':ORow 9 1 W0 w' v' (k+1) (((rs.map itB).take (k+1)).map Value.string):=by rw[HTK.o,List.map_append];exact r1
    obtain⟨a8,c8,rfl⟩:=r1'.sl
    have HR5:=Hd r1';clear r1 r2 r3 r1';go_wp2_with fail
    go_roundw
    case rel=>exact⟨k+1,by omega,by go_num,HR5.o⟩
    case measure=>simp[intOf];omega
  ·have hk16:k=16:=by omega
   subst hk16;have HRR:=Hd (show ORow 9 1 W0 wr (.slice la 16 lc) 16 ((rs.map itB).map Value.string) by
    have h:=HR.o
    rwa [List.take_of_length_le (by rw[List.length_map];have:=HRL.o;omega)]at h)
   have q2:=(HB0.o.keeps HR.o.ext (fun h=>h)).cellL HE2.o;have b1:¬((16:Nat):Int) < 16:=by omega
   obtain⟨tv,htv⟩:=vE (jao v)
   rw[<-htv]at HTV HBX;clear HR htv;go_wp2_with fail
   refine vC (HTV.o wr) fun w1 hE=>?_;have HR1:=Hd (HRR.o.mono hE);clear hE q2;go_wp2_with (at_builtin;refine jba Tryz.sStrs (HR1.o.mono ((ExtR w1).alloc _)) (.tmp 54) (.tmp 58) rfl rfl rfl (jaS (Blk.new w1 _)) (news:=[.string tv]) (by intro u hu;simp at hu;subst hu;rfl) rfl rfl vI vI ?_;intro v' w' r1 r2 r3)
   have HF:=Hd (show SRow W0 w' v' 17 (ja0 rs v) by
    rw[HBX.o];show ORow 9 1 W0 w' v' 17 _;rw[List.map_append];exact r1)
   clear r1 r2 r3;refine vC (jj3 w' v' (ja0 rs v) HF.o.rd (by have:=HF.o.len;simp at this;omega) (by have:=HZ.o;omega)) fun w4 hE=>?_;have HE4:=Hd (HE0.o.trans (HF.o.ext.trans hE));clear hE
   obtain⟨R,hR⟩:=vE (ja4 (ja0 rs v))
   rw[<-hR];go_wp2_with fail
   go_ret
   exact⟨rfl,HE4.o⟩
end
section
open Go Go.RowKit
attribute [local go_sem] Oper.semAt_some
structure InlR(I:vB->jad->Prop):Prop where
 small:∀ r m,I r m->r.size < 32
 refs:∀ r m,I r m->m.refs.length=16
 inl:∀ r m,I r m->∀ w,vR 209 #[.string r] w (.tuple #[m.V,.bool true])
theorem jic(w:World)(r:vB)(hr:32<=r.size):vR 209 #[.string r] w (.tuple #[jar.V,.bool false]):=by
 have b0:(32:Int)<=(r.size:Int):=by omega
 go_enter Tryz.func209,Tryz.ntmps209;go_wp2_with (first |(refine jah Tryz.allocNode rfl rfl ?_;intro W1 hB1 hE1) |(refine jag (vs:=jar.cells) rfl rfl rfl rfl hB1 vF Tryz.szNode jar.one ?_;intro W2 hB2 hE2))
 refine bodyPost_ret (jax rfl rfl rfl (jap W2 _ jar rfl hB2)) rfl ?_
 exact⟨rfl,hE1.trans' hE2 (fun x hx e=>by have e:x=w.heap.size:=e;omega)⟩
theorem jlx(w:World)(s:vB)(n:jad)(h1:n.refs.length=16)(hk:n.kind≠0)(hsm:s.size < 32)(hread:∀ w,vR 237 #[.string s] w (.tuple #[n.V,.bool true])):vR 209 #[.string s] w (.tuple #[n.V,.bool true]):=by
 have c1:¬(32:Int)<=(s.size:Int):=by omega
 have c2:((n.kind:Int) == 0)=false:=by simp;omega
 have c3:¬(n.kind:Int)=0:=by omega
 have HRD:=Hd hread;have H1:=Hd h1;have HL:=Hd (n.cells_len h1);clear h1 hk hread;unfold jad.V at HRD ⊢;go_enter Tryz.func209,Tryz.ntmps209;go_wp2_with (refine jah Tryz.allocNode rfl rfl ?_;intro W1 hB1 hE1)
 refine vC (HRD.o W1) fun w2 hE=>?_;have hB2:=hB1.keeps hE (fun h=>h);have HE2:=Hd (hE1.trans hE);clear hB1 hE1 hE;go_wp2_with (first |(refine jah Tryz.allocNode rfl rfl ?_;intro W3 hB3 hE3;refine jag (vs:=n.cells) rfl rfl rfl rfl hB3 (by rw[HL.o];rfl) (by rw[HL.o];exact Tryz.szNode) n.one ?_;intro W4 hB4 hE4;have q0:W4.cell? ⟨w2.heap.size,0,none⟩=some (.int .i64 (n.kind:Int)):=hB4.cellL vF;have hB24:=(hB2.keeps hE3 (fun h=>h)).keeps hE4 (by have:=hB2.lt;omega)) |(refine jaf 144 (.tmp 4) rfl rfl _ _ rfl (jan _ _ n H1.o hB4) ?_) |(refine jag (vs:=n.cells) rfl rfl rfl rfl hB24 (by rw[HL.o];rfl) (by rw[HL.o];exact Tryz.szNode) n.one ?_;intro W8 hB8 hE8))
 refine bodyPost_ret (jax rfl rfl rfl (jap W8 _ n H1.o hB8)) rfl ?_;have hX4:Ext w2 W4:=hE3.trans' hE4 (fun x hx e=>by have e:x=w2.heap.size:=e;omega)
 exact⟨rfl,(HE2.o.trans hX4).trans' hE8 (fun x hx e=>by have e:x=w.heap.size:=e;omega)⟩
section
variable {I:vB->jad->Prop} (HI:InlR I)
include HI
theorem ji7(w:World)(r:vB)(hr:MayP I r):vR 210 #[.string r] w (.bool true):=by
 rcases hr with⟨h,hs,rfl⟩ |⟨m,hm⟩
 ·have HH:=Hd (fun w1=>jtK w1 h hs)
  have HN:=Hd (fun w1=>jic w1 (jao h) (by rw[juy hs,ByteArray.size_append,hs];decide))
  obtain⟨t,ht⟩:=vE (jao h)
  rw[<-ht]at HH HN ⊢;clear ht hs;go_enter Tryz.func210,Tryz.ntmps210;go_wp2_with fail
  refine (HH.o w).mono ?_;rintro e w1 ⟨rfl,rfl⟩;go_wp2_with fail
  refine vC (HN.o w) fun w2 hE=>?_;have HE:=Hd hE;clear hE;unfold jad.V;go_wp2_with (first |(refine jah Tryz.allocNode rfl rfl ?_;intro W3 hB3 hE3;refine jag (vs:=jar.cells) rfl rfl rfl rfl hB3 rfl Tryz.szNode jar.one ?_;intro W4 hB4 hE4))
  go_ret
  exact⟨rfl,HE.o.trans (hE3.trans' hE4 (fun x hx e=>by have e:x=w2.heap.size:=e;omega))⟩
 ·have hsm:=HI.small r m hm
  have HM:=Hd (HI.inl r m hm);have HL:=Hd (m.cells_len (HI.refs r m hm));unfold jad.V at HM;have HH:=Hd (fun w1=>jrz w1 r hsm);clear hsm hm;go_enter Tryz.func210,Tryz.ntmps210;go_wp2_with fail
  refine (HH.o w).mono ?_;rintro e w1 ⟨rfl,rfl⟩;go_wp2_with fail
  refine vC (HM.o w) fun w2 hE=>?_;have HE:=Hd hE;clear hE;go_wp2_with (first |(refine jah Tryz.allocNode rfl rfl ?_;intro W3 hB3 hE3;refine jag (vs:=m.cells) rfl rfl rfl rfl hB3 (by rw[HL.o];rfl) (by rw[HL.o];exact Tryz.szNode) m.one ?_;intro W4 hB4 hE4))
  go_ret
  exact⟨rfl,HE.o.trans (hE3.trans' hE4 (fun x hx e=>by have e:x=w2.heap.size:=e;omega))⟩
end
end
end Go.Proofs.YtcpnjmcipainpaaGreatDoor
