/- Parts of the proof, one behind the other: RefRb, RefRc, PairEq, CanonPb, FewB, SmallA, EqlP, RefRd, RefRe, RefPm, RefPe, RefRf, RefRg, EntRow, RefSa, PreB, RefSb, RefSc. Each is under no condition but those that it states. -/
import Derived.Test.YtcpnjmcipainpaaGreatDoorPb23
import Derived.Test.YtcpnjmcipainpaaGreatDoorPb13
import Derived.Test.YtcpnjmcipainpaaGreatDoorPb20
import Derived.Test.YtcpnjmcipainpaaGreatDoorPb21
import Derived.Test.YtcpnjmcipainpaaGreatDoorPb22
import Derived.Test.YtcpnjmcipainpaaGreatDoorPb10
import Derived.Test.YtcpnjmcipainpaaGreatDoorPb4
namespace Go.Proofs.YtcpnjmcipainpaaGreatDoor
set_option linter.unusedSimpArgs false
set_option linter.unusedVariables false
set_option maxRecDepth 100000
set_option maxHeartbeats 16000000
section
open Go Go.RowKit
attribute [local go_sem] Oper.semAt_some
theorem jgV(w:World)(p v:ByteArray)(rs:List ByteArray)(hr:rs.length=16):Calls Tryz.prog 168 #[jae.V ⟨0,p,v,rs⟩] w fun e w'=>e=.returned (.string (jaV ⟨0,p,v,rs⟩))∧Ext w w':=by
 unfold jae.V;have e0:(jae.cells ⟨0,p,v,rs⟩)[0]?=some (.int .i64 0):=rfl;rw[show jaV ⟨0,p,v,rs⟩=jam ⟨#[]⟩from rfl]
 obtain⟨R,hR⟩:∃ R,R=jam ⟨#[]⟩:=⟨_,rfl⟩
 have HR:=Hd (fun w1=>jct w1 ⟨#[]⟩ (by decide));rw[←hR]at HR ⊢;clear hR;go_enter Tryz.func168,Tryz.ntmps168;go_wp2_with fail
 refine (HR.o _).mono ?_;rintro e w1 ⟨rfl,hE⟩;have HE:=Hd (((ExtR w).alloc _).trans hE);clear hE;go_wp2_with fail
 go_ret
 exact⟨rfl,HE.o⟩
theorem jgU(w:World)(p v:ByteArray)(rs:List ByteArray)(hr:rs.length=16)(hp:p.size≤12)(hv:v.size≤80)(hpv:jaO p=true):Calls Tryz.prog 168 #[jae.V ⟨1,p,v,rs⟩] w fun e w'=>e=.returned (.string (jaV ⟨1,p,v,rs⟩))∧Ext w w':=by
 have hs1:=jaY p true;have hs2:=jaA (putB p true);have hs3:=jaA v;have e0:(jae.cells ⟨1,p,v,rs⟩)[0]?=some (.int .i64 1):=rfl;have e1:(jae.cells ⟨1,p,v,rs⟩)[1]?=some (.string p):=rfl;have e2:(jae.cells ⟨1,p,v,rs⟩)[2]?=some (.string v):=rfl
 obtain⟨r0,e3⟩:∃ r0,(jae.cells ⟨1,p,v,rs⟩)[3]?=some (.string r0):=by
  cases rs with
  | nil=>cases hr
  | cons r0 rs=>exact⟨r0,rfl⟩
 unfold jae.V
 obtain⟨C,hC⟩:∃ C,C=jae.cells ⟨1,p,v,rs⟩:=⟨_,rfl⟩
 have hCl:C.length=19:=by rw[hC];exact jae.cells_len _ hr
 rw[←hC]at e0 e1 e2 e3 ⊢;have HP:=Hd (fun w1=>jg6 w1 p true (by omega) hpv)
 obtain⟨put,hput⟩:∃ put,put=putB p true:=⟨_,rfl⟩
 rw[←hput]at hs1 hs2 HP;have HL:=Hd (show jaV ⟨1,p,v,rs⟩=jaR [jam put,jam v] by rw[hput];rfl);have HT1:=Hd (fun w1=>jct w1 put (by omega));have HT2:=Hd (fun w1=>jct w1 v (by omega));have HLS:=Hd (show (catB [jam put,jam v]).size≤1000000 by rw[jaJ,jaJ,jbC];omega)
 obtain⟨t1,ht1⟩:∃ t1,t1=jam put:=⟨_,rfl⟩
 obtain⟨t2,ht2⟩:∃ t2,t2=jam v:=⟨_,rfl⟩
 rw[←ht1]at HL HT1 HLS;rw[←ht2]at HL HT2 HLS;rw[HL.o];clear hs1 hs2 hs3 hC hCl hput ht1 ht2 hp hv hr;go_enter Tryz.func168,Tryz.ntmps168;go_wp2_with fail
 have hB0:=Blk.new w (.cells C.toArray 144)
 obtain⟨W0,hW0⟩:∃ W0,W0=w.alloc (.cells C.toArray 144):=⟨_,rfl⟩
 have HE0:=Hd (show Ext w W0 by rw[hW0];exact (ExtR w).alloc _);rw[←hW0]at hB0 ⊢
 obtain⟨g,hg⟩:∃ g,g=w.heap.size:=⟨_,rfl⟩
 rw[←hg]at hB0 ⊢;have HB0:=Hd hB0;have HCE:=Hd (And.intro e0 (And.intro e2 e3));clear hW0 hg hB0 e0 e1 e2 e3;refine (HP.o W0).mono ?_;rintro e w1 ⟨rfl,hE⟩;have HE1:=Hd (HE0.o.trans hE);have hB1:=HB0.o.keeps hE (fun h=>h);have q0:=hB1.cellL HCE.o.1;have q2:=hB1.cellL HCE.o.2.1;have q3:=hB1.cellL HCE.o.2.2;clear hE hB1;go_wp2_with fail
 refine (HT2.o w1).mono ?_;rintro e w2 ⟨rfl,hE⟩;have HE2:=Hd (HE1.o.trans hE);clear hE q0 q2 q3;go_wp2_with fail
 refine (HT1.o w2).mono ?_;rintro e w3 ⟨rfl,hE⟩;have HE3:=Hd (HE2.o.trans hE);clear hE;go_wp2_with fail
 refine (jgd _ _ [t1,t2] (jbZ w3 [t1,t2] 9) (by simp) HLS.o).mono ?_;rintro e w4 ⟨rfl,hE⟩;have HE4:=Hd (HE3.o.trans (((ExtR w3).alloc _).trans hE));clear hE
 obtain⟨R,hR⟩:∃ R,R=jaR [t1,t2]:=⟨_,rfl⟩
 rw[←hR];go_wp2_with fail
 go_ret
 exact⟨rfl,HE4.o⟩
theorem jhD(w:World)(p v r0:ByteArray)(rs:List ByteArray)(hp:p.size≤12)(hv:r0.size≤80)(hpv:jaO p=true):Calls Tryz.prog 168 #[jae.V ⟨2,p,v,r0 :: rs⟩] w fun e w'=>e=.returned (.string (jaV ⟨2,p,v,r0 :: rs⟩))∧Ext w w':=by
 have hs1:=jaY p false;have hs2:=jaA (putB p false);have e0:(jae.cells ⟨2,p,v,r0 :: rs⟩)[0]?=some (.int .i64 2):=rfl;have e1:(jae.cells ⟨2,p,v,r0 :: rs⟩)[1]?=some (.string p):=rfl;have e2:(jae.cells ⟨2,p,v,r0 :: rs⟩)[2]?=some (.string v):=rfl;have e3:(jae.cells ⟨2,p,v,r0 :: rs⟩)[3]?=some (.string r0):=rfl;unfold jae.V
 obtain⟨C,hC⟩:∃ C,C=jae.cells ⟨2,p,v,r0 :: rs⟩:=⟨_,rfl⟩
 rw[←hC]at e0 e1 e2 e3 ⊢;have HP:=Hd (fun w1=>jg6 w1 p false (by omega) hpv)
 obtain⟨put,hput⟩:∃ put,put=putB p false:=⟨_,rfl⟩
 rw[←hput]at hs1 hs2 HP;have HL:=Hd (show jaV ⟨2,p,v,r0 :: rs⟩=jaR [jam put,r0] by rw[hput];rfl);have HT1:=Hd (fun w1=>jct w1 put (by omega));have HLS:=Hd (show (catB [jam put,r0]).size≤1000000 by rw[jaJ,jaJ,jbC];omega)
 obtain⟨t1,ht1⟩:∃ t1,t1=jam put:=⟨_,rfl⟩
 rw[←ht1]at HL HT1 HLS;rw[HL.o];clear hs1 hs2 hC hput ht1 hp hv;go_enter Tryz.func168,Tryz.ntmps168;go_wp2_with fail
 have hB0:=Blk.new w (.cells C.toArray 144)
 obtain⟨W0,hW0⟩:∃ W0,W0=w.alloc (.cells C.toArray 144):=⟨_,rfl⟩
 have HE0:=Hd (show Ext w W0 by rw[hW0];exact (ExtR w).alloc _);rw[←hW0]at hB0 ⊢
 obtain⟨g,hg⟩:∃ g,g=w.heap.size:=⟨_,rfl⟩
 rw[←hg]at hB0 ⊢;have HB0:=Hd hB0;have HCE:=Hd (And.intro e0 (And.intro e2 e3));clear hW0 hg hB0 e0 e1 e2 e3;refine (HP.o W0).mono ?_;rintro e w1 ⟨rfl,hE⟩;have HE1:=Hd (HE0.o.trans hE);have hB1:=HB0.o.keeps hE (fun h=>h);have q0:=hB1.cellL HCE.o.1;have q2:=hB1.cellL HCE.o.2.1;have q3:=hB1.cellL HCE.o.2.2;clear hE hB1;go_wp2_with fail
 refine (HT1.o w1).mono ?_;rintro e w3 ⟨rfl,hE⟩;have HE3:=Hd (HE1.o.trans hE);clear hE q0 q2 q3;go_wp2_with fail
 refine (jgd _ _ [t1,r0] (jbZ w3 [t1,r0] 9) (by simp) HLS.o).mono ?_;rintro e w4 ⟨rfl,hE⟩;have HE4:=Hd (HE3.o.trans (((ExtR w3).alloc _).trans hE));clear hE
 obtain⟨R,hR⟩:∃ R,R=jaR [t1,r0]:=⟨_,rfl⟩
 rw[←hR];go_wp2_with fail
 go_ret
 exact⟨rfl,HE4.o⟩
theorem jeX(v:ByteArray)(rs:List ByteArray)(hr:rs.length=16):jaV ⟨3,⟨#[]⟩,v,rs⟩=jaR (jaW rs v):=by
 show jdt ⟨3,⟨#[]⟩,v,rs⟩=_;unfold jdt;rw[jc9 _ hr]
def itB(r:ByteArray):ByteArray:=if r.size=0 then jam ⟨#[]⟩else r
def Rb4R(W:World)(rs:List ByteArray)(lv iv xv:Value)(wr:World):Prop:=∃ k:Nat,k≤16∧iv=.int .i64 k∧ORow 9 1 W wr lv k (((rs.map itB).take k).map Value.string)
theorem jfl(w:World)(v:ByteArray)(rs:List ByteArray)(hr:rs.length=16)(hv:v.size≤80)(hz:(catB (jaW rs v)).size≤100000):Calls Tryz.prog 168 #[jae.V ⟨3,⟨#[]⟩,v,rs⟩] w fun e w'=>e=.returned (.string (jaV ⟨3,⟨#[]⟩,v,rs⟩))∧Ext w w':=by
 rw[jeX v rs hr];have HRL:=Hd hr;have HZ:=Hd hz;have HBX:=Hd (show jaW rs v=rs.map itB++[jam v]from rfl);have e0:(jae.cells ⟨3,⟨#[]⟩,v,rs⟩)[0]?=some (.int .i64 3):=rfl;have e2:(jae.cells ⟨3,⟨#[]⟩,v,rs⟩)[2]?=some (.string v):=rfl;have eR:∀ (k:Nat) x,rs[k]?=some x→(jae.cells ⟨3,⟨#[]⟩,v,rs⟩)[3+k]?=some (.string x):=fun k x hx=>by
  show (Value.int .i64 3 :: .string ⟨#[]⟩ :: .string v :: rs.map Value.string)[3+k]?=_;rw[show 3+k=k+1+1+1 by omega];simp[hx]
 unfold jae.V
 obtain⟨C,hC⟩:∃ C,C=jae.cells ⟨3,⟨#[]⟩,v,rs⟩:=⟨_,rfl⟩
 rw[←hC]at e0 e2 eR ⊢;have HTE:=Hd (fun w1=>jct w1 ⟨#[]⟩ (by decide));have HTV:=Hd (fun w1=>jct w1 v (by omega));have HER:=Hd eR;clear hC hr hv hz eR;go_enter Tryz.func168,Tryz.ntmps168;go_wp2_with fail
 have hB0:=Blk.new w (.cells C.toArray 144)
 obtain⟨W0,hW0⟩:∃ W0,W0=w.alloc (.cells C.toArray 144):=⟨_,rfl⟩
 have HE0:=Hd (show Ext w W0 by rw[hW0];exact (ExtR w).alloc _);rw[←hW0]at hB0 ⊢
 obtain⟨g,hg⟩:∃ g,g=w.heap.size:=⟨_,rfl⟩
 rw[←hg]at hB0 ⊢;have HB0:=Hd hB0;have HE2:=Hd e2;clear hW0 hg hB0 e0 e2;go_loopw [6,7,8] (fun lv iv xv wr=>Rb4R W0 rs lv iv xv wr) (fun _ iv _ _=>16 - (intOf iv).toNat)
 case atStart=>exact⟨0,by omega,rfl,ORow.nil _ _ (ExtR W0)⟩
 case round =>
  obtain⟨k,hk,rfl,hR⟩:=hrel
  have HR:=Hd hR
  obtain⟨la,lc,hsl⟩:=hR.sl
  subst hsl;clear hR
  by_cases hlt:k < 16
  ·have b1:(k:Int) < 16:=by omega
   obtain⟨x,hx⟩:∃ x,rs[k]?=some x:=⟨_,List.getElem?_eq_getElem (by have:=HRL.o;omega)⟩
   have q1:wr.cell? ⟨g,3+k,none⟩=some (.string x):=(HB0.o.keeps HR.o.ext (fun h=>h)).cellL (HER.o k x hx);have HTK:=Hd (show (rs.map itB).take (k+1)=(rs.map itB).take k++[itB x] by rw[List.take_add_one,List.getElem?_map,hx];rfl);have hm1:k+1≤maxLen:=by unfold maxLen;omega
   have hm2:(k+1) * 16≤140737488355328:=by omega
   clear hx
   by_cases hx0:x=⟨#[]⟩
   ·subst hx0
    rw[show itB ⟨#[]⟩=jam ⟨#[]⟩from rfl]at HTK
    obtain⟨t0,ht0⟩:∃ t0,t0=jam ⟨#[]⟩:=⟨_,rfl⟩
    rw[←ht0]at HTK;have HT0:=Hd ht0;clear ht0;go_wp2_with fail
    refine (HTE.o wr).mono ?_;rintro e w1 ⟨rfl,hE⟩;have HR1:=Hd (HR.o.mono hE);rw[←HT0.o];clear hE q1;go_wp2_with (at_builtin;refine jaZ Tryz.sStrs (HR1.o.mono ((ExtR w1).alloc _)) (.tmp 50) (.tmp 52) rfl rfl rfl (jaS (Blk.new w1 _)) (news:=[.string t0]) (by intro u hu;simp at hu;subst hu;rfl) rfl rfl hm1 hm2 ?_;intro v' w' r1 r2 r3)
    have r1':ORow 9 1 W0 w' v' (k+1) (((rs.map itB).take (k+1)).map Value.string):=by rw[HTK.o,List.map_append];exact r1
    obtain⟨a8,c8,rfl⟩:=r1'.sl
    have HR5:=Hd r1';clear r1 r2 r3 r1';go_wp2_with fail
    go_roundw
    case rel=>exact⟨k+1,by omega,by go_num,HR5.o⟩
    case measure=>simp[intOf];omega
   ·have hxs:x.size≠0:=fun e=>hx0 (jdj (List.eq_nil_of_length_eq_zero e))
    have hxm:x.toList.isEmpty=false:=by
     rw[ByteArray.toList_eq];cases h:x.data.toList with
     | nil=>exact absurd (show x.size=0 by show x.data.toList.length=0;rw[h];rfl) hxs
     | cons=>rfl
    rw[show itB x=x by unfold itB;rw[if_neg hxs]]at HTK;clear hx0 hxs;go_wp2_with (at_builtin;refine jaZ Tryz.sStrs (HR.o.mono ((ExtR wr).alloc _)) (.tmp 50) (.tmp 52) rfl rfl rfl (jaS (Blk.new wr _)) (news:=[.string x]) (by intro u hu;simp at hu;subst hu;rfl) rfl rfl hm1 hm2 ?_;intro v' w' r1 r2 r3)
    have r1':ORow 9 1 W0 w' v' (k+1) (((rs.map itB).take (k+1)).map Value.string):=by rw[HTK.o,List.map_append];exact r1
    obtain⟨a8,c8,rfl⟩:=r1'.sl
    have HR5:=Hd r1';clear r1 r2 r3 r1';go_wp2_with fail
    go_roundw
    case rel=>exact⟨k+1,by omega,by go_num,HR5.o⟩
    case measure=>simp[intOf];omega
  ·have hk16:k=16:=by omega
   subst hk16;have HRR:=Hd (show ORow 9 1 W0 wr (.slice la 16 lc) 16 ((rs.map itB).map Value.string) by
    have h:=HR.o
    rwa [List.take_of_length_le (by rw[List.length_map];have:=HRL.o;omega)]at h)
   have q2:=(HB0.o.keeps HR.o.ext (fun h=>h)).cellL HE2.o;have b1:¬((16:Nat):Int) < 16:=by omega
   obtain⟨tv,htv⟩:∃ tv,tv=jam v:=⟨_,rfl⟩
   rw[←htv]at HTV HBX;clear HR htv;go_wp2_with fail
   refine (HTV.o wr).mono ?_;rintro e w1 ⟨rfl,hE⟩;have HR1:=Hd (HRR.o.mono hE);clear hE q2;go_wp2_with (at_builtin;refine jaZ Tryz.sStrs (HR1.o.mono ((ExtR w1).alloc _)) (.tmp 54) (.tmp 58) rfl rfl rfl (jaS (Blk.new w1 _)) (news:=[.string tv]) (by intro u hu;simp at hu;subst hu;rfl) rfl rfl (by decide) (by decide) ?_;intro v' w' r1 r2 r3)
   have HF:=Hd (show SRow W0 w' v' 17 (jaW rs v) by
    rw[HBX.o];show ORow 9 1 W0 w' v' 17 _;rw[List.map_append];exact r1)
   clear r1 r2 r3;refine (jgd w' v' (jaW rs v) HF.o.rd (by have:=HF.o.len;simp at this;omega) (by have:=HZ.o;omega)).mono ?_;rintro e w4 ⟨rfl,hE⟩;have HE4:=Hd (HE0.o.trans (HF.o.ext.trans hE));clear hE
   obtain⟨R,hR⟩:∃ R,R=jaR (jaW rs v):=⟨_,rfl⟩
   rw[←hR];go_wp2_with fail
   go_ret
   exact⟨rfl,HE4.o⟩
end
section
open Go Go.RowKit
attribute [local go_sem] Oper.semAt_some
structure InlR(I:ByteArray→jae→Prop):Prop where
 small:∀ r m,I r m→r.size < 32
 refs:∀ r m,I r m→m.refs.length=16
 inl:∀ r m,I r m→∀ w,Calls Tryz.prog 209 #[.string r] w fun e w'=>e=.returned (.tuple #[m.V,.bool true])∧Ext w w'
theorem je8(w:World)(r:ByteArray)(hr:32≤r.size):Calls Tryz.prog 209 #[.string r] w fun e w'=>e=.returned (.tuple #[jaL.V,.bool false])∧Ext w w':=by
 have b0:(32:Int)≤(r.size:Int):=by omega
 go_enter Tryz.func209,Tryz.ntmps209;go_wp2_with (first |(refine jap Tryz.allocNode rfl rfl ?_;intro W1 hB1 hE1) |(refine jal (vs:=jaL.cells) rfl rfl rfl rfl hB1 (by rfl) Tryz.szNode jaL.one ?_;intro W2 hB2 hE2))
 refine bodyPost_ret (jaB rfl rfl rfl (jax W2 _ jaL rfl hB2)) rfl ?_
 exact⟨rfl,hE1.trans' hE2 (fun x hx e=>by have e:x=w.heap.size:=e;omega)⟩
theorem jg2(w:World)(s:ByteArray)(n:jae)(h1:n.refs.length=16)(hk:n.kind≠0)(hsm:s.size < 32)(hread:∀ w,Calls Tryz.prog 237 #[.string s] w fun e w'=>e=.returned (.tuple #[n.V,.bool true])∧Ext w w'):Calls Tryz.prog 209 #[.string s] w fun e w'=>e=.returned (.tuple #[n.V,.bool true])∧Ext w w':=by
 have c1:¬(32:Int)≤(s.size:Int):=by omega
 have c2:((n.kind:Int) == 0)=false:=by simp;omega
 have c3:¬(n.kind:Int)=0:=by omega
 have HRD:=Hd hread;have H1:=Hd h1;have HL:=Hd (n.cells_len h1);clear h1 hk hread;unfold jae.V at HRD ⊢;go_enter Tryz.func209,Tryz.ntmps209;go_wp2_with (refine jap Tryz.allocNode rfl rfl ?_;intro W1 hB1 hE1)
 refine (HRD.o W1).mono ?_;rintro e w2 ⟨rfl,hE⟩;have hB2:=hB1.keeps hE (fun h=>h);have HE2:=Hd (hE1.trans hE);clear hB1 hE1 hE;go_wp2_with (first |(refine jap Tryz.allocNode rfl rfl ?_;intro W3 hB3 hE3;refine jal (vs:=n.cells) rfl rfl rfl rfl hB3 (by rw[HL.o];rfl) (by rw[HL.o];exact Tryz.szNode) n.one ?_;intro W4 hB4 hE4;have q0:W4.cell? ⟨w2.heap.size,0,none⟩=some (.int .i64 (n.kind:Int)):=hB4.cellL (by rfl);have hB24:=(hB2.keeps hE3 (fun h=>h)).keeps hE4 (by have:=hB2.lt;omega)) |(refine jag 144 (.tmp 4) rfl rfl _ _ rfl (jar _ _ n H1.o hB4) ?_) |(refine jal (vs:=n.cells) rfl rfl rfl rfl hB24 (by rw[HL.o];rfl) (by rw[HL.o];exact Tryz.szNode) n.one ?_;intro W8 hB8 hE8))
 refine bodyPost_ret (jaB rfl rfl rfl (jax W8 _ n H1.o hB8)) rfl ?_;have hX4:Ext w2 W4:=hE3.trans' hE4 (fun x hx e=>by have e:x=w2.heap.size:=e;omega)
 exact⟨rfl,(HE2.o.trans hX4).trans' hE8 (fun x hx e=>by have e:x=w.heap.size:=e;omega)⟩
section
variable {I:ByteArray→jae→Prop} (HI:InlR I)
include HI
theorem jfM(w:World)(r:ByteArray)(hr:MayP I r):Calls Tryz.prog 210 #[.string r] w fun e w'=>e=.returned (.bool true)∧Ext w w':=by
 rcases hr with⟨h,hs,rfl⟩ |⟨m,hm⟩
 ·have HH:=Hd (fun w1=>jlI w1 h hs)
  have HN:=Hd (fun w1=>je8 w1 (jam h) (by rw[jl8 hs,ByteArray.size_append,hs];decide))
  obtain⟨t,ht⟩:∃ t,t=jam h:=⟨_,rfl⟩
  rw[←ht]at HH HN ⊢;clear ht hs;go_enter Tryz.func210,Tryz.ntmps210;go_wp2_with fail
  refine (HH.o w).mono ?_;rintro e w1 ⟨rfl,rfl⟩;go_wp2_with fail
  refine (HN.o w).mono ?_;rintro e w2 ⟨rfl,hE⟩;have HE:=Hd hE;clear hE;unfold jae.V;go_wp2_with (first |(refine jap Tryz.allocNode rfl rfl ?_;intro W3 hB3 hE3;refine jal (vs:=jaL.cells) rfl rfl rfl rfl hB3 rfl Tryz.szNode jaL.one ?_;intro W4 hB4 hE4))
  go_ret
  exact⟨rfl,HE.o.trans (hE3.trans' hE4 (fun x hx e=>by have e:x=w2.heap.size:=e;omega))⟩
 ·have hsm:=HI.small r m hm
  have HM:=Hd (HI.inl r m hm);have HL:=Hd (m.cells_len (HI.refs r m hm));unfold jae.V at HM;have HH:=Hd (fun w1=>jks w1 r hsm);clear hsm hm;go_enter Tryz.func210,Tryz.ntmps210;go_wp2_with fail
  refine (HH.o w).mono ?_;rintro e w1 ⟨rfl,rfl⟩;go_wp2_with fail
  refine (HM.o w).mono ?_;rintro e w2 ⟨rfl,hE⟩;have HE:=Hd hE;clear hE;go_wp2_with (first |(refine jap Tryz.allocNode rfl rfl ?_;intro W3 hB3 hE3;refine jal (vs:=m.cells) rfl rfl rfl rfl hB3 (by rw[HL.o];rfl) (by rw[HL.o];exact Tryz.szNode) m.one ?_;intro W4 hB4 hE4))
  go_ret
  exact⟨rfl,HE.o.trans (hE3.trans' hE4 (fun x hx e=>by have e:x=w2.heap.size:=e;omega))⟩
end
end
section
open Go Go.RowKit
theorem jnN(d:Nat)(a b:ByteArray)(w:World):(Op.equalIn (d+1) 9 (.string a) (.string b)).run Tryz.prog w=.ok (a == b) w:=by
 simp[Op.equalIn,Sem.run_bind,run_underlying Tryz.uStr,Result.andThen,Sem.run_pure]
def jhu(d:Option TypeDesc)(l:List (Bool × TypeId × Nat)):Bool:=match d with | some (.struct fs)=>fs.toList.map (fun f=>(f.name == "_",f.type,f.offset)) == l | _=>false
theorem jmD{d:Option TypeDesc}(h:jhu d [(false,9,0),(false,9,1)]=true):∃ f g:Field,d=some (.struct #[f,g])∧f.name ≠ "_"∧f.type=9∧f.offset=0∧g.name ≠ "_"∧g.type=9∧g.offset=1:=by
 cases d with
 | none=>cases h
 | some d =>
  cases d <;> try (cases h;done)
  rename_i fs
  obtain⟨l⟩:=fs
  rcases l with _ |⟨f,_ |⟨g,_ |⟨e,r⟩⟩⟩ <;> simp[jhu]at h
  obtain⟨⟨h1,h2,h3⟩,h4,h5,h6⟩:=h
  exact⟨f,g,rfl,h1,h2,h3,h4,h5,h6⟩
theorem Tryz.entFields:jhu (Tryz.prog.underlying 95) [(false,9,0),(false,9,1)]=true:=by kernel_rfl
theorem Tryz.entHeld:Tryz.prog.stoodInHeld 95=false:=by kernel_rfl
theorem jlv(x y x' y':ByteArray)(w:World):(binOp .neq 95 (.agg #[.string x,.string y]) (.agg #[.string x',.string y'])).run Tryz.prog w=.ok (.bool (!(x == x' && y == y'))) w:=by
 obtain⟨f,g,h0,h1,h2,h3,h4,h5,h6⟩:=jmD Tryz.entFields
 have hp1:∀ (u v:Value) w,(part 9 #[u,v] 0).run Tryz.prog w=.ok u w:=fun u v w=>by
  simp[part,Sem.run_bind,Tryz.strAgg,Result.andThen,Sem.run_pure]
 have hp2:∀ (u v:Value) w,(part 9 #[u,v] 1).run Tryz.prog w=.ok v w:=fun u v w=>by
  simp[part,Sem.run_bind,Tryz.strAgg,Result.andThen,Sem.run_pure]
 have he:∀ d,(Op.equalIn (d+2) 95 (.agg #[.string x,.string y]) (.agg #[.string x',.string y'])).run Tryz.prog w=.ok (x == x' && y == y') w:=fun d=>by
  rw[Op.equalIn];simp only[Sem.run_bind,run_underlying h0,Result.andThen];simp[Sem.run_bind,Result.andThen,Sem.run,Tryz.entHeld,h1,h2,h3,h4,h5,h6,hp1,hp2,jnN];cases (x == x')with
  | false=>simp[Sem.run_pure]
  | true =>
   simp[Sem.run_bind,Result.andThen,Sem.run,Tryz.entHeld,h1,h2,h3,h4,h5,h6,hp1,hp2,jnN];cases (y == y') <;> simp[Sem.run_pure]
 have he':(Op.equal 95 (.agg #[.string x,.string y]) (.agg #[.string x',.string y'])).run Tryz.prog w=.ok (x == x' && y == y') w:=he 9998;simp only[binOp,Sem.run_bind,he',Result.andThen,Sem.run_pure]
theorem Tryz.isEntry:jey (Tryz.prog.underlying 95)=true:=by kernel_rfl
theorem Tryz.szEntry:(Tryz.prog.info? 95).map (·.size)=some 2:=by kernel_rfl
theorem jgN{w:World}{b o:Nat}{x y:ByteArray}(h1:w.cell? ⟨b,o,none⟩=some (.string x))(h2:w.cell? ⟨b,o+1,none⟩=some (.string y)):(Instr.loadAt 95 (.pointer (some ⟨b,o,none⟩))).run Tryz.prog w=.ok (.agg #[.string x,.string y]) w:=by
 obtain⟨fs,hu⟩:=jei Tryz.isEntry
 refine jc4 (xs:=[.string x,.string y]) hu Tryz.szEntry (fun j v hv=>?_);rw[Addr.add_lit]
 match j,hv with
 | 0,hv=>simp at hv;subst hv;exact h1
 | 1,hv=>simp at hv;subst hv;exact h2
 | j+2,hv=>simp at hv
def eqP(p q:Pair):Bool:=p.1 == q.1 && p.2 == q.2
theorem jhs(p q:Pair):eqP p q=true↔p=q:=by
 unfold eqP;rw[jcV,jcV];simp only[Bool.and_eq_true,decide_eq_true_eq];constructor
 ·rintro⟨h1,h2⟩
  obtain⟨a,b⟩:=p
  obtain⟨c,d⟩:=q
  exact Prod.ext h1 h2
 ·rintro rfl;exact⟨rfl,rfl⟩
def jdi:List Pair→List Pair→Bool
 | [],[]=>true
 | p :: l,q :: m=>eqP p q && jdi l m
 | _,_=>false
theorem jdS:∀ (l m:List Pair),jdi l m=true↔l=m
 | [],[]=>by simp[jdi]
 | p :: l,[]=>by simp[jdi]
 | [],q :: m=>by simp[jdi]
 | p :: l,q :: m=>by
  unfold jdi;rw[Bool.and_eq_true,jhs,jdS l m];simp
theorem jeY(w:World)(v:Value)(l:List Pair)(hv:RdP w v l)(hn:l.length≤9223372036854775807)(hs:∀ p∈l,p.1.size≤9223372036854775807∧p.2.size≤9223372036854775807)(h:jaD l≠0):Calls Tryz.prog 26 #[v] w fun e w'=>e=.returned (.tuple #[.slice none 0 0,.int .i64 (jaD l)])∧Ext w w':=by
 have hck:=jcc w v l hv hn hs
 obtain⟨a,c,hsl⟩:=hv.sl
 subst hsl
 obtain⟨x,hx⟩:∃ x,x=jaD l:=⟨_,rfl⟩
 rw[←hx]at h hck ⊢;have hne:(x == 0)=false:=by simpa using h
 have HT:=Hd hck;clear hck hv hx hs;rw[←callsIn_wide (n:=0)];refine callsIn_of_wp_marks Tryz.func26 rfl trivial ?_ rfl;simp only[Tryz.ntmps26,List.size_toArray,List.length_cons,List.length_nil,Nat.reduceAdd,Nat.reduceSub,Array.replicate_succ,Array.replicate_zero,List.push_toArray,List.append_toArray,List.nil_append,List.cons_append];gi_wp2_with fail
 refine⟨trivial,rfl,CallsIn.mono (callsIn_wide.2 HT.o) ?_⟩
 rintro e w1 ⟨rfl,hE⟩;have HE:=Hd hE;clear hE;gi_wp2_with fail
 refine⟨_,results_tmp2 rfl _ _ _,?_⟩
 exact⟨rfl,HE.o⟩
def jc7(p:Pair):Bool:=decide (p.1.size≤20) && decide (p.2.size≤100)
def fewB(l:List Pair):Bool:=l.all jc7 && decide (l.length≤45)
def joB(w:World)(l:List Pair)(i:Value)(wr:World):Prop:=∃ k:Nat,k≤l.length∧k≤46∧i=.int .i64 k∧Ext w wr∧(l.take k).all jc7=true
theorem jkT{l:List Pair}{k:Nat}{p:Pair}(h:l[k]?=some p):(l.take (k+1)).all jc7=((l.take k).all jc7 && jc7 p):=by
 rw[List.take_add_one,h,List.all_append];simp
theorem jje{l:List Pair}{k:Nat}{p:Pair}(h:l[k]?=some p)(hb:jc7 p=false):fewB l=false:=by
 unfold fewB
 have:l.all jc7=false:=by
  rw[Bool.eq_false_iff];intro h2
  have:=List.all_eq_true.1 h2 p (List.mem_of_getElem? h)
  rw[hb]at this;cases this
 rw[this];rfl
theorem jnU(w:World)(v:Value)(l:List Pair)(hv:RdP w v l)(hn:l.length≤9223372036854775807)(hs:∀ p∈l,p.1.size≤9223372036854775807∧p.2.size≤9223372036854775807) :
  Calls Tryz.prog 25 #[v] w fun e w'=>e=.returned (.bool (fewB l))∧Ext w w':=by
 have HV:=Hd hv;have HS:=Hd hs
 obtain⟨a,c,hsl⟩:=hv.sl
 subst hsl;clear hv hs
 obtain⟨R,hR⟩:∃ R,R=fewB l:=⟨_,rfl⟩
 rw[←hR];have HR:=Hd hR;clear hR;go_enter Tryz.func25,Tryz.ntmps25;go_wp2_with fail
 go_loopw [3] (fun i wr=>joB w l i wr) (fun i _=>l.length - (intOf i).toNat)
 case atStart=>exact⟨0,by omega,by omega,rfl,ExtR w,rfl⟩
 case round =>
  obtain⟨k,hk,hk6,rfl,hE,hall⟩:=hrel
  have HE:=Hd hE;have HALL:=Hd hall;clear hE hall
  by_cases hlt:k < l.length
  ·have b1:(k:Int) < (l.length:Int):=by omega
   by_cases h45:k≤45
   ·have b2:(k:Int)≤45:=by omega
    obtain⟨p,hp⟩:∃ p,l[k]?=some p:=⟨_,List.getElem?_eq_getElem hlt⟩
    rcases HV.o with⟨_,_,_,h0⟩ |⟨b,o,c1,hh,hb,hc,hcell⟩
    ·rw[h0]at hlt;cases hlt
    cases hh
    obtain⟨q1,q2⟩:=hcell k p hp
    have q1:=jab q1 HE.o;have q2:=jab q2 HE.o;have hsp:=HS.o p (List.mem_of_getElem? hp);have HP:=Hd hp
    obtain⟨x,y⟩:=p
    simp only at q1 q2 hsp;clear hcell hb hc hp
    by_cases hx:20 < x.size
    ·have b3:(20:Int) < (x.size:Int):=by omega
     have HF:=Hd (show R=false by rw[HR.o];exact jje HP.o (by unfold jc7;simp;omega));clear hx;go_wp2_with fail
     go_ret
     exact⟨by rw[HF.o];rfl,HE.o⟩
    ·have b3:¬(20:Int) < (x.size:Int):=by omega
     by_cases hy:100 < y.size
     ·have b4:(100:Int) < (y.size:Int):=by omega
      have HF:=Hd (show R=false by rw[HR.o];exact jje HP.o (by unfold jc7;simp;omega));clear hx hy;go_wp2_with fail
      go_ret
      exact⟨by rw[HF.o];rfl,HE.o⟩
     ·have b4:¬(100:Int) < (y.size:Int):=by omega
      have HG:=Hd (show (l.take (k+1)).all jc7=true by rw[jkT HP.o,HALL.o];unfold jc7;simp;omega);clear hx hy;go_wp2_with fail
      go_roundw
      case rel=>exact⟨k+1,by omega,by omega,by go_num,HE.o,HG.o⟩
      case measure=>simp[intOf];omega
   ·have b2:¬(k:Int)≤45:=by omega
    have b3:¬(l.length:Int)≤45:=by omega
    have HF:=Hd (show R=false by rw[HR.o];unfold fewB;simp;omega);clear h45;go_wp2_with fail
    go_ret
    exact⟨by rw[HF.o];rfl,HE.o⟩
  ·have hkl:k=l.length:=by omega
   have b1:¬(k:Int) < (l.length:Int):=by omega
   have hall:=HALL.o;rw[hkl,List.take_length]at hall
   by_cases h45:l.length≤45
   ·have b2:(l.length:Int)≤45:=by omega
    have HF:=Hd (show R=true by rw[HR.o];unfold fewB;rw[hall];simp;omega);clear hkl hall h45;go_wp2_with fail
    go_ret
    exact⟨by rw[HF.o];rfl,HE.o⟩
   ·have b2:¬(l.length:Int)≤45:=by omega
    have HF:=Hd (show R=false by rw[HR.o];unfold fewB;simp;omega);clear hkl hall h45;go_wp2_with fail
    go_ret
    exact⟨by rw[HF.o];rfl,HE.o⟩
def jlX(l:List Pair):Prop:=∀ p∈l,p.1.size≤9223372036854775807∧p.2.size≤9223372036854775807
abbrev Pair.k(p:Pair):List UInt8:=p.1.data.toList
end
section
open Go Go.RowKit
attribute [local go_sem] Oper.semAt_some
theorem jhh{P:Program}{w:World}{ops:Array Oper}{rest:List Oper}{o:Oper}{a:Act}{Q:Exit→Act→World→Prop}{b:BinOp}{T T':TypeId}(x y:Operand)(ho:o.op=.binOp b T x y T')(hw:Region.wanted o (yielded ops a.tmps)=true)(vx vy v:Value)(hx:a.eval x=vx)(hy:a.eval y=vy)
  (hg:(eqGuard b T x y vx vy).run P w=.ok () w) (hr:(binOp b T vx vy).run P w=.ok v w) (h:wpList P ops Q rest (a.put o.dst v) w):wpList P ops Q (o :: rest) a w:=by
 unfold wpList;rw[if_pos hw];refine .inl (jcK (v:=v) (w':=w) ?_ h);simp only[execOp,ho,hx,hy,Sem.run_bind,hg,hr,Result.andThen,Sem.run_pure]
end
section
open Go Go.RowKit
attribute [local go_sem] Oper.semAt_some
theorem jia{x:ByteArray}(h:x.size≠0):x.toList.isEmpty=false:=by
 rw[ByteArray.toList_eq];cases e:x.data.toList with
 | nil=>exact absurd (show x.size=0 by show x.data.toList.length=0;rw[e];rfl) h
 | cons=>rfl
def Va4R(W:World)(rs:List ByteArray)(sv iv:Value)(wr:World):Prop:=∃ k:Nat,k≤16∧iv=.int .i64 k∧sv=.int .i64 ((jaq 0 (rs.take k)).length:Nat)∧Ext W wr
theorem jiK(rs:List ByteArray){k:Nat}{x:ByteArray}(h:rs[k]?=some x):(jaq 0 (rs.take (k+1))).length=(jaq 0 (rs.take k)).length+(if x.size=0 then 0 else 1):=by
 have:=je7 ⟨0,⟨#[]⟩,⟨#[]⟩,rs⟩ h
 rw[show jaq 0 (rs.take (k+1))=_ from this,List.length_append];split <;> rfl
theorem Tryz.eql_empty(w:World):(binOp .eql 144 jaL.V (.agg #[.int .i64 0,.string ⟨#[]⟩,.string ⟨#[]⟩,.string ⟨#[]⟩,.string ⟨#[]⟩,.string ⟨#[]⟩,.string ⟨#[]⟩,.string ⟨#[]⟩,.string ⟨#[]⟩,.string ⟨#[]⟩,.string ⟨#[]⟩,.string ⟨#[]⟩,.string ⟨#[]⟩,.string ⟨#[]⟩,.string ⟨#[]⟩,.string ⟨#[]⟩,.string ⟨#[]⟩,.string ⟨#[]⟩,.string ⟨#[]⟩])).run Tryz.prog w=.ok (.bool true) w:=by kernel_rfl
section
variable {I:ByteArray→jae→Prop} (HI:InlR I)
include HI
theorem jkz(w:World)(n:jae)(h:jbM I n)(hr:n.refs.length=16):Calls Tryz.prog 167 #[n.V] w fun e w'=>e=.returned (.bool true)∧Ext w w':=by
 have HG:=Hd h;have HRL:=Hd hr;have e0:n.cells[0]?=some (.int .i64 (n.kind:Int)):=rfl;have e1:n.cells[1]?=some (.string n.path):=rfl;have e2:n.cells[2]?=some (.string n.value):=rfl;have eR:∀ (k:Nat) x,n.refs[k]?=some x→n.cells[3+k]?=some (.string x):=fun k x hx=>by
  show (Value.int .i64 (n.kind:Int) :: .string n.path :: .string n.value :: n.refs.map Value.string)[3+k]?=_;rw[show 3+k=k+1+1+1 by omega];simp[hx]
 have HCE:=Hd (And.intro e0 (And.intro e1 (And.intro e2 eR)));unfold jae.V
 obtain⟨C,hC⟩:∃ C,C=n.cells:=⟨_,rfl⟩
 rw[←hC]at HCE ⊢;have HCD:=Hd hC;clear h hr e0 e1 e2 eR hC;go_enter Tryz.func167,Tryz.ntmps167;go_wp2_with fail
 have hB0:=Blk.new w (.cells C.toArray 144)
 obtain⟨W0,hW0⟩:∃ W0,W0=w.alloc (.cells C.toArray 144):=⟨_,rfl⟩
 have HE0:=Hd (show Ext w W0 by rw[hW0];exact (ExtR w).alloc _);rw[←hW0]at hB0 ⊢
 obtain⟨g,hg⟩:∃ g,g=w.heap.size:=⟨_,rfl⟩
 rw[←hg]at hB0 ⊢;have HB0:=Hd hB0;clear hW0 hg hB0;go_loopw [3,4] (fun sv iv wr=>Va4R W0 n.refs sv iv wr) (fun _ iv _=>16 - (intOf iv).toNat)
 case atStart=>exact⟨0,by omega,rfl,rfl,ExtR W0⟩
 case round =>
  obtain⟨k,hk,rfl,rfl,hE⟩:=hrel
  have HE:=Hd hE;clear hE
  by_cases hlt:k < 16
  ·have b1:(k:Int) < 16:=by omega
   obtain⟨x,hx⟩:∃ x,n.refs[k]?=some x:=⟨_,List.getElem?_eq_getElem (by have:=HRL.o;omega)⟩
   have q1:wr.cell? ⟨g,3+k,none⟩=some (.string x):=(HB0.o.keeps HE.o (fun h=>h)).cellL (HCE.o.2.2.2 k x hx);have hst:=jiK n.refs hx;have hle:(jaq 0 (n.refs.take k)).length≤16:=by
    have:∀ (l:List ByteArray) (i:Nat),(jaq i l).length≤l.length:=fun l=>by
     induction l with
     | nil=>intro i;exact Nat.le_refl _
     | cons y r ih=>intro i;unfold jaq;have:=ih (i+1);split <;> simp <;> omega
    have h2:=this (n.refs.take k) 0;have h3:(n.refs.take k).length≤16:=by rw[List.length_take];omega
    omega
   obtain⟨c0,hc0⟩:∃ c0,c0=(jaq 0 (n.refs.take k)).length:=⟨_,rfl⟩
   rw[←hc0]at hst hle ⊢;clear hx hc0
   by_cases hx0:x=⟨#[]⟩
   ·subst hx0
    rw[if_pos (show (⟨#[]⟩:ByteArray).size=0 from rfl)]at hst;have HST:=Hd hst;clear hst;go_wp2_with fail
    go_roundw
    case rel=>exact⟨k+1,by omega,by go_num,by rw[HST.o];rfl,HE.o⟩
    case measure=>simp[intOf];omega
   ·have hxs:x.size≠0:=fun e=>hx0 (jdj (List.eq_nil_of_length_eq_zero e))
    have hxm:=jia hxs;rw[if_neg hxs]at hst;have HST:=Hd hst;clear hst hx0 hxs;go_wp2_with fail
    go_roundw
    case rel=>exact⟨k+1,by omega,by go_num,by rw[HST.o];go_num,HE.o⟩
    case measure=>simp[intOf];omega
  ·have hk16:k=16:=by omega
   subst hk16;have hcnt:(jaq 0 (n.refs.take 16)).length=(jaq 0 n.refs).length:=by rw[List.take_of_length_le (by have:=HRL.o;omega)]
   rw[hcnt];have b1:¬((16:Nat):Int) < 16:=by omega
   have hB:=HB0.o.keeps HE.o (fun h=>h);have HB:=Hd hB;have q0:=hB.cellL HCE.o.1;have q1:=hB.cellL HCE.o.2.1;have q2:=hB.cellL HCE.o.2.2.1;clear hcnt hB hlt;have hg2:=HG.o;cases hg2 with
   | none =>
    have hC:C=jaL.cells:=HCD.o;subst hC;have hld:=jar wr g jaL rfl HB.o;have heq:=Tryz.eql_empty wr;go_wp2_with (first |(refine jag 144 (.tmp 1) rfl rfl _ _ rfl hld ?_) |(refine jhh (.tmp 23) (.tmp 24) rfl rfl _ _ (.bool true) rfl rfl (by kernel_rfl) heq ?_))
    go_ret
    exact⟨rfl,HE0.o.trans HE.o⟩
   | leaf p v h2 h3 h4 =>
    rw[show (jaq 0 (jat 16)).length=0 by rw[jcj];rfl]
    obtain⟨z1,z2,z3⟩:=jbi h2
    have hp:=jio wr p (by have z2:p.size≤12:=z2;omega);rw[show (jaO p && decide (p.size≤12))=true by rw[show jaO p=true from z3,decide_eq_true (show p.size≤12 from z2)];rfl]at hp;have HP:=Hd hp;have c1:(1:Int)≤(v.size:Int):=by omega
    have c2:(v.size:Int)≤80:=by omega
    clear hp h2 z1 z2 z3;go_wp2_with fail
    refine HP.o.mono ?_;rintro e w5 ⟨rfl,rfl⟩;go_wp2_with fail
    go_ret
    exact⟨rfl,HE0.o.trans HE.o⟩
   | ext p r h2 h3 h4 =>
    have hs1:jaq 0 (r :: jat 15)=[(0,r)]:=by unfold jaq;rw[if_neg h3,jcj]
    rw[show (jaq 0 (r :: jat 15)).length=1 by rw[hs1];rfl]
    obtain⟨z1,z2,z3⟩:=jbi h2
    have hp:=fun w1=>jio w1 p (by have z2:p.size≤12:=z2;omega);rw[show (jaO p && decide (p.size≤12))=true by rw[show jaO p=true from z3,decide_eq_true (show p.size≤12 from z2)];rfl]at hp;have HP:=Hd hp;have hpe:=jia (show p.size≠0 by have z1:1≤p.size:=z1;omega);have q3:wr.cell? ⟨g,3,none⟩=some (.string r):=HB.o.cellL (HCE.o.2.2.2 0 r rfl);have HQ:=Hd (And.intro q1 (And.intro q2 q3));have HM:=Hd (fun w1=>jfM HI w1 r (h4.imp id (fun ⟨m,h,_⟩=>⟨m,h⟩)));have HIN:=Hd (show ∃ (m:jae) (ok:Bool),m.refs.length=16∧(ok=true→m.kind=3)∧∀ w1,Calls Tryz.prog 209 #[.string r] w1 fun e w'=>e=.returned (.tuple #[m.V,.bool ok])∧Ext w1 w' from by
     rcases h4 with hh |⟨m,h5,h6⟩
     ·exact⟨jaL,false,rfl,(fun e=>by cases e),fun w1=>je8 w1 r (by have:=hh.size;omega)⟩
     ·exact⟨m,true,HI.refs r m h5,fun _=>h6,fun w1=>HI.inl r m h5 w1⟩)
    clear hp h2 z1 z2 z3 h3 h4 hs1
    obtain⟨m,ok,hm,hk3,hin⟩:=HIN.o
    have HKK:=Hd hk3;have HL:=Hd (m.cells_len hm);have HI2:=Hd hin;unfold jae.V at HI2;clear hm hk3 hin;go_wp2_with fail
    refine (HI2.o wr).mono ?_;rintro e w5 ⟨rfl,hE⟩;have HE5:=Hd hE;clear hE;cases ok with
    | false =>
     go_wp2_with (first |(refine jap Tryz.allocNode rfl rfl ?_;intro W3 hB3 hE3;refine jal (vs:=m.cells) rfl rfl rfl rfl hB3 (by rw[HL.o];rfl) (by rw[HL.o];exact Tryz.szNode) m.one ?_;intro W4 hB4 hE4;have hX4:Ext w5 W4:=hE3.trans' hE4 (fun x hx e=>by have e:x=w5.heap.size:=e;omega);have q1:=jab HQ.o.1 (HE5.o.trans hX4)))
     have HX4:=Hd (HE5.o.trans hX4);have HK4:=Hd (show W4.cell? ⟨w5.heap.size,0,none⟩=some (.int .i64 (m.kind:Int))from hB4.cellL (by rfl));clear hX4 hB4 hE4 hB3 hE3 q1;refine (HP.o W4).mono ?_;rintro e w6 ⟨rfl,rfl⟩;have q1:=jab HQ.o.1 HX4.o;have q2:=jab HQ.o.2.1 HX4.o;have q3:=jab HQ.o.2.2 HX4.o;go_wp2_with fail
     refine (HM.o w6).mono ?_;rintro e w7 ⟨rfl,hE⟩;have HE7:=Hd (HX4.o.trans hE);clear hE q1 q2 q3;go_wp2_with fail
     go_ret
     exact⟨rfl,HE0.o.trans (HE.o.trans HE7.o)⟩
    | true =>
     go_wp2_with (first |(refine jap Tryz.allocNode rfl rfl ?_;intro W3 hB3 hE3;refine jal (vs:=m.cells) rfl rfl rfl rfl hB3 (by rw[HL.o];rfl) (by rw[HL.o];exact Tryz.szNode) m.one ?_;intro W4 hB4 hE4;have hX4:Ext w5 W4:=hE3.trans' hE4 (fun x hx e=>by have e:x=w5.heap.size:=e;omega);have q1:=jab HQ.o.1 (HE5.o.trans hX4)))
     have HX4:=Hd (HE5.o.trans hX4);have HK4:=Hd (show W4.cell? ⟨w5.heap.size,0,none⟩=some (.int .i64 (m.kind:Int))from hB4.cellL (by rfl));clear hX4 hB4 hE4 hB3 hE3 q1;refine (HP.o W4).mono ?_;rintro e w6 ⟨rfl,rfl⟩;have q1:=jab HQ.o.1 HX4.o;have q2:=jab HQ.o.2.1 HX4.o;have q3:=jab HQ.o.2.2 HX4.o;go_wp2_with fail
     refine (HM.o w6).mono ?_;rintro e w7 ⟨rfl,hE⟩;have HE7:=Hd (HX4.o.trans hE);have qk:=jab HK4.o hE;rw[HKK.o (by simp)]at qk;clear hE q1 q2 q3;go_wp2_with fail
     go_ret
     exact⟨rfl,HE0.o.trans (HE.o.trans HE7.o)⟩
   | branch v rs h2 h3 h4 h5 =>
    have HM:=Hd (fun w1 r hr hz=>jfM HI w1 r (h4 r hr hz));have hle:(jaq 0 rs).length≤16:=by
     have:∀ (l:List ByteArray) (i:Nat),(jaq i l).length≤l.length:=fun l=>by
      induction l with
      | nil=>intro i;exact Nat.le_refl _
      | cons y r ih=>intro i;unfold jaq;have:=ih (i+1);split <;> simp <;> omega
     have:=this rs 0
     omega
    obtain⟨c0,hc0⟩:∃ c0,c0=(jaq 0 rs).length:=⟨_,rfl⟩
    rw[←hc0]at h5 hle ⊢;have H5:=Hd h5;have HLE:=Hd hle;have HRL2:=Hd (show rs.length=16 from h2);clear hc0 h2 h4 h5 hle q1 q2;go_wp2_with fail
    obtain⟨W2,rfl⟩:∃ W2,W2=wr:=⟨_,rfl⟩
    go_loopw [7] (fun iv wr=>∃ k:Nat,k≤16∧iv=.int .i64 k∧Ext W2 wr) (fun iv _=>16 - (intOf iv).toNat)
    case atStart=>exact⟨0,by omega,rfl,ExtR W2⟩
    case round =>
     obtain⟨k,hk,rfl,hE⟩:=hrel
     have HE2:=Hd hE;clear hE
     by_cases hlt:k < 16
     ·have b1:(k:Int) < 16:=by omega
      obtain⟨x,hx⟩:∃ x,rs[k]?=some x:=⟨_,List.getElem?_eq_getElem (by have:=HRL2.o;omega)⟩
      have q1:wr.cell? ⟨g,3+k,none⟩=some (.string x):=jab (HB.o.cellL (HCE.o.2.2.2 k x hx)) HE2.o;have HXM:=Hd (List.mem_of_getElem? hx);clear hx
      by_cases hx0:x=⟨#[]⟩
      ·subst hx0
       go_wp2_with fail
       go_roundw
       case rel=>exact⟨k+1,by omega,by go_num,HE2.o⟩
       case measure=>simp[intOf];omega
      ·have hxs:x.size≠0:=fun e=>hx0 (jdj (List.eq_nil_of_length_eq_zero e))
       have hxm:=jia hxs;have HMX:=Hd (HM.o wr x HXM.o hxs);clear hx0 hxs;go_wp2_with fail
       refine HMX.o.mono ?_;rintro e w5 ⟨rfl,hE⟩;have HE5:=Hd (HE2.o.trans hE);clear hE;go_wp2_with fail
       go_roundw
       case rel=>exact⟨k+1,by omega,by go_num,HE5.o⟩
       case measure=>simp[intOf];omega
     ·have q1:wr.cell? ⟨g,1,none⟩=some (.string ⟨#[]⟩):=jab (HB.o.cellL HCE.o.2.1) HE2.o
      have q2:wr.cell? ⟨g,2,none⟩=some (.string v):=jab (HB.o.cellL HCE.o.2.2.1) HE2.o;have b1:¬(k:Int) < 16:=by omega
      have c2:(v.size:Int)≤80:=by omega
      have h5:=H5.o;have hle:=HLE.o
      by_cases hv0:v=⟨#[]⟩
      ·subst hv0
       have hz:min (⟨#[]⟩:ByteArray).size 1=0:=rfl;rw[hz]at h5;have c3:(2:Int)≤(c0:Int):=by omega
       clear h5 hz hle;go_wp2_with fail
       go_ret
       exact⟨rfl,HE0.o.trans (HE.o.trans HE2.o)⟩
      ·have hvs:v.size≠0:=fun e=>hv0 (jdj (List.eq_nil_of_length_eq_zero e))
       have hvm:=jia hvs;have c3:(2:Int)≤(c0:Int)+1:=by omega
       clear hv0 hvs h5;go_wp2_with fail
       go_ret
       exact⟨rfl,HE0.o.trans (HE.o.trans HE2.o)⟩
end
end
section
open Go Go.RowKit
attribute [local go_sem] Oper.semAt_some
theorem jkj{I:ByteArray→jae→Prop}(HI:InlP I)(w:World)(n:jae)(h:jbM I n):Calls Tryz.prog 168 #[n.V] w fun e w'=>e=.returned (.string (jaV n))∧Ext w w':=by
 have h1:=h.one HI;cases h with
 | none=>exact jgV w _ _ _ rfl
 | leaf p v h2 h3 h4 =>
  obtain⟨z1,z2,z3⟩:=jbi h2
  exact jgU w p v _ rfl z2 h4 z3
 | ext p r h2 h3 h4 =>
  obtain⟨z1,z2,z3⟩:=jbi h2
  exact jhD w p _ r _ z2 (by have:=h1.each r (List.mem_cons_self);omega) z3
 | branch v rs h2 h3 h4 h5 =>
  have hz:=jbV _ h1;rw[jc9 _ h2]at hz;exact jfl w v rs h2 h3 (by have hz:(catB (jaW rs v)).size≤1513:=hz;omega)
section
variable {I:ByteArray→jae→Prop} (HP:InlP I) (HI:InlR I)
include HP HI
theorem je9(w:World)(n:jae)(h:jbM I n):Calls Tryz.prog 121 #[n.V] w fun e w'=>e=.returned (.tuple #[.string (jaV n),.int .i64 0])∧Ext w w':=by
 have h1:=h.one HP;have hld:=jar (w.alloc (.cells n.cells.toArray 144)) _ n h1.refs (Blk.new w _);have H:=Hd h;have H1:=Hd h1;clear h h1;unfold jae.V at hld ⊢;go_enter Tryz.func121,Tryz.ntmps121;go_wp2_with (refine jag 144 (.tmp 1) rfl rfl _ _ rfl hld ?_)
 refine (jkz HI _ n H.o H1.o.refs).mono ?_;rintro e w2 ⟨rfl,hE⟩;have hB:=(Blk.new w (.cells n.cells.toArray 144)).keeps hE (fun h=>h);have hld2:=jar w2 _ n H1.o.refs hB;have HE:=Hd (((ExtR w).alloc _).trans hE);unfold jae.V at hld2;clear hld hE hB;go_wp2_with (refine jag 144 (.tmp 1) rfl rfl _ _ rfl hld2 ?_)
 refine (jkj HP w2 n H.o).mono ?_;rintro e w3 ⟨rfl,hE⟩;have HE3:=Hd (HE.o.trans hE);clear hE hld2
 obtain⟨R,hR⟩:∃ R,R=jaV n:=⟨_,rfl⟩
 rw[←hR];go_wp2_with fail
 go_ret2
 exact⟨rfl,HE3.o⟩
end
end
section
open Go Go.RowKit
attribute [local go_sem] Oper.semAt_some
def ji9(x:ByteArray):Prop:=0 < x.size∧∀ (w:World) (y:ByteArray),(x++y).size≤1000000→Calls Tryz.prog 253 #[.string (x++y)] w fun e w'=>∃ l b,e=.returned (.tuple #[.bool l,.string b,.string y,.int .i64 0])∧Ext w w'
def RIt(w:World)(xs:List ByteArray)(sv ov:Value)(wr:World):Prop:=∃ k:Nat,k≤xs.length∧sv=.string (catB (xs.drop k))∧ORow 9 1 w wr ov k ((xs.take k).map Value.string)
def strL(v:Value):Nat:=match v with | .string s=>s.size | _=>0
theorem jiE(x:ByteArray)(xs:List ByteArray):catB (x :: xs)=x++catB xs:=by
 have:=jdJ [x] xs
 rw[jdI]at this;exact this
theorem jeB(w:World)(xs:List ByteArray)(hx:∀ x∈xs,ji9 x)(hn:xs.length≤1000)(hl:(catB xs).size≤100000):Calls Tryz.prog 254 #[.string (catB xs)] w fun e w'=>∃ v,e=.returned (.tuple #[v,.int .i64 0])∧ORow 9 1 w w' v xs.length (xs.map Value.string):=by
 have HX:=Hd hx;have HL:=Hd hl
 obtain⟨s,hs⟩:∃ s,s=catB xs:=⟨_,rfl⟩
 have HS:=Hd hs;rw[←hs];clear hx hl hs;go_enter Tryz.func254,Tryz.ntmps254;go_wp2_with fail
 go_loopw [0,4] (fun sv ov wr=>RIt w xs sv ov wr) (fun sv _ _=>strL sv)
 case atStart=>exact⟨0,Nat.zero_le _,by rw[HS.o];rfl,ORow.nil _ _ (ExtR w)⟩
 case round =>
  obtain⟨k,hk,rfl,hR⟩:=hrel
  have HR:=Hd hR
  by_cases hlt:k < xs.length
  ·obtain⟨x,hxk⟩:∃ x,x=xs[k]:=⟨_,rfl⟩
   have hd:xs.drop k=x :: xs.drop (k+1):=by rw[hxk];exact List.drop_eq_getElem_cons hlt
   have ht:xs.take (k+1)=xs.take k++[x]:=by rw[List.take_add_one,List.getElem?_eq_getElem hlt,hxk];rfl
   obtain⟨hpos,hsp⟩:=HX.o x (by rw[hxk];exact List.getElem_mem hlt)
   have hle:(catB (xs.drop k)).size≤100000:=by
    have:=jdJ (xs.take k) (xs.drop k)
    rw[List.take_append_drop]at this;have h1:=HL.o;rw[this,ByteArray.size_append]at h1;omega
   rw[hd,jiE]at hle ⊢
   obtain⟨y,hy⟩:∃ y,y=catB (xs.drop (k+1)):=⟨_,rfl⟩
   rw[←hy]at hle ⊢;have HY:=Hd hy;have HT:=Hd ht;have hsz:(x++y).size=x.size+y.size:=ByteArray.size_append;have hfr:=jfZ x y;have HSP:=Hd (fun w1=>hsp w1 y (by omega))
   obtain⟨s1,hs1⟩:∃ s1,s1=x++y:=⟨_,rfl⟩
   rw[←hs1]at hle hsz hfr HSP ⊢;have hne:s1.toList.isEmpty=false:=ja8 (by omega);have d1:(s1.size:Int) - (y.size:Int)=(x.size:Int):=by omega
   have d2:(x.size:Int)≤(s1.size:Int):=by omega
   have d3 : -9223372036854775808≤(s1.size:Int) - (y.size:Int):=by omega
   have d4:(s1.size:Int) - (y.size:Int)≤9223372036854775807:=by omega
   have hmy:y.size < s1.size:=by omega
   have HMY:=Hd hmy
   obtain⟨ra,rc,rfl⟩:=hR.sl
   have hm1:k+1≤maxLen:=by unfold maxLen;omega
   have hm2:(k+1) * 16≤140737488355328:=by omega
   clear hR hxk hd ht hpos hsp hy hs1 hsz hmy;go_wp2_with fail
   refine (HSP.o wr).mono ?_;rintro e w1 ⟨l,b,rfl,hE⟩;have HR1:=Hd (HR.o.mono hE);have HNW:=Hd (jaS (Blk.new w1 (.cells #[.string x] 9)));clear hE
   obtain⟨i0,hi',hz0,hz1,hz2⟩:=info_parts Tryz.infoStr
   go_wp2_with (at_builtin;refine jej _ rfl (.tmp 21) (.tmp 29) 34 rfl 9 i0 _ 1 16 Tryz.uStrs hi' hz0 hz1 hz2 rfl (by decide) (.slice ra k rc) k _ rfl (jce HR1.o.own ((ExtR w1).alloc _)) ⟨w1.heap.size,0,none⟩ 1 1 [.string x] rfl rfl HNW.o (by simp[Value.oneCell']) hm1 hm2 ?_;intro v' w6 r1 r2 r3;obtain⟨a6,c6,rfl⟩:=jbw r1;have HR2:=Hd ((HR1.o.mono ((ExtR w1).alloc (.cells #[.string x] 9))).step r1 r2 r3);clear r1 r2 r3)
   go_roundw
   case rel=>exact⟨k+1,by omega,by rw[HY.o],by rw[HT.o,List.map_append];exact HR2.o⟩
   case measure=>exact HMY.o
  ·have hke:k=xs.length:=by omega
   subst hke;rw[List.take_length]at hR
   obtain⟨ra,rc,rfl⟩:=hR.sl
   have HR2:=Hd hR;rw[List.drop_length,show catB []=⟨#[]⟩from rfl];clear hR HR;go_wp2_with fail
   go_ret2
   exact⟨_,rfl,HR2.o⟩
theorem jlj(a b c d:Bool)(h:jcr a b=jcr c d):a=c∧b=d:=by revert h;revert a b c d;decide
theorem jkh{p q:ByteArray}{a b:Bool}(hp:jaO p=true)(hq:jaO q=true)(h:a≠b∨oddB q≠oddB p):putB q a≠putB p b:=fun e=>by
 have e:=congrArg jcg e;rw[jdQ q a hq,jdQ p b hp]at e;have e:(jbv q a++q.data.toList)=(jbv p b++p.data.toList):=congrArg (fun x:ByteArray=>x.data.toList) e;unfold jbv at e;rw[List.cons_append,List.cons_append]at e
 obtain⟨h1,h2⟩:=jlj _ _ _ _ (List.cons.inj e).1
 rcases h with h | h
 ·exact h h1
 ·exact h h2
def lfN(leaf:Bool):Nat:=if leaf then 1 else 0
def RGi(w:World)(n:Nat)(jv:Value)(wr:World):Prop:=∃ j:Nat,j≤n∧jv=.int .i64 j∧Ext w wr
def RGo(w:World)(jv:Value)(wr:World):Prop:=(jv=.int .i64 1∨jv=.int .i64 2)∧Ext w wr
theorem jmv{a:List UInt8}{p:ByteArray}{n:Nat}(h:a.length=n):(⟨(a++p.data.toList).toArray⟩:ByteArray).extract n (⟨(a++p.data.toList).toArray⟩:ByteArray).size=p:=by
 subst h;apply ByteArray.ext;rw[ByteArray.data_extract];show (a++p.data.toList).toArray.extract a.length (a++p.data.toList).length=_;have hl:p.data.toList.length=p.size:=rfl
 simp
 rw[List.take_of_length_le (by omega)]
theorem jdA{a b:ByteArray}(h:a≠b):(a.toList == b.toList)=false:=by
 rw[ByteArray.toList_eq,ByteArray.toList_eq];exact beq_eq_false_iff_ne.2 fun e=>h (ByteArray.ext (Array.ext' e))
theorem jlH(w:World)(p:ByteArray)(leaf:Bool)(hs:p.size≤10000)(hv:jaO p=true)(ho:oddB p=true):Calls Tryz.prog 255 #[.string (putB p leaf)] w fun e w'=>e=.returned (.tuple #[.string p,.bool leaf,.bool true])∧Ext w w':=by
 have hpath:=jhH w (putB p leaf) (by have:=jaY p leaf;omega);have hfr:jbv p leaf=[jcr leaf true]:=by unfold jbv;rw[ho,if_pos rfl]
 rw[jdQ p leaf hv,hfr]at hpath
 obtain⟨all,hall⟩:∃ all:ByteArray,all=⟨([jcr leaf true]++p.data.toList).toArray⟩:=⟨_,rfl⟩
 rw[←hall]at hpath;have hx:all.extract 1 all.size=p:=by rw[hall];exact jmv rfl
 have hsz:all.size=p.size+1:=by rw[hall];show (jcr leaf true :: p.data.toList).length=_;rw[List.length_cons];rfl
 have b1:(1:Int)≤(all.size:Int):=by omega
 have HPT:=Hd hpath;have HPU:=Hd (fun w1 l=>jg6 w1 p l (by omega) hv);have HNE:=Hd (fun l (h:l≠leaf)=>jdA (jkh (p:=p) (q:=p) (a:=l) (b:=leaf) hv hv (.inl h)));have HEQ:=Hd (show ((putB p leaf).toList ==(putB p leaf).toList)=true by simp)
 obtain⟨s,hsd⟩:∃ s,s=putB p leaf:=⟨_,rfl⟩
 rw[←hsd]at HPT HNE ⊢;rw[show putB p leaf=s from hsd.symm]at HEQ;have HSD:=Hd hsd;clear hpath hall hv ho hfr hsd hsz;go_enter Tryz.func255,Tryz.ntmps255;go_wp2_with fail
 refine HPT.o.mono ?_;rintro e w1 ⟨rfl,hE⟩;have HE1:=Hd hE;clear hE HPT;go_wp2_with fail
 go_loopw [6] (fun kv wr=>kv=.int .i64 1∧Ext w wr) (fun _ _=>0)
 case atStart=>exact⟨rfl,HE1.o⟩
 case round =>
  obtain⟨rfl,hE⟩:=hrel
  have HE:=Hd hE;clear hE;go_wp2_with fail
  go_loopw [7] (fun jv wr=>RGi w (lfN leaf) jv wr) (fun jv _=>2 - (intOf jv).toNat)
  case atStart=>exact⟨0,Nat.zero_le _,rfl,HE.o⟩
  case round =>
   obtain⟨j,hj,rfl,hE⟩:=hrel
   have HE:=Hd hE;have hj2:j≤1:=by unfold lfN at hj;cases leaf <;> simp at hj <;> omega
   clear hE
   by_cases hjl:j=lfN leaf
   ·cases leaf with
    | true =>
     have hj1:j=1:=hjl;subst hj1;clear hjl hj hj2;have hpu:=HPU.o;have heq:=HEQ.o;go_wp2_with fail
     refine (hpu _ true).mono ?_;rintro e w2 ⟨rfl,hE⟩;have HE2:=Hd (HE.o.trans hE);rw[←HSD.o];clear hE hpu;go_wp2_with fail
     exact bodyPost_ret (v:=.tuple #[.string p,.bool true,.bool true]) (by kernel_rfl) rfl ⟨rfl,HE2.o⟩
    | false =>
     have hj1:j=0:=hjl;subst hj1;clear hjl hj hj2;have hpu:=HPU.o;have heq:=HEQ.o;go_wp2_with fail
     refine (hpu _ false).mono ?_;rintro e w2 ⟨rfl,hE⟩;have HE2:=Hd (HE.o.trans hE);rw[←HSD.o];clear hE hpu;go_wp2_with fail
     exact bodyPost_ret (v:=.tuple #[.string p,.bool false,.bool true]) (by kernel_rfl) rfl ⟨rfl,HE2.o⟩
   ·have hl:leaf=true:=by cases leaf with | true=>rfl | false=>unfold lfN at hj hjl;simp at hj hjl;omega
    subst hl;have hj0:j=0:=by have h1:¬ j=1:=hjl;omega
    subst hj0;have hne:=HNE.o false (by decide);have hpu:=HPU.o;clear hjl hj hj2;go_wp2_with fail
    refine (hpu _ false).mono ?_;rintro e w2 ⟨rfl,hE⟩;have HE2:=Hd (HE.o.trans hE);clear hE hpu;go_wp2_with fail
    go_roundw
    case rel=>exact⟨1,Nat.le_refl _,rfl,HE2.o⟩
    case measure=>simp[intOf]
theorem jkr(w:World)(p:ByteArray)(leaf:Bool)(hs:p.size≤10000)(hv:jaO p=true)(ho:oddB p=false):Calls Tryz.prog 255 #[.string (putB p leaf)] w fun e w'=>e=.returned (.tuple #[.string p,.bool leaf,.bool true])∧Ext w w':=by
 have hpath:=jhH w (putB p leaf) (by have:=jaY p leaf;omega);have hfr:jbv p leaf=[jcr leaf false,0]:=by unfold jbv;rw[ho,if_neg (by decide)]
 rw[jdQ p leaf hv,hfr]at hpath
 obtain⟨all,hall⟩:∃ all:ByteArray,all=⟨([jcr leaf false,0]++p.data.toList).toArray⟩:=⟨_,rfl⟩
 rw[←hall]at hpath;have hx:all.extract 2 all.size=p:=by rw[hall];exact jmv rfl
 obtain⟨z,hz⟩:∃ z:ByteArray,z=(⟨#[0]⟩:ByteArray)++p:=⟨_,rfl⟩
 have hzl:z.data.toList=0 :: p.data.toList:=by rw[hz,ByteArray.data_append];simp
 have hx1:all.extract 1 all.size=z:=by
  have:all=⟨([jcr leaf false]++z.data.toList).toArray⟩:=by rw[hall,hzl];rfl
  rw[this];exact jmv rfl
 have hzv:jaO z=true:=by rw[hz];exact jdf (by decide) hv
 have hzs:z.size=p.size+1:=by show z.data.toList.length=_;rw[hzl,List.length_cons];rfl
 have hzo:oddB z=true:=by
  unfold oddB at ho ⊢;rw[hzs]
  have:¬ p.size % 2=1:=by simpa using ho
  simp;omega
 have HPZ:=Hd (fun w1 l=>jg6 w1 z l (by omega) hzv);have HNZ:=Hd (fun l=>jdA (jkh (p:=p) (q:=z) (a:=l) (b:=leaf) hv hzv (.inr (by rw[hzo,ho];decide))));have hsz:all.size=p.size+2:=by rw[hall];show (jcr leaf false :: 0 :: p.data.toList).length=_;rw[List.length_cons,List.length_cons];rfl
 have b1:(1:Int)≤(all.size:Int):=by omega
 have b2:(2:Int)≤(all.size:Int):=by omega
 have HPT:=Hd hpath;have HPU:=Hd (fun w1 l=>jg6 w1 p l (by omega) hv);have HNE:=Hd (fun l (h:l≠leaf)=>jdA (jkh (p:=p) (q:=p) (a:=l) (b:=leaf) hv hv (.inl h)));have HEQ:=Hd (show ((putB p leaf).toList ==(putB p leaf).toList)=true by simp)
 obtain⟨s,hsd⟩:∃ s,s=putB p leaf:=⟨_,rfl⟩
 rw[←hsd]at HPT HNE HNZ ⊢;rw[show putB p leaf=s from hsd.symm]at HEQ;have HSD:=Hd hsd;clear hpath hall hv ho hfr hsd hsz hz hzl hzv hzs hzo;go_enter Tryz.func255,Tryz.ntmps255;go_wp2_with fail
 refine HPT.o.mono ?_;rintro e w1 ⟨rfl,hE⟩;have HE1:=Hd hE;clear hE HPT;go_wp2_with fail
 go_loopw [6] (fun kv wr=>RGo w kv wr) (fun kv _=>3 - (intOf kv).toNat)
 case atStart=>exact⟨.inl rfl,HE1.o⟩
 case round =>
  obtain⟨hkk,hE⟩:=hrel
  have HE:=Hd hE;clear hE;rcases hkk with rfl | rfl
  ·go_wp2_with fail
   go_loopw [7] (fun jv wr=>RGi w 2 jv wr) (fun jv _=>2 - (intOf jv).toNat)
   case atStart=>exact⟨0,Nat.zero_le _,rfl,HE.o⟩
   case round =>
    obtain⟨j,hj,rfl,hE⟩:=hrel
    have HE:=Hd hE;clear hE
    by_cases h0:j=0
    ·subst h0
     have hne:=HNZ.o false;have hpu:=HPZ.o;clear hj;go_wp2_with fail
     refine (hpu _ false).mono ?_;rintro e w2 ⟨rfl,hE⟩;have HE2:=Hd (HE.o.trans hE);clear hE hpu;go_wp2_with fail
     go_roundw
     case rel=>exact⟨1,by omega,rfl,HE2.o⟩
     case measure=>simp[intOf]
    by_cases h1:j=1
    ·subst h1
     have hne:=HNZ.o true;have hpu:=HPZ.o;clear hj h0;go_wp2_with fail
     refine (hpu _ true).mono ?_;rintro e w2 ⟨rfl,hE⟩;have HE2:=Hd (HE.o.trans hE);clear hE hpu;go_wp2_with fail
     go_roundw
     case rel=>exact⟨2,by omega,rfl,HE2.o⟩
     case measure=>simp[intOf]
    ·have hj2:j=2:=by omega
     subst hj2;clear h0 h1 hj;go_wp2_with fail
     go_roundw
     case rel=>exact⟨.inr rfl,HE.o⟩
     case measure=>simp[intOf]
  go_wp2_with fail
  go_loopw [7] (fun jv wr=>RGi w (lfN leaf) jv wr) (fun jv _=>2 - (intOf jv).toNat)
  case atStart=>exact⟨0,Nat.zero_le _,rfl,HE.o⟩
  case round =>
   obtain⟨j,hj,rfl,hE⟩:=hrel
   have HE:=Hd hE;have hj2:j≤1:=by unfold lfN at hj;cases leaf <;> simp at hj <;> omega
   clear hE
   by_cases hjl:j=lfN leaf
   ·cases leaf with
    | true =>
     have hj1:j=1:=hjl;subst hj1;clear hjl hj hj2;have hpu:=HPU.o;have heq:=HEQ.o;go_wp2_with fail
     refine (hpu _ true).mono ?_;rintro e w2 ⟨rfl,hE⟩;have HE2:=Hd (HE.o.trans hE);rw[←HSD.o];clear hE hpu;go_wp2_with fail
     exact bodyPost_ret (v:=.tuple #[.string p,.bool true,.bool true]) (by kernel_rfl) rfl ⟨rfl,HE2.o⟩
    | false =>
     have hj1:j=0:=hjl;subst hj1;clear hjl hj hj2;have hpu:=HPU.o;have heq:=HEQ.o;go_wp2_with fail
     refine (hpu _ false).mono ?_;rintro e w2 ⟨rfl,hE⟩;have HE2:=Hd (HE.o.trans hE);rw[←HSD.o];clear hE hpu;go_wp2_with fail
     exact bodyPost_ret (v:=.tuple #[.string p,.bool false,.bool true]) (by kernel_rfl) rfl ⟨rfl,HE2.o⟩
   ·have hl:leaf=true:=by cases leaf with | true=>rfl | false=>unfold lfN at hj hjl;simp at hj hjl;omega
    subst hl;have hj0:j=0:=by have h1:¬ j=1:=hjl;omega
    subst hj0;have hne:=HNE.o false (by decide);have hpu:=HPU.o;clear hjl hj hj2;go_wp2_with fail
    refine (hpu _ false).mono ?_;rintro e w2 ⟨rfl,hE⟩;have HE2:=Hd (HE.o.trans hE);clear hE hpu;go_wp2_with fail
    go_roundw
    case rel=>exact⟨1,Nat.le_refl _,rfl,HE2.o⟩
    case measure=>simp[intOf]
theorem jl5(w:World)(p:ByteArray)(leaf:Bool)(hs:p.size≤10000)(hv:jaO p=true):Calls Tryz.prog 255 #[.string (putB p leaf)] w fun e w'=>e=.returned (.tuple #[.string p,.bool leaf,.bool true])∧Ext w w':=by
 cases ho:oddB p with
 | true=>exact jlH w p leaf hs hv ho
 | false=>exact jkr w p leaf hs hv ho
end
section
open Go Go.RowKit
attribute [local go_sem] Oper.semAt_some
theorem jgL(b:UInt8)(n:Nat):0 < (jbp b n).size:=by
 unfold jbp;split
 ·exact Nat.zero_lt_one
 ·rw[ByteArray.size_append]
  exact Nat.lt_of_lt_of_le Nat.zero_lt_one (Nat.le_add_right 1 _)
theorem jcA(b:ByteArray):0 < (jam b).size:=by
 unfold jam;split
 ·rename_i h;omega
 ·rw[ByteArray.size_append];have:=jgL 128 b.size;omega
theorem jjX(xs:List ByteArray):0 < (jaR xs).size:=by
 unfold jaR;rw[ByteArray.size_append];have:=jgL 192 (catB xs).size;omega
theorem jb6(b:ByteArray)(hb:b.size≤100000)(h0:0 < (jam b).size):ji9 (jam b):=⟨h0,fun w y h=>(jdy w b y hb h).mono fun e w' ⟨h1,h2⟩=>⟨_,_,h1,h2⟩⟩
theorem jiZ(xs:List ByteArray)(hb:(catB xs).size≤100000)(h0:0 < (jaR xs).size):ji9 (jaR xs):=⟨h0,fun w y h=>(jfa w xs y hb h).mono fun e w' ⟨h1,h2⟩=>⟨_,_,h1,h2⟩⟩
theorem jeZ{W0 W:World}{v:Value}{n:Nat}{xs:List ByteArray}(h:ORow 9 1 W0 W v n (xs.map Value.string))(hn:0 < n):∃ g c,v=.slice (some ⟨g,0,none⟩) n c∧∀ (j:Nat) t,xs[j]?=some t→W.cell? ⟨g,j,none⟩=some (.string t):=by
 have ho:=h.own
 obtain⟨h1,⟨h2,h3⟩ |⟨g,cap,cur,h2,h3⟩⟩:=h.own
 ·obtain⟨a,c,e⟩:=h.sl
  rw[e]at h2
  have:=(Value.slice.inj h2).2.1
  omega
 ·subst h2
  refine⟨g,cap,rfl,fun j t ht=>?_⟩
  have q:=ho.cells (g:=g) rfl j (.string t) (by rw[List.getElem?_map,ht];rfl)
  rwa [Addr.add_lit,Nat.zero_add]at q
theorem jeg(w:World)(xs:List ByteArray)(hb:(catB xs).size≤100000)(hs:(jaR xs).size≤1000000):Calls Tryz.prog 253 #[.string (jaR xs)] w fun e w'=>e=.returned (.tuple #[.bool true,.string (catB xs),.string ⟨#[]⟩,.int .i64 0])∧Ext w w':=by
 have h0:jaR xs++(⟨#[]⟩:ByteArray)=jaR xs:=ByteArray.append_empty;have h:=jfa w xs ⟨#[]⟩ hb (by rw[h0];exact hs)
 rwa [h0]at h
section
variable {I:ByteArray→jae→Prop} (HP:InlP I)
include HP
theorem jim{r:ByteArray}(h:MayP I r):r.size≤33:=by
 rcases h with h |⟨m,h⟩
 ·exact Nat.le_of_eq h.size
 ·have:=HP.small r m h;omega
theorem jil{r:ByteArray}(h:MayP I r):ji9 r:=by
 rcases h with⟨h,hs,rfl⟩ |⟨m,h⟩
 ·exact jb6 h (by omega) (jcA h)
 ·have hz:=HP.small r m h
  obtain⟨xs,rfl,_⟩:=HP.list r m h
  exact jiZ xs (by unfold jaR at hz;rw[ByteArray.size_append]at hz;omega) (jjX xs)
end
section
variable {I:ByteArray→jae→Prop} (HP:InlP I) (HI:InlR I)
include HP HI
theorem jhI(w:World)(p v:ByteArray)(h2:(⟨1,p,v,jat 16⟩:jae).pathOk 0=true)(h3:0 < v.size)(h4:v.size≤80):Calls Tryz.prog 237 #[.string (jaV ⟨1,p,v,jat 16⟩)] w fun e w'=>e=.returned (.tuple #[jae.V ⟨1,p,v,jat 16⟩,.bool true])∧Ext w w':=by
 have hG:jbM I ⟨1,p,v,jat 16⟩:=.leaf p v h2 h3 h4
 obtain⟨z1,z2,z3⟩:=jbi h2
 have hs1:=jaY p true;have hs2:=jaA (putB p true);have hs3:=jaA v;have z2:p.size≤12:=z2;have HPUT:=Hd (fun w1=>je9 HP HI w1 _ hG);have HGET:=Hd (fun w1=>jl5 w1 p true (by omega) z3)
 obtain⟨put,hput⟩:∃ put,put=putB p true:=⟨_,rfl⟩
 have hnb:jaV ⟨1,p,v,jat 16⟩=jaR [jam put,jam v]:=by rw[hput];rfl
 rw[←hput]at hs1 hs2 HGET;have hc:(catB [jam put,jam v]).size≤200:=by rw[jaJ,jaJ,jbC];omega
 have hls:=jbG [jam put,jam v];rw[hnb]at HPUT ⊢;have HSP:=Hd (fun w1=>jeg w1 [jam put,jam v] (by omega) (by omega));have hpp:=jcA put;have hpv:=jcA v;have HIT:=Hd (fun w1=>jeB w1 [jam put,jam v] (fun x hx=>by
  simp only[List.mem_cons,List.not_mem_nil,or_false]at hx;rcases hx with rfl | rfl
  ·exact jb6 put (by omega) hpp
  ·exact jb6 v (by omega) hpv) (by simp) (by omega))
 have HT1:=Hd (fun w1=>jeC w1 put (by omega));have HT2:=Hd (fun w1=>jeC w1 v (by omega))
 obtain⟨s,hs⟩:∃ s,s=jaR [jam put,jam v]:=⟨_,rfl⟩
 obtain⟨b,hb⟩:∃ b,b=catB [jam put,jam v]:=⟨_,rfl⟩
 obtain⟨t1,ht1⟩:∃ t1,t1=jam put:=⟨_,rfl⟩
 obtain⟨t2,ht2⟩:∃ t2,t2=jam v:=⟨_,rfl⟩
 have c0:¬(1000:Int) < (s.size:Int):=by rw[hs];omega
 rw[←hs, ←hb]at HSP;rw[←hb, ←ht1, ←ht2]at HIT;rw[←ht1]at HT1;rw[←ht2]at HT2;rw[←hs]at HPUT ⊢;clear hG h2 z1 z2 z3 hs1 hs2 hs3 hput hnb hc hls hpp hpv hs hb ht1 ht2;unfold jae.V at HPUT ⊢;go_enter Tryz.func237,Tryz.ntmps237;go_wp2_with (first |(refine jap Tryz.allocNode rfl rfl ?_;have hx1:=HR1.o;intro W2 hB2 hE2) |(refine jap Tryz.allocNode rfl rfl ?_;intro W1 hB1 hE1;have HR1:=Hd hB1) |(refine jal (vs:=jaL.cells) rfl rfl rfl rfl hB2 rfl Tryz.szNode jaL.one ?_;intro W3 hB3 hE3))
 have HN3:=Hd hB3;have HR3:=Hd ((HR1.o.keeps hE2 (fun h=>h)).keeps hE3 (by have:=HR1.o.lt;omega));have hX3:Ext w W3:=(hE1.trans hE2).trans' hE3 (fun x hx e=>by have e:x=W1.heap.size:=e;have:=hE1.size;omega);have HX3:=Hd hX3
 obtain⟨gr,hgr⟩:∃ gr,gr=w.heap.size:=⟨_,rfl⟩
 obtain⟨gn,hgn⟩:∃ gn,gn=W1.heap.size:=⟨_,rfl⟩
 have HGN:=Hd (show gr≠gn∧w.heap.size≤gr∧w.heap.size≤gn from by have:=HR1.o.lt;have:=hE1.size;omega);rw[←hgr]at HR3 ⊢;rw[←hgn]at HN3 ⊢;clear hB1 hE1 HR1 hx1 hB2 hE2 hB3 hE3 hX3 hgr hgn;refine (HSP.o W3).mono ?_;rintro e w4 ⟨rfl,hE⟩;have HE4:=Hd hE;clear hE;go_wp2_with fail
 refine (HIT.o w4).mono ?_;rintro e w5 ⟨lv,rfl,hL⟩
 obtain⟨g,c,rfl,hcell⟩:=jeZ hL (Nat.zero_lt_succ _)
 rw[show [t1,t2].length=2 from rfl];have q1:=hcell 0 t1 rfl;have q2:=hcell 1 t2 rfl;have HQ:=Hd (And.intro q1 q2);have HE5:=Hd (HE4.o.trans hL.ext);have hg4:w4.heap.size≤g:=hL.new g rfl;have hgn4:=HN3.o.lt;have hgs4:=HE4.o.size;have hne1:¬ gn=g:=by omega
 have hne2:¬ g=gn:=by omega
 clear hcell hL q2 hg4 hgn4 hgs4;go_wp2_with fail
 refine (HT1.o w5).mono ?_;rintro e w6 ⟨rfl,hE⟩;have HE6:=Hd hE;clear hE q1;go_wp2_with fail
 refine (HGET.o w6).mono ?_;rintro e w7 ⟨rfl,hE⟩;have HE7:=Hd (HE6.o.trans hE);have HN7:=Hd (HN3.o.keeps (HE5.o.trans HE7.o) (fun h=>h));have HR7:=Hd (HR3.o.keeps (HE5.o.trans HE7.o) (fun h=>h));clear hE;have k0:=HN7.o.cellL (i:=0) (v:=.int .i64 0) rfl;have k1:=HN7.o.cellL (i:=1) (v:=.string ⟨#[]⟩) rfl;have f0:w7.frozen? ⟨gn,0,none⟩=false:=HN7.o.frozen;have f1:w7.frozen? ⟨gn,1,none⟩=false:=HN7.o.frozen;have q2:=jab HQ.o.2 HE7.o;go_wp2_with fail
 obtain⟨w8,hw8⟩:∃ w8,w8=(w7.setCell ⟨gn,1,none⟩ (.string p)).setCell ⟨gn,0,none⟩ (.int .i64 1):=⟨_,rfl⟩
 have hN8:=(HN7.o.set_same (i:=1) (.string p)).set_same (i:=0) (.int .i64 1);have hk8:jah (fun z=>z=gn) w7 w8:=by rw[hw8];exact ((jah.refl (fun z=>z=gn) w7).setCell (p:=⟨gn,1,none⟩) (.inl rfl) _).setCell (p:=⟨gn,0,none⟩) (.inl rfl) _
 rw[←hw8]at hN8 ⊢;have HN8:=Hd (show Blk w8 gn (.cells (jae.cells ⟨1,p,⟨#[]⟩,jat 16⟩).toArray 144)from hN8);have HK8:=Hd hk8;have HR8:=Hd (HR7.o.keeps hk8 HGN.o.1);clear k0 k1 f0 f1 q2 hw8 hN8 hk8;refine (HT2.o w8).mono ?_;rintro e w9 ⟨rfl,hE⟩;have HE9:=Hd hE;have HN9:=Hd (HN8.o.keeps hE (fun h=>h));have k2:=HN9.o.cellL (i:=2) (v:=.string ⟨#[]⟩) rfl;have f2:w9.frozen? ⟨gn,2,none⟩=false:=HN9.o.frozen;have hN10:Blk (w9.setCell ⟨gn,2,none⟩ (.string v)) gn (.cells (jae.cells ⟨1,p,v,jat 16⟩).toArray 144):=HN9.o.set_same (i:=2) (.string v);have hld:=jar _ gn ⟨1,p,v,jat 16⟩ rfl hN10;have HN10:=Hd hN10;unfold jae.V at hld;clear hE hN10;go_wp2_with (refine jag 144 (.tmp 4) rfl rfl _ _ rfl hld ?_)
 have HR10:=Hd ((HR8.o.keeps HE9.o (fun h=>h)).keeps ((jah.refl (fun z=>z=gn) w9).setCell (p:=⟨gn,2,none⟩) (.inl rfl) (.string v)) HGN.o.1);have HK10:=Hd ((jah.refl (fun z=>z=gn) w9).setCell (p:=⟨gn,2,none⟩) (.inl rfl) (.string v))
 obtain⟨w10,hw10⟩:∃ w10,w10=w9.setCell ⟨gn,2,none⟩ (.string v):=⟨_,rfl⟩
 rw[←hw10]at HR10 HK10 HN10 ⊢;clear k2 f2 hld hw10;refine (HPUT.o w10).mono ?_;rintro e w11 ⟨rfl,hE⟩;have HE11:=Hd hE;have hN11:=HN10.o.keeps hE (fun h=>h);have hld:=jar _ gn ⟨1,p,v,jat 16⟩ rfl hN11;have hR11:=HR10.o.keeps hE (fun h=>h);have hss:(s != s)=false:=by unfold bne;rw[show (s == s)=true by rw[jcV];exact decide_eq_true rfl];rfl
 unfold jae.V at hld;clear hE;go_wp2_with (first |(refine jag 144 (.tmp 4) rfl rfl _ _ rfl hld ?_) |(refine jal (vs:=jae.cells ⟨1,p,v,jat 16⟩) rfl rfl rfl rfl hR11 rfl Tryz.szNode (jae.one _) ?_;intro W12 hB12 hE12))
 refine bodyPost_ret (jaB rfl rfl rfl (jax W12 _ ⟨1,p,v,jat 16⟩ rfl hB12)) rfl ?_;have hz:=HGN.o;have e8:=((HX3.o.trans HE5.o).trans HE7.o).trans' HK8.o (fun x hx e=>by have e:x=gn:=e;omega);have e10:=(e8.trans HE9.o).trans' HK10.o (fun x hx e=>by have e:x=gn:=e;omega)
 exact⟨rfl,(e10.trans HE11.o).trans' hE12 (fun x hx e=>by have e:x=gr:=e;omega)⟩
theorem ji0(w:World)(p r:ByteArray)(h2:(⟨2,p,⟨#[]⟩,r :: jat 15⟩:jae).pathOk 1=true)(h3:r.size≠0)(h4:jdB r∨∃ m,I r m∧m.kind=3):Calls Tryz.prog 237 #[.string (jaV ⟨2,p,⟨#[]⟩,r :: jat 15⟩)] w fun e w'=>e=.returned (.tuple #[jae.V ⟨2,p,⟨#[]⟩,r :: jat 15⟩,.bool true])∧Ext w w':=by
 have hG:jbM I ⟨2,p,⟨#[]⟩,r :: jat 15⟩:=.ext p r h2 h3 h4
 obtain⟨z1,z2,z3⟩:=jbi h2
 have hs1:=jaY p false;have hs2:=jaA (putB p false);have hrs:=jim HP (h4.imp id (fun ⟨m,h,_⟩=>⟨m,h⟩):MayP I r);have hri:=jil HP (h4.imp id (fun ⟨m,h,_⟩=>⟨m,h⟩):MayP I r);have z2:p.size≤12:=z2;have HPUT:=Hd (fun w1=>je9 HP HI w1 _ hG);have HGET:=Hd (fun w1=>jl5 w1 p false (by omega) z3)
 obtain⟨put,hput⟩:∃ put,put=putB p false:=⟨_,rfl⟩
 have hnb:jaV ⟨2,p,⟨#[]⟩,r :: jat 15⟩=jaR [jam put,r]:=by rw[hput];rfl
 rw[←hput]at hs1 hs2 HGET;have hc:(catB [jam put,r]).size≤200:=by rw[jaJ,jaJ,jbC];omega
 have hls:=jbG [jam put,r];rw[hnb]at HPUT ⊢;have HSP:=Hd (fun w1=>jeg w1 [jam put,r] (by omega) (by omega));have hpp:=jcA put;have HIT:=Hd (fun w1=>jeB w1 [jam put,r] (fun x hx=>by
  simp only[List.mem_cons,List.not_mem_nil,or_false]at hx;rcases hx with rfl | rfl
  ·exact jb6 put (by omega) hpp
  ·exact hri) (by simp) (by omega))
 have HT1:=Hd (fun w1=>jeC w1 put (by omega))
 obtain⟨s,hs⟩:∃ s,s=jaR [jam put,r]:=⟨_,rfl⟩
 obtain⟨b,hb⟩:∃ b,b=catB [jam put,r]:=⟨_,rfl⟩
 obtain⟨t1,ht1⟩:∃ t1,t1=jam put:=⟨_,rfl⟩
 have c0:¬(1000:Int) < (s.size:Int):=by rw[hs];omega
 rw[←hs, ←hb]at HSP;rw[←hb, ←ht1]at HIT;rw[←ht1]at HT1;rw[←hs]at HPUT ⊢;clear hG h2 z1 z2 z3 hs1 hs2 hrs hri h3 h4 hput hnb hc hls hpp hs hb ht1;unfold jae.V at HPUT ⊢;go_enter Tryz.func237,Tryz.ntmps237;go_wp2_with (first |(refine jap Tryz.allocNode rfl rfl ?_;have hx1:=HR1.o;intro W2 hB2 hE2) |(refine jap Tryz.allocNode rfl rfl ?_;intro W1 hB1 hE1;have HR1:=Hd hB1) |(refine jal (vs:=jaL.cells) rfl rfl rfl rfl hB2 rfl Tryz.szNode jaL.one ?_;intro W3 hB3 hE3))
 have HN3:=Hd hB3;have HR3:=Hd ((HR1.o.keeps hE2 (fun h=>h)).keeps hE3 (by have:=HR1.o.lt;omega));have hX3:Ext w W3:=(hE1.trans hE2).trans' hE3 (fun x hx e=>by have e:x=W1.heap.size:=e;have:=hE1.size;omega);have HX3:=Hd hX3
 obtain⟨gr,hgr⟩:∃ gr,gr=w.heap.size:=⟨_,rfl⟩
 obtain⟨gn,hgn⟩:∃ gn,gn=W1.heap.size:=⟨_,rfl⟩
 have HGN:=Hd (show gr≠gn∧w.heap.size≤gr∧w.heap.size≤gn from by have:=HR1.o.lt;have:=hE1.size;omega);rw[←hgr]at HR3 ⊢;rw[←hgn]at HN3 ⊢;clear hB1 hE1 HR1 hx1 hB2 hE2 hB3 hE3 hX3 hgr hgn;refine (HSP.o W3).mono ?_;rintro e w4 ⟨rfl,hE⟩;have HE4:=Hd hE;clear hE;go_wp2_with fail
 refine (HIT.o w4).mono ?_;rintro e w5 ⟨lv,rfl,hL⟩
 obtain⟨g,c,rfl,hcell⟩:=jeZ hL (Nat.zero_lt_succ _)
 rw[show [t1,r].length=2 from rfl];have q1:=hcell 0 t1 rfl;have q2:=hcell 1 r rfl;have HQ:=Hd (And.intro q1 q2);have HE5:=Hd (HE4.o.trans hL.ext);have hg4:w4.heap.size≤g:=hL.new g rfl;have hgn4:=HN3.o.lt;have hgs4:=HE4.o.size;have hne1:¬ gn=g:=by omega
 have hne2:¬ g=gn:=by omega
 clear hcell hL q2 hg4 hgn4 hgs4;go_wp2_with fail
 refine (HT1.o w5).mono ?_;rintro e w6 ⟨rfl,hE⟩;have HE6:=Hd hE;clear hE q1;go_wp2_with fail
 refine (HGET.o w6).mono ?_;rintro e w7 ⟨rfl,hE⟩;have HE7:=Hd (HE6.o.trans hE);have HN7:=Hd (HN3.o.keeps (HE5.o.trans HE7.o) (fun h=>h));have HR7:=Hd (HR3.o.keeps (HE5.o.trans HE7.o) (fun h=>h));clear hE;have k0:=HN7.o.cellL (i:=0) (v:=.int .i64 0) rfl;have k1:=HN7.o.cellL (i:=1) (v:=.string ⟨#[]⟩) rfl;have k3:=HN7.o.cellL (i:=3) (v:=.string ⟨#[]⟩) rfl;have f0:w7.frozen? ⟨gn,0,none⟩=false:=HN7.o.frozen;have f1:w7.frozen? ⟨gn,1,none⟩=false:=HN7.o.frozen;have f3:w7.frozen? ⟨gn,3,none⟩=false:=HN7.o.frozen;have q2:=jab HQ.o.2 HE7.o;have hN10:Blk (((w7.setCell ⟨gn,1,none⟩ (.string p)).setCell ⟨gn,0,none⟩ (.int .i64 2)).setCell ⟨gn,3,none⟩ (.string r)) gn (.cells (jae.cells ⟨2,p,⟨#[]⟩,r :: jat 15⟩).toArray 144):=((HN7.o.set_same (i:=1) (.string p)).set_same (i:=0) (.int .i64 2)).set_same (i:=3) (.string r);have hld:=jar _ gn ⟨2,p,⟨#[]⟩,r :: jat 15⟩ rfl hN10;have HN10:=Hd hN10;unfold jae.V at hld;clear hN10;go_wp2_with (refine jag 144 (.tmp 4) rfl rfl _ _ rfl hld ?_)
 have HK10:=Hd ((((jah.refl (fun z=>z=gn) w7).setCell (p:=⟨gn,1,none⟩) (.inl rfl) (.string p)).setCell (p:=⟨gn,0,none⟩) (.inl rfl) (.int .i64 2)).setCell (p:=⟨gn,3,none⟩) (.inl rfl) (.string r));have HR10:=Hd (HR7.o.keeps HK10.o HGN.o.1)
 obtain⟨w10,hw10⟩:∃ w10,w10=((w7.setCell ⟨gn,1,none⟩ (.string p)).setCell ⟨gn,0,none⟩ (.int .i64 2)).setCell ⟨gn,3,none⟩ (.string r):=⟨_,rfl⟩
 rw[←hw10]at HR10 HK10 HN10 ⊢;clear k0 k1 k3 f0 f1 f3 q2 hld hw10;refine (HPUT.o w10).mono ?_;rintro e w11 ⟨rfl,hE⟩;have HE11:=Hd hE;have hN11:=HN10.o.keeps hE (fun h=>h);have hld:=jar _ gn ⟨2,p,⟨#[]⟩,r :: jat 15⟩ rfl hN11;have hR11:=HR10.o.keeps hE (fun h=>h);have hss:(s != s)=false:=by unfold bne;rw[show (s == s)=true by rw[jcV];exact decide_eq_true rfl];rfl
 unfold jae.V at hld;clear hE;go_wp2_with (first |(refine jag 144 (.tmp 4) rfl rfl _ _ rfl hld ?_) |(refine jal (vs:=jae.cells ⟨2,p,⟨#[]⟩,r :: jat 15⟩) rfl rfl rfl rfl hR11 rfl Tryz.szNode (jae.one _) ?_;intro W12 hB12 hE12))
 refine bodyPost_ret (jaB rfl rfl rfl (jax W12 _ ⟨2,p,⟨#[]⟩,r :: jat 15⟩ rfl hB12)) rfl ?_;have hz:=HGN.o;have e10:=((HX3.o.trans HE5.o).trans HE7.o).trans' HK10.o (fun x hx e=>by have e:x=gn:=e;omega)
 exact⟨rfl,(e10.trans HE11.o).trans' hE12 (fun x hx e=>by have e:x=gr:=e;omega)⟩
end
end
section
open Go Go.RowKit
attribute [local go_sem] Oper.semAt_some
theorem Tryz.enterText4(args:Array Value)(w:World):(callFunc 212 args).run Tryz.prog w=.ok (.enter 212 args) w:=by kernel_rfl
section
variable {I:ByteArray→jae→Prop} (HP:InlP I) (HI:InlR I)
include HP HI
theorem jhJ(w:World):Calls Tryz.prog 237 #[.string (jaV jaL)] w fun e w'=>e=.returned (.tuple #[jaL.V,.bool true])∧Ext w w':=by
 have HPUT:=Hd (fun w1=>je9 HP HI w1 _ (jbM.none (I:=I)));have h0:jam ⟨#[]⟩++(⟨#[]⟩:ByteArray)=jam ⟨#[]⟩:=ByteArray.append_empty;have hsp:=fun w1=>jdy w1 ⟨#[]⟩ ⟨#[]⟩ (by decide) (by rw[h0];decide);rw[h0]at hsp;have HSP:=Hd hsp;have HIT:=Hd (fun w1=>jeB w1 [] (fun x hx=>by cases hx) (by simp) (by decide));rw[show catB []=(⟨#[]⟩:ByteArray)from rfl]at HIT;rw[show jaV jaL=jam ⟨#[]⟩from rfl]at HPUT ⊢;have c0:¬(1000:Int) < ((jam ⟨#[]⟩).size:Int):=by decide
 obtain⟨s,hs⟩:∃ s,s=jam ⟨#[]⟩:=⟨_,rfl⟩
 rw[←hs]at HPUT HSP c0 ⊢;clear h0 hsp hs;unfold jae.V at HPUT ⊢;go_enter Tryz.func237,Tryz.ntmps237;go_wp2_with (first |(refine jap Tryz.allocNode rfl rfl ?_;have hx1:=HR1.o;intro W2 hB2 hE2) |(refine jap Tryz.allocNode rfl rfl ?_;intro W1 hB1 hE1;have HR1:=Hd hB1) |(refine jal (vs:=jaL.cells) rfl rfl rfl rfl hB2 rfl Tryz.szNode jaL.one ?_;intro W3 hB3 hE3))
 have HN3:=Hd hB3;have HR3:=Hd ((HR1.o.keeps hE2 (fun h=>h)).keeps hE3 (by have:=HR1.o.lt;omega));have hX3:Ext w W3:=(hE1.trans hE2).trans' hE3 (fun x hx e=>by have e:x=W1.heap.size:=e;have:=hE1.size;omega);have HX3:=Hd hX3
 obtain⟨gr,hgr⟩:∃ gr,gr=w.heap.size:=⟨_,rfl⟩
 obtain⟨gn,hgn⟩:∃ gn,gn=W1.heap.size:=⟨_,rfl⟩
 have HGN:=Hd (show gr≠gn∧w.heap.size≤gr∧w.heap.size≤gn from by have:=HR1.o.lt;have:=hE1.size;omega);rw[←hgr]at HR3 ⊢;rw[←hgn]at HN3 ⊢;clear hB1 hE1 HR1 hx1 hB2 hE2 hB3 hE3 hX3 hgr hgn;refine (HSP.o W3).mono ?_;rintro e w4 ⟨rfl,hE⟩;have HE4:=Hd hE;clear hE;go_wp2_with fail
 refine (HIT.o w4).mono ?_;rintro e w5 ⟨lv,rfl,hL⟩;have HE5:=Hd (HE4.o.trans hL.ext)
 obtain⟨la,lc,hsl⟩:=hL.sl
 rw[show (List.length ([]:List ByteArray))=0 from rfl]at hsl;subst hsl;have hN10:=HN3.o.keeps HE5.o (fun h=>h);have hld:=jar _ gn jaL rfl hN10;have HN10:=Hd hN10;have HR10:=Hd (HR3.o.keeps HE5.o (fun h=>h));unfold jae.V at hld;clear hL hN10;go_wp2_with (refine jag 144 (.tmp 4) rfl rfl _ _ rfl hld ?_)
 clear hld;refine (HPUT.o w5).mono ?_;rintro e w11 ⟨rfl,hE⟩;have HE11:=Hd hE;have hN11:=HN10.o.keeps hE (fun h=>h);have hld:=jar _ gn jaL rfl hN11;have hR11:=HR10.o.keeps hE (fun h=>h);have hss:(s != s)=false:=by unfold bne;rw[show (s == s)=true by rw[jcV];exact decide_eq_true rfl];rfl
 unfold jae.V at hld;clear hE;go_wp2_with (first |(refine jag 144 (.tmp 4) rfl rfl _ _ rfl hld ?_) |(refine jal (vs:=jaL.cells) rfl rfl rfl rfl hR11 rfl Tryz.szNode (jae.one _) ?_;intro W12 hB12 hE12))
 refine bodyPost_ret (jaB rfl rfl rfl (jax W12 _ jaL rfl hB12)) rfl ?_;have hz:=HGN.o
 exact⟨rfl,((HX3.o.trans HE5.o).trans HE11.o).trans' hE12 (fun x hx e=>by have e:x=gr:=e;omega)⟩
end
def jcp(rs:List ByteArray)(k:Nat):List ByteArray:=rs.take k++jat (16 - k)
theorem jef{rs:List ByteArray}(hr:rs.length=16){k:Nat}(hk:k≤16):(jcp rs k).length=16:=by
 unfold jcp jat;rw[List.length_append,List.length_take,List.length_replicate];omega
theorem jg0{rs:List ByteArray}(hr:rs.length=16):jcp rs 16=rs:=by
 unfold jcp;rw[List.take_of_length_le (by omega)];simp[jat]
theorem je6{rs:List ByteArray}(hr:rs.length=16){k:Nat}{r:ByteArray}(h:rs[k]?=some r):(jcp rs k).set k r=jcp rs (k+1):=by
 have hk:=(List.getElem?_eq_some_iff.1 h).1;have ht:(rs.take k).length=k:=by rw[List.length_take];omega
 unfold jcp jat;rw[List.set_append_right _ _ (by omega),ht,Nat.sub_self,show 16 - k=(16 - (k+1))+1 by omega,List.replicate_succ,List.set_cons_zero,List.take_add_one,h]
 simp
theorem jg1{rs:List ByteArray}(hr:rs.length=16){k:Nat}(h:rs[k]?=some ⟨#[]⟩):jcp rs (k+1)=jcp rs k:=by
 rw[←je6 hr h];have hk:=(List.getElem?_eq_some_iff.1 h).1;have ht:(rs.take k).length=k:=by rw[List.length_take];omega
 apply List.ext_getElem?;intro j;rw[List.getElem?_set];split
 ·rename_i e
  subst e;rw[if_pos (by rw[jef hr (by omega)];omega)];unfold jcp jat;rw[List.getElem?_append_right (by omega),ht,Nat.sub_self,List.getElem?_replicate,if_pos (by omega)]
 ·rfl
theorem jgA(rs:List ByteArray)(v x:ByteArray)(k:Nat):(jae.cells ⟨3,⟨#[]⟩,v,rs⟩).toArray.setIfInBounds (3+k) (.string x)=(jae.cells ⟨3,⟨#[]⟩,v,rs.set k x⟩).toArray:=by
 unfold jae.cells;rw[show 3+k=k+1+1+1 by omega];simp only[List.setIfInBounds_toArray,List.set_cons_succ,List.map_set]
theorem jlx{I:ByteArray→jae→Prop}(HP:InlP I){r:ByteArray}(h:MayP I r):r≠jam ⟨#[]⟩:=fun e=>by
 have e1:r.size=1:=by rw[e];rfl
 rcases h with h |⟨m,h⟩
 ·have:=h.size;omega
 ·obtain⟨xs,rfl,_⟩:=HP.list r m h
  have e2:=congrArg (fun z:ByteArray=>z.data.toList.head?) e;unfold jaR jbp at e1 e2
  by_cases hn:(catB xs).size≤55
  ·rw[if_pos hn]at e1 e2
   rw[ByteArray.size_append]at e1;have hz:(catB xs).size=0:=by
    have:(⟨#[192+UInt8.ofNat (catB xs).size]⟩:ByteArray).size=1:=rfl
    omega
   rw[hz]at e2;simp at e2;revert e2;decide
  ·rw[ByteArray.size_append]at e1;omega
section
variable {I:ByteArray→jae→Prop} (HP:InlP I) (HI:InlR I)
include HP HI
def Rd4R(W:World)(gn gr:Nat)(rs:List ByteArray)(iv:Value)(wr:World):Prop:=∃ k:Nat,k≤16∧iv=.int .i64 k∧Blk wr gn (.cells (jae.cells ⟨3,⟨#[]⟩,⟨#[]⟩,jcp rs k⟩).toArray 144)∧jah (fun z=>z=gn) W wr
theorem jge(w:World)(v:ByteArray)(rs:List ByteArray)(h2:rs.length=16)(h3:v.size≤80)(h4:∀ r∈rs,r.size≠0→MayP I r)(h5:2≤min v.size 1+(jaq 0 rs).length):Calls Tryz.prog 237 #[.string (jaV ⟨3,⟨#[]⟩,v,rs⟩)] w fun e w'=>e=.returned (.tuple #[jae.V ⟨3,⟨#[]⟩,v,rs⟩,.bool true])∧Ext w w':=by
 have hG:jbM I ⟨3,⟨#[]⟩,v,rs⟩:=.branch v rs h2 h3 h4 h5;have HPUT:=Hd (fun w1=>je9 HP HI w1 _ hG);have hs3:=jaA v;have hit:∀ x∈rs.map itB,x.size≤33∧ji9 x:=fun x hx=>by
  obtain⟨r,hr,rfl⟩:=List.mem_map.1 hx
  unfold itB
  by_cases h0:r.size=0
  ·rw[if_pos h0];exact⟨by decide,jb6 ⟨#[]⟩ (by decide) (jcA _)⟩
  ·rw[if_neg h0];exact⟨jim HP (h4 r hr h0),jil HP (h4 r hr h0)⟩
 have hbx:jaW rs v=rs.map itB++[jam v]:=rfl;have hc:(catB (jaW rs v)).size≤700:=by
  have:∀ L:List ByteArray,(∀ x∈L,x.size≤33)→(catB L).size≤33 * L.length:=fun L=>by
   induction L with
   | nil=>intro _;exact Nat.le_refl _
   | cons y l ih =>
    intro h;rw[jaJ,List.length_cons]
    have:=ih (fun x hx=>h x (List.mem_cons_of_mem _ hx))
    have:=h y List.mem_cons_self
    omega
  have h6:=this (rs.map itB) (fun x hx=>(hit x hx).1);rw[List.length_map,h2]at h6;rw[hbx,jdJ,ByteArray.size_append,jb1];omega
 have hls:=jbG (jaW rs v);rw[jeX v rs h2]at HPUT ⊢;have HSP:=Hd (fun w1=>jeg w1 (jaW rs v) (by omega) (by omega));have hln:(jaW rs v).length=17:=by rw[hbx,List.length_append,List.length_map,h2];rfl
 have HIT:=Hd (fun w1=>jeB w1 (jaW rs v) (fun x hx=>by
  rw[hbx]at hx;rcases List.mem_append.1 hx with hx | hx
  ·exact (hit x hx).2
  ·rw[List.mem_singleton.1 hx];exact jb6 v (by omega) (jcA v)) (by omega) (by omega))
 rw[hln]at HIT;have HT0:=Hd (fun w1=>jct w1 ⟨#[]⟩ (by decide));have HTV:=Hd (fun w1=>jeC w1 v (by omega));have HX16:=Hd (show (jaW rs v)[16]?=some (jam v) by rw[hbx,List.getElem?_append_right (by rw[List.length_map];omega),List.length_map,h2];rfl);have HXK:=Hd (show ∀ k r,rs[k]?=some r→(jaW rs v)[k]?=some (itB r)from fun k r hk=>by
  have:=(List.getElem?_eq_some_iff.1 hk).1
  rw[hbx,List.getElem?_append_left (by rw[List.length_map];exact this),List.getElem?_map,hk];rfl)
 have HNN:=Hd (show ∀ r∈rs,r.size≠0→r≠jam ⟨#[]⟩from fun r hr h0=>jlx HP (h4 r hr h0));have HRL:=Hd h2
 obtain⟨X,hX⟩:∃ X,X=jaW rs v:=⟨_,rfl⟩
 rw[←hX]at HPUT HSP HIT HX16 HXK hls ⊢
 obtain⟨s,hs⟩:∃ s,s=jaR X:=⟨_,rfl⟩
 obtain⟨b,hb⟩:∃ b,b=catB X:=⟨_,rfl⟩
 obtain⟨t2,ht2⟩:∃ t2,t2=jam v:=⟨_,rfl⟩
 obtain⟨t0,ht0⟩:∃ t0,t0=jam ⟨#[]⟩:=⟨_,rfl⟩
 have c0:¬(1000:Int) < (s.size:Int):=by rw[hs];rw[←hX]at hc;omega
 rw[←hs, ←hb]at HSP;rw[←hb]at HIT;rw[←ht2]at HTV HX16;rw[←ht0]at HT0 HNN;rw[←hs]at HPUT ⊢;have HT00:=Hd ht0;clear hG h2 h3 h4 h5 hs3 hit hbx hc hls hln hX hs hb ht2 ht0;unfold jae.V at HPUT ⊢;go_enter Tryz.func237,Tryz.ntmps237;go_wp2_with (first |(refine jap Tryz.allocNode rfl rfl ?_;have hx1:=HR1.o;intro W2 hB2 hE2) |(refine jap Tryz.allocNode rfl rfl ?_;intro W1 hB1 hE1;have HR1:=Hd hB1) |(refine jal (vs:=jaL.cells) rfl rfl rfl rfl hB2 rfl Tryz.szNode jaL.one ?_;intro W3 hB3 hE3))
 have HN3:=Hd hB3;have HR3:=Hd ((HR1.o.keeps hE2 (fun h=>h)).keeps hE3 (by have:=HR1.o.lt;omega));have hX3:Ext w W3:=(hE1.trans hE2).trans' hE3 (fun x hx e=>by have e:x=W1.heap.size:=e;have:=hE1.size;omega);have HX3:=Hd hX3
 obtain⟨gr,hgr⟩:∃ gr,gr=w.heap.size:=⟨_,rfl⟩
 obtain⟨gn,hgn⟩:∃ gn,gn=W1.heap.size:=⟨_,rfl⟩
 have HGN:=Hd (show gr≠gn∧w.heap.size≤gr∧w.heap.size≤gn from by have:=HR1.o.lt;have:=hE1.size;omega);rw[←hgr]at HR3 ⊢;rw[←hgn]at HN3 ⊢;clear hB1 hE1 HR1 hx1 hB2 hE2 hB3 hE3 hX3 hgr hgn;refine (HSP.o W3).mono ?_;rintro e w4 ⟨rfl,hE⟩;have HE4:=Hd hE;clear hE;go_wp2_with fail
 refine (HIT.o w4).mono ?_;rintro e w5 ⟨lv,rfl,hL⟩
 obtain⟨g,c,rfl,hcell⟩:=jeZ hL (Nat.zero_lt_succ _)
 have hg4:w4.heap.size≤g:=hL.new g rfl;have hgn4:=HN3.o.lt;have hgs4:=HE4.o.size;have hne1:¬ gn=g:=by omega
 have hne2:¬ g=gn:=by omega
 have HCELL:=Hd hcell;have HE5:=Hd (HE4.o.trans hL.ext);have HN5:=Hd (HN3.o.keeps HE5.o (fun h=>h));have HR5:=Hd (HR3.o.keeps HE5.o (fun h=>h));have k0:=HN5.o.cellL (i:=0) (v:=.int .i64 0) rfl;have f0:w5.frozen? ⟨gn,0,none⟩=false:=HN5.o.frozen;clear hcell hL hg4 hgn4 hgs4;go_wp2_with fail
 have hN6:Blk (w5.setCell ⟨gn,0,none⟩ (.int .i64 3)) gn (.cells (jae.cells ⟨3,⟨#[]⟩,⟨#[]⟩,jat 16⟩).toArray 144):=HN5.o.set_same (i:=0) (.int .i64 3);have HK6:=Hd ((jah.refl (fun z=>z=gn) w5).setCell (p:=⟨gn,0,none⟩) (.inl rfl) (.int .i64 3))
 obtain⟨w6,hw6⟩:∃ w6,w6=w5.setCell ⟨gn,0,none⟩ (.int .i64 3):=⟨_,rfl⟩
 rw[←hw6]at hN6 HK6 ⊢;have HN6:=Hd hN6;clear k0 f0 hw6 hN6;go_loopw [14] (fun iv wr=>Rd4R w6 gn gr rs iv wr) (fun iv _=>16 - (intOf iv).toNat)
 case atStart=>exact⟨0,by omega,rfl,HN6.o,jah.refl _ _⟩
 case round =>
  obtain⟨k,hk,rfl,hN,hK⟩:=hrel
  have HN:=Hd hN;have HK:=Hd hK;clear hN hK
  by_cases hlt:k < 16
  ·have b1:(k:Int) < 16:=by omega
   have b2:k < 17:=by omega
   obtain⟨r,hr⟩:∃ r,rs[k]?=some r:=⟨_,List.getElem?_eq_getElem (by have:=HRL.o;omega)⟩
   have q1:wr.cell? ⟨g,k,none⟩=some (.string (itB r)):=jaw (jaw (HCELL.o k _ (HXK.o k r hr)) HK6.o hne2) HK.o hne2;have Q1:=Hd q1;have HR:=Hd hr
   obtain⟨x,hx⟩:∃ x,x=itB r:=⟨_,rfl⟩
   have HX:=Hd hx;rw[←hx]at q1 Q1;clear hr hx;go_wp2_with fail
   refine jad [0,1,2,3,4,5] Ext ExtR ExtT (by kernel_rfl) (by kernel_rfl) (by kernel_rfl) ?_;iterate 3 (refine jac _ rfl (by kernel_rfl) rfl rfl (fun K hK=>?_);go_big_quiet_op;refine hK _ ?_;clear hK K)
   refine jai ⟨g,k,none⟩ _ rfl (by kernel_rfl) rfl rfl (fun w1 h1=>jaa Tryz.uStr rfl (jab Q1.o ((jaj wr).trans h1))) ?_;simp only[Act.put,sA,sB,sC];refine jav _ 212 #[.string ⟨#[]⟩] (.string t0) rfl (by kernel_rfl) rfl (fun w1=>jan Tryz.enterText4 (by kernel_rfl)) (fun w1 h1=>HT0.o w1) ?_;simp only[Act.put,sA,sB,sC]
   (refine jac _ rfl (by kernel_rfl) rfl rfl (fun K hK=>?_);go_big_quiet_op;refine hK _ ?_;clear hK K)
   refine jas (by kernel_rfl) (fun w7 he=>?_);have HX7:=Hd ((jaj wr).trans he);have hN7:=HN.o.keeps HX7.o (fun h=>h);have HN7:=Hd hN7;have HK7:=Hd (HK.o.trans (HX7.o.mono (fun _ _ h=>h.elim)));clear he q1 hN7
   obtain⟨q,hq⟩:∃ q,q=(!(x.toList == t0.toList)):=⟨_,rfl⟩
   rw[←hq]
   by_cases hxt:x=t0
   ·have hr0:rs[k]?=some ⟨#[]⟩:=by
     have h1:=HR.o
     by_cases h0:r.size=0
     ·rw[h1];exact congrArg some (jdj (List.eq_nil_of_length_eq_zero h0))
     ·exfalso
      refine HNN.o r (List.mem_of_getElem? h1) h0 ?_;rw[←hxt,HX.o];unfold itB;rw[if_neg h0]
    have HKN:=Hd (jg1 HRL.o hr0);have hq1:(t0 != t0)=false:=by unfold bne;rw[show (t0 == t0)=true by rw[jcV];exact decide_eq_true rfl];rfl
    obtain rfl:q=false:=by rw[hq,hxt,beq_self_eq_true];rfl
    clear hr0 hxt hq hq1;go_wp2_with fail
    go_roundw
    case rel=>exact⟨k+1,by omega,by go_num,by rw[HKN.o];exact HN7.o,HK7.o⟩
    case measure=>simp[intOf];omega
   ·have hr1:x=r:=by
     rw[HX.o];unfold itB;rw[if_neg (fun h0=>hxt (by rw[HX.o,HT00.o];unfold itB;rw[if_pos h0]))]
    have HKS:=Hd (show (jcp rs k).set k x=jcp rs (k+1) by rw[hr1];exact je6 HRL.o HR.o);have hq1:(x != t0)=true:=by unfold bne;rw[show (x == t0)=false by rw[jcV];exact decide_eq_false hxt];rfl
    obtain rfl:q=true:=by rw[hq,beq_eq_false_iff_ne.2 (fun e=>hxt (jb7 e))];rfl
    have q1:=jab Q1.o HX7.o
    obtain⟨old,k3⟩:∃ old,w7.cell? ⟨gn,3+k,none⟩=some old:=⟨_,HN7.o.cellL (List.getElem?_eq_getElem (by rw[jae.cells_len _ (jef HRL.o (by omega))];omega))⟩
    have f3:w7.frozen? ⟨gn,3+k,none⟩=false:=HN7.o.frozen;clear hxt hr1 hq hq1;go_wp2_with fail
    have hN8:=HN7.o.set_same (i:=3+k) (.string x);rw[jgA,HKS.o]at hN8
    exact⟨⟨k+1,by omega,by go_num,hN8,HK7.o.setCell (p:=⟨gn,3+k,none⟩) (.inl rfl) (.string x)⟩,by simp[intOf];omega⟩
  ·have hk16:k=16:=by omega
   subst hk16;have hN:=HN.o;rw[jg0 HRL.o]at hN;have HNA:=Hd hN;have q1:wr.cell? ⟨g,16,none⟩=some (.string t2):=jaw (jaw (HCELL.o 16 _ HX16.o) HK6.o hne2) HK.o hne2;have HRA:=Hd ((HR5.o.keeps HK6.o HGN.o.1).keeps HK.o HGN.o.1);have HKA:=Hd (HK6.o.trans HK.o);have b1:¬((16:Nat):Int) < 16:=by omega
   clear hN hlt;go_wp2_with fail
   refine (HTV.o wr).mono ?_;rintro e w9 ⟨rfl,hE⟩;have HE9:=Hd hE;have HN9:=Hd (HNA.o.keeps hE (fun h=>h));have k2:=HN9.o.cellL (i:=2) (v:=.string ⟨#[]⟩) rfl;have f2:w9.frozen? ⟨gn,2,none⟩=false:=HN9.o.frozen;have hN10:Blk (w9.setCell ⟨gn,2,none⟩ (.string v)) gn (.cells (jae.cells ⟨3,⟨#[]⟩,v,rs⟩).toArray 144):=HN9.o.set_same (i:=2) (.string v);have hld:=jar _ gn ⟨3,⟨#[]⟩,v,rs⟩ HRL.o hN10;have HN10:=Hd hN10;unfold jae.V at hld;clear hE hN10 q1;go_wp2_with (refine jag 144 (.tmp 4) rfl rfl _ _ rfl hld ?_)
   have HK10:=Hd ((jah.refl (fun z=>z=gn) w9).setCell (p:=⟨gn,2,none⟩) (.inl rfl) (.string v));have HR10:=Hd ((HRA.o.keeps HE9.o (fun h=>h)).keeps HK10.o HGN.o.1)
   obtain⟨w10,hw10⟩:∃ w10,w10=w9.setCell ⟨gn,2,none⟩ (.string v):=⟨_,rfl⟩
   rw[←hw10]at HR10 HK10 HN10 ⊢;clear k2 f2 hld hw10;refine (HPUT.o w10).mono ?_;rintro e w11 ⟨rfl,hE⟩;have HE11:=Hd hE;have hN11:=HN10.o.keeps hE (fun h=>h);have hld:=jar _ gn ⟨3,⟨#[]⟩,v,rs⟩ HRL.o hN11;have hR11:=HR10.o.keeps hE (fun h=>h);have hss:(s != s)=false:=by unfold bne;rw[show (s == s)=true by rw[jcV];exact decide_eq_true rfl];rfl
   have HL:=Hd (jae.cells_len ⟨3,⟨#[]⟩,v,rs⟩ HRL.o);unfold jae.V at hld;clear hE;go_wp2_with (first |(refine jag 144 (.tmp 4) rfl rfl _ _ rfl hld ?_) |(refine jal (vs:=jae.cells ⟨3,⟨#[]⟩,v,rs⟩) rfl rfl rfl rfl hR11 (by rw[HL.o];rfl) (by rw[HL.o];exact Tryz.szNode) (jae.one _) ?_;intro W12 hB12 hE12))
   refine bodyPost_ret (jaB rfl rfl rfl (jax W12 _ ⟨3,⟨#[]⟩,v,rs⟩ HRL.o hB12)) rfl ?_;have hz:=HGN.o;have e9:=((HX3.o.trans HE5.o).trans' HKA.o (fun x hx e=>by have e:x=gn:=e;omega)).trans HE9.o;have e10:=e9.trans' HK10.o (fun x hx e=>by have e:x=gn:=e;omega)
   exact⟨rfl,(e10.trans HE11.o).trans' hE12 (fun x hx e=>by have e:x=gr:=e;omega)⟩
end
section
variable {I:ByteArray→jae→Prop} (HP:InlP I) (HI:InlR I)
include HP HI
theorem jlK(w:World)(n:jae)(h:jbM I n):Calls Tryz.prog 237 #[.string (jaV n)] w fun e w'=>e=.returned (.tuple #[n.V,.bool true])∧Ext w w':=by
 cases h with
 | none=>exact jhJ HP HI w
 | leaf p v h2 h3 h4=>exact jhI HP HI w p v h2 h3 h4
 | ext p r h2 h3 h4=>exact ji0 HP HI w p r h2 h3 h4
 | branch v rs h2 h3 h4 h5=>exact jge HP HI w v rs h2 h3 h4 h5
end
theorem inlR:∀ d,InlR (InlD d)
 | 0=>⟨fun _ _ h=>h.elim,fun _ _ h=>h.elim,fun _ _ h=>h.elim⟩
 | d+1=>⟨fun r m h=>h.2.2.1,fun r m h=>(h.1.one (inlP d)).refs,fun r m h w=>by
  obtain⟨h1,rfl,h3,h4⟩:=h
  exact jg2 w _ m (h1.one (inlP d)).refs h4 h3 (fun w1=>jlK (inlP d) (inlR d) w1 m h1)⟩
end
section
open Go Go.RowKit
theorem Tryz.infoEnt:(Tryz.prog.info? 95).map (fun i=>(i.zero,i.size,i.bytes))=some (some (.agg #[.string ⟨#[]⟩,.string ⟨#[]⟩]),2,32):=by kernel_rfl
theorem Tryz.uEnts:Tryz.prog.underlying 22=some (.slice 95):=by kernel_rfl
theorem Tryz.sEnts:jcw Tryz.prog 22 95 2 32:=jcw.mk' Tryz.uEnts Tryz.infoEnt rfl (by decide)
abbrev ERow(w0 w:World)(v:Value)(n:Nat)(xs:List Pair):Prop:=ORow 95 2 w0 w v n (jcX xs)
theorem ERow.rd{w0 w:World}{v:Value}{n:Nat}{xs:List Pair}(h:ERow w0 w v n xs):RdP w v xs:=by
 have hl:xs.length=n:=by have:=h.len;rw[jfw]at this;omega
 obtain⟨_,⟨rfl,h2⟩ |⟨g,cap,cur,rfl,h3,h4,h5,h6,h7⟩⟩:=h.own
 ·exact .inl ⟨none,0,rfl,List.eq_nil_of_length_eq_zero (by omega)⟩
 ·subst hl
  refine .inr ⟨g,0,cap,rfl,(Array.getElem?_eq_some_iff.1 h4).1,h5,fun j x hx=>?_⟩;have hj:=(List.getElem?_eq_some_iff.1 hx).1
  obtain⟨e1,e2⟩:=jda xs j x hx
  exact⟨by rw[Nat.zero_add,h.own.cellAt (j * 2) (by omega),e1],by rw[Nat.zero_add,h.own.cellAt (j * 2+1) (by omega),e2]⟩
end
section
open Go Go.RowKit
attribute [local go_sem] Oper.semAt_some
theorem Tryz.enterPath1r(args:Array Value)(w:World):(callFunc 74 args).run Tryz.prog w=.ok (.enter 74 args) w:=by kernel_rfl
def Pa5R(w:World)(l:List Pair)(v iv:Value)(wr:World):Prop:=∃ k:Nat,k≤l.length∧iv=.int .i64 k∧ERow w wr v k ((jbb l).take k)
theorem jip(w:World)(v:Value)(l:List Pair)(hv:RdP w v l)(hn:l.length≤1000000)(hs:∀ p∈l,p.1.size≤1000000) :
  Calls Tryz.prog 73 #[v] w fun e w'=>∃ u,e=.returned u∧ERow w w' u l.length (jbb l):=by
 have HV:=Hd hv;have HS:=Hd hs
 obtain⟨a0,c0,hsl⟩:=hv.sl
 subst hsl;clear hv hs;go_enter Tryz.func73,Tryz.ntmps73;go_wp2_with fail
 go_loopw [3,4] (fun v iv wr=>Pa5R w l v iv wr) (fun _ iv _=>l.length - (intOf iv).toNat)
 case atStart=>exact⟨0,by omega,rfl,ORow.nil _ _ (ExtR w)⟩
 case round =>
  obtain⟨k,hk,rfl,hR⟩:=hrel
  have HR:=Hd hR
  obtain⟨la,lc,hsl⟩:=hR.sl
  subst hsl;clear hR
  by_cases hlt:k < l.length
  ·have b1:(k:Int) < (l.length:Int):=by omega
   obtain⟨⟨x,y⟩,hp⟩:∃ p,l[k]?=some p:=⟨_,List.getElem?_eq_getElem hlt⟩
   rcases HV.o with⟨_,_,_,h0⟩ |⟨b,o,c1,hh,hb,hc,hcell⟩
   ·rw[h0]at hlt;cases hlt
   cases hh
   obtain⟨q1,q2⟩:=hcell k _ hp
   have Q1:=Hd (jab q1 HR.o.ext);have Q2:=Hd (jab q2 HR.o.ext);have HXS:=Hd (HS.o _ (List.mem_of_getElem? hp));have HTK:=Hd (show (jbb l).take (k+1)=(jbb l).take k++[(jcg x,y)] by
    unfold jbb;rw[List.take_add_one,List.getElem?_map,hp];rfl)
   have NB:=Hd (show ¬(Value.slice la k lc).ownBlock=some b from fun e=>by have:=HR.o.new b e;omega);clear hcell hp q1 q2 hb hc;go_wp2_with fail
   refine jaG [0,1,2,3,4,5,6,7,8,9,10,11,12,13,14,15] [13,14] Ext (jah (fun b=>(Value.slice la k lc).ownBlock=some b)) ExtR ExtT (fun x y z h k=>jah.trans h k) (fun x y h=>h.mono (fun _ _ h=>h.elim)) (by kernel_rfl) (by kernel_rfl) (by kernel_rfl) ?_;iterate 5 (refine jao _ rfl (by kernel_rfl) rfl rfl (fun K hK=>?_);go_big_quiet_op;refine hK _ ?_;clear hK K)
   refine jaP ⟨b,o+k * 2,none⟩ _ rfl (by kernel_rfl) rfl rfl (fun w1 h1=>jaa Tryz.uStr rfl (jaw (jab Q1.o (jaj wr)) h1 NB.o)) ?_;simp only[Act.put,sA,sB,sC];refine jeV _ 74 #[.string x] (.string (jcg x)) rfl (by kernel_rfl) rfl (fun w1=>jan Tryz.enterPath1r (by kernel_rfl)) (fun w1 h1=>jhH w1 x HXS.o) ?_;simp only[Act.put,sA,sB,sC];iterate 4 (refine jao _ rfl (by kernel_rfl) rfl rfl (fun K hK=>?_);go_big_quiet_op;refine hK _ ?_;clear hK K)
   refine jaP ⟨b,o+k * 2+1,none⟩ _ rfl (by kernel_rfl) rfl rfl (fun w1 h1=>jaa Tryz.uStr rfl (jaw (jab Q2.o (jaj wr)) h1 NB.o)) ?_;simp only[Act.put,sA,sB,sC]
   (refine jao _ rfl (by kernel_rfl) rfl rfl (fun K hK=>?_);go_big_quiet_op;refine hK _ ?_;clear hK K)
   refine jaK _ rfl (by kernel_rfl) rfl (fun w2 he K hK=>?_);have HR2:=Hd (HR.o.mono ((jaj wr).trans he));clear he
   obtain⟨z,hz⟩:∃ z,z=jcg x:=⟨_,rfl⟩
   rw[←hz]at HTK ⊢;clear hz;go_simp;refine hK _ _ ((jah.refl _ w2).alloc _) ?_;clear hK K;refine jaK _ rfl (by kernel_rfl) rfl (fun w3 he K hK=>?_);have HR3:=Hd (HR2.o.mono (((ExtR w2).alloc _).trans he));have hB:∀ j u,([.string z,.string y]:List Value)[j]?=some u→w3.cell? ((⟨w2.heap.size,0,none⟩:Addr).add j)=some u:=fun j u hj=>jab (jaS (Blk.new w2 (.cells [Value.string z,.string y].toArray 95)) j u hj) he;refine jep Tryz.sEnts HR3.o (.tmp 11) (.tmp 24) rfl rfl hB (by intro u hu;simp at hu;rcases hu with rfl | rfl <;> rfl) rfl rfl (by unfold maxLen;omega) (by omega) (fun v' w4 r1 r2 r3=>hK _ _ r2 ?_);have r1':ERow w w4 v' (k+1) ((jbb l).take (k+1)):=by
    unfold ERow;rw[HTK.o,jbx];exact r1
   have HR4:=Hd r1';clear hK K he r1 r2 r3 r1' hB HR2 HR3
   obtain⟨a4,c4,rfl⟩:=HR4.o.sl
   simp only[Act.put,sA,sB,sC]
   (refine jao _ rfl (by kernel_rfl) rfl rfl (fun K hK=>?_);go_big_quiet_op;refine hK _ ?_;clear hK K)
   refine jbt (by kernel_rfl) (fun w5 he=>?_);have HR5:=Hd (HR4.o.mono he);clear he HR4;go_wp2_with fail
   go_roundw
   case rel=>exact⟨k+1,by omega,by go_num,HR5.o⟩
   case measure=>simp[intOf];omega
  ·have hkn:k=l.length:=by omega
   subst hkn;have HF:=Hd (show ERow w wr (.slice la l.length lc) l.length (jbb l) by
    have h:=HR.o
    rwa [List.take_of_length_le (by unfold jbb;rw[List.length_map];exact Nat.le_refl _)]at h)
   go_wp2_with fail
   go_ret
   exact⟨_,rfl,HF.o⟩
def jdk(p x:ByteArray):Bool:=decide (p.size≤x.size) && decide (x.extract 0 p.size=p)
def jbO(p:ByteArray)(l:List Pair):List Pair:=(l.filter fun q=>jdk p q.1).map fun q=>(q.1.extract p.size q.1.size,q.2)
theorem ji5(p:ByteArray){l:List Pair}{k:Nat}{q:Pair}(h:l[k]?=some q):jbO p (l.take (k+1))=jbO p (l.take k)++(if jdk p q.1 then [(q.1.extract p.size q.1.size,q.2)]else []):=by
 unfold jbO;rw[List.take_add_one,h,List.filter_append,List.map_append,Option.toList_some,List.filter_cons];split <;> rfl
def Un5R(w:World)(p:ByteArray)(l:List Pair)(v iv:Value)(wr:World):Prop:=∃ k:Nat,k≤l.length∧iv=.int .i64 k∧ERow w wr v (jbO p (l.take k)).length (jbO p (l.take k))
theorem ji2(p:ByteArray)(l:List Pair):(jbO p l).length≤l.length:=by
 unfold jbO;rw[List.length_map];exact List.length_filter_le _ _
theorem jeD(w:World)(v:Value)(l:List Pair)(p:ByteArray)(hv:RdP w v l)(hn:l.length≤1000000)(hs:∀ p∈l,p.1.size≤1000000)(hp:p.size≤1000000) :
  Calls Tryz.prog 77 #[v,.string p] w fun e w'=>∃ u,e=.returned u∧ERow w w' u (jbO p l).length (jbO p l):=by
 have HV:=Hd hv;have HS:=Hd hs
 obtain⟨a0,c0,hsl⟩:=hv.sl
 subst hsl;clear hv hs;go_enter Tryz.func77,Tryz.ntmps77;go_wp2_with fail
 go_loopw [5,6] (fun v iv wr=>Un5R w p l v iv wr) (fun _ iv _=>l.length - (intOf iv).toNat)
 case atStart=>exact⟨0,by omega,rfl,ORow.nil _ _ (ExtR w)⟩
 case round =>
  obtain⟨k,hk,rfl,hR⟩:=hrel
  have HR:=Hd hR
  obtain⟨m,hm⟩:∃ m,m=jbO p (l.take k):=⟨_,rfl⟩
  have hml:m.length≤k:=by
   rw[hm];have h1:=ji2 p (l.take k);rw[List.length_take]at h1;omega
  have HM:=Hd hm;rw[←hm]at HR
  obtain⟨la,lc,hsl⟩:=HR.o.sl
  subst hsl;clear hR hm
  by_cases hlt:k < l.length
  ·have b1:(k:Int) < (l.length:Int):=by omega
   obtain⟨⟨x,y⟩,hq⟩:∃ p,l[k]?=some p:=⟨_,List.getElem?_eq_getElem hlt⟩
   rcases HV.o with⟨_,_,_,h0⟩ |⟨b,o,c1,hh,hb,hc,hcell⟩
   ·rw[h0]at hlt;cases hlt
   cases hh
   obtain⟨q1,q2⟩:=hcell k _ hq
   have Q1:=Hd (jab q1 HR.o.ext);have Q2:=Hd (jab q2 HR.o.ext);have HXS:=Hd (HS.o _ (List.mem_of_getElem? hq));have HST:=Hd (ji5 p hq);rw[←HM.o]at HST;have NB:=Hd (show ¬(Value.slice la m.length lc).ownBlock=some b from fun e=>by have:=HR.o.new b e;omega);have q1:=Q1.o;clear hcell hq q2 hb hc;have hbe:∀ b,jdk p x=b→jbO p (l.take (k+1))=m++(if b then [(x.extract p.size x.size,y)]else []):=fun b e=>by rw[HST.o,e]
   have HBE:=Hd hbe;clear hbe
   by_cases hsz:p.size≤x.size
   case neg =>
    have c1:¬(p.size:Int)≤(x.size:Int):=by omega
    have HB:=Hd (HBE.o false (by unfold jdk;rw[decide_eq_false hsz];rfl));go_wp2_with fail
    go_roundw
    case rel=>exact⟨k+1,by omega,by go_num,by rw[HB.o];simpa using HR.o⟩
    case measure=>simp[intOf];omega
   have c1:(p.size:Int)≤(x.size:Int):=by omega
   by_cases hbg:x.extract 0 p.size=p
   case neg =>
    have hx:((x.extract 0 p.size).toList == p.toList)=false:=beq_eq_false_iff_ne.2 (fun e=>hbg (jb7 e));have HB:=Hd (HBE.o false (by unfold jdk;rw[decide_eq_false hbg,Bool.and_false]));clear hbg;go_wp2_with fail
    go_roundw
    case rel=>exact⟨k+1,by omega,by go_num,by rw[HB.o];simpa using HR.o⟩
    case measure=>simp[intOf];omega
   have hx:((x.extract 0 p.size).toList == p.toList)=true:=by rw[hbg];exact beq_self_eq_true _
   have HB:=Hd (show jbO p (l.take (k+1))=m++[(x.extract p.size x.size,y)]from HBE.o true (by unfold jdk;rw[decide_eq_true hbg,decide_eq_true hsz];rfl));clear hbg;go_wp2_with fail
   refine jaG [0,1,2,3,4,5,6,7,8,9,10,11,12,13,14,15,16,17] [15,16] Ext (jah (fun b=>(Value.slice la m.length lc).ownBlock=some b)) ExtR ExtT (fun x y z h k=>jah.trans h k) (fun x y h=>h.mono (fun _ _ h=>h.elim)) (by kernel_rfl) (by kernel_rfl) (by kernel_rfl) ?_;iterate 5 (refine jao _ rfl (by kernel_rfl) rfl rfl (fun K hK=>?_);go_big_quiet_op;refine hK _ ?_;clear hK K)
   refine jaP ⟨b,o+k * 2,none⟩ _ rfl (by kernel_rfl) rfl rfl (fun w1 h1=>jaa Tryz.uStr rfl (jaw (jab Q1.o (jaj wr)) h1 NB.o)) ?_;simp only[Act.put,sA,sB,sC];iterate 7 (refine jao _ rfl (by kernel_rfl) rfl rfl (fun K hK=>?_);go_big_quiet_op;refine hK _ ?_;clear hK K)
   refine jaP ⟨b,o+k * 2+1,none⟩ _ rfl (by kernel_rfl) rfl rfl (fun w1 h1=>jaa Tryz.uStr rfl (jaw (jab Q2.o (jaj wr)) h1 NB.o)) ?_;simp only[Act.put,sA,sB,sC]
   (refine jao _ rfl (by kernel_rfl) rfl rfl (fun K hK=>?_);go_big_quiet_op;refine hK _ ?_;clear hK K)
   refine jaK _ rfl (by kernel_rfl) rfl (fun w2 he K hK=>?_);have HR2:=Hd (HR.o.mono ((jaj wr).trans he));clear he
   obtain⟨z,hz⟩:∃ z,z=x.extract p.size x.size:=⟨_,rfl⟩
   rw[←hz]at HB ⊢;clear hz;go_simp;refine hK _ _ ((jah.refl _ w2).alloc _) ?_;clear hK K;refine jaK _ rfl (by kernel_rfl) rfl (fun w3 he K hK=>?_);have HR3:=Hd (HR2.o.mono (((ExtR w2).alloc _).trans he));have hB:∀ j u,([.string z,.string y]:List Value)[j]?=some u→w3.cell? ((⟨w2.heap.size,0,none⟩:Addr).add j)=some u:=fun j u hj=>jab (jaS (Blk.new w2 (.cells [Value.string z,.string y].toArray 95)) j u hj) he;refine jep Tryz.sEnts HR3.o (.tmp 34) (.tmp 49) rfl rfl hB (by intro u hu;simp at hu;rcases hu with rfl | rfl <;> rfl) rfl rfl (by unfold maxLen;omega) (by omega) (fun v' w4 r1 r2 r3=>hK _ _ r2 ?_);have r1':ERow w w4 v' (m.length+1) (m++[(z,y)]):=by
    unfold ERow;rw[jbx];exact r1
   have HR4:=Hd r1';clear hK K he r1 r2 r3 r1' hB HR2 HR3
   obtain⟨a4,c4,rfl⟩:=HR4.o.sl
   simp only[Act.put,sA,sB,sC]
   (refine jao _ rfl (by kernel_rfl) rfl rfl (fun K hK=>?_);go_big_quiet_op;refine hK _ ?_;clear hK K)
   refine jbt (by kernel_rfl) (fun w5 he=>?_);have HR5:=Hd (HR4.o.mono he);clear he HR4;go_wp2_with fail
   go_roundw
   case rel=>exact⟨k+1,by omega,by go_num,by rw[HB.o,List.length_append];exact HR5.o⟩
   case measure=>simp[intOf];omega
  ·have hkn:k=l.length:=by omega
   subst hkn;have HF:=Hd (show ERow w wr (.slice la m.length lc) (jbO p l).length (jbO p l) by
    have h:=HR.o;have e:=HM.o;rw[List.take_of_length_le (Nat.le_refl _)]at e;rw[←e];exact h)
   go_wp2_with fail
   go_ret
   exact⟨_,rfl,HF.o⟩
end
section
open Go Go.RowKit
theorem jfB:∀ (a q:List UInt8) (m:Nat),jaX (a.take m) q=min m (jaX a q)
 | [],q,m=>by simp[jaX]
 | x :: r,[],m=>by cases m <;> simp[jaX]
 | x :: r,y :: t,0=>by simp[jaX]
 | x :: r,y :: t,m+1=>by
  have:=jfB r t m
  rw[List.take_succ_cons];show (if x=y then jaX (r.take m) t+1 else 0)=min (m+1) (if x=y then jaX r t+1 else 0);split <;> omega
def comF(l:List Pair)(p:ByteArray):ByteArray:=l.foldl (fun p q=>p.extract 0 (jaQ p q.1)) p
def comM(a:ByteArray)(l:List Pair)(m:Nat):Nat:=l.foldl (fun m q=>min m (jaQ a q.1)) m
theorem jbE(b:ByteArray)(k:Nat):(b.extract 0 k).data.toList=b.data.toList.take k:=by
 rw[ByteArray.data_extract,Array.toList_extract,List.extract_eq_take_drop];simp
theorem jjz(a:ByteArray):∀ (l:List Pair) (p:ByteArray) (m:Nat),p.data.toList=a.data.toList.take m→(comF l p).data.toList=a.data.toList.take (comM a l m)
 | [],p,m,h=>h
 | q :: l,p,m,h=>by
  refine jjz a l (p.extract 0 (jaQ p q.1)) (min m (jaQ a q.1)) ?_;rw[jbE,h,List.take_take]
  congr 1
  show min (jaX p.data.toList q.1.data.toList) m=min m (jaX a.data.toList q.1.data.toList);rw[h,jfB];omega
theorem jjC(a:ByteArray)(K:Nat):∀ (l:List Pair) (m:Nat),K≤m→(∀ q∈l,K≤jaQ a q.1)→K≤comM a l m
 | [],m,h,_=>h
 | q :: l,m,h,hq=>jjC a K l (min m (jaQ a q.1)) (by have:=hq q List.mem_cons_self;omega) (fun x hx=>hq x (List.mem_cons_of_mem _ hx))
theorem jhZ(a:ByteArray):∀ (l:List Pair) (m:Nat),comM a l m≤m
 | [],m=>Nat.le_refl _
 | q :: l,m=>Nat.le_trans (jhZ a l _) (Nat.min_le_left _ _)
theorem jjD(a:ByteArray):∀ (l:List Pair) (m:Nat) (q:Pair),q∈l→comM a l m≤jaQ a q.1
 | p :: l,m,q,h=>by
  rcases List.mem_cons.1 h with rfl | h
  ·exact Nat.le_trans (jhZ a l _) (Nat.min_le_right _ _)
  ·exact jjD a l _ q h
theorem jiJ{a b:List UInt8}{k:Nat}(h:a.take k=b.take k)(h1:k≤a.length)(h2:k≤b.length):k≤jaX a b:=by
 rw[jcd a b k h h1 h2];omega
theorem jet{f:Nat}{l:List Pair}(h:jaT f l)(h2:2≤l.length):comF l (l.getD 0 pd).1=(l.getD 0 pd).1.extract 0 (comK l):=by
 refine jdj ?_
 obtain⟨a,ha⟩:∃ a,a=(l.getD 0 pd).1:=⟨_,rfl⟩
 have hm0:l.getD 0 pd∈l:=by
  rw[List.getD_eq_getElem?_getD,List.getElem?_eq_getElem (by omega)];exact List.getElem_mem _
 have hm1:l.getD (l.length - 1) pd∈l:=by
  rw[List.getD_eq_getElem?_getD,List.getElem?_eq_getElem (by omega)];exact List.getElem_mem _
 have hall:=jbJ h h2;have hk0:=(hall _ hm0).2;rw[←ha,jjz a l a a.data.toList.length (List.take_of_length_le (Nat.le_refl _)).symm,jbE]
 congr 1
 have hK:∀ q∈l,comK l≤jaQ a q.1:=fun q hq=>by
  obtain⟨e1,e2⟩:=hall q hq
  exact jiJ (by rw[ha];exact e1.symm) (by rw[ha];exact hk0) e2
 have h3:=jjC a (comK l) l a.data.toList.length (by rw[ha];exact hk0) hK;have h4:=jjD a l a.data.toList.length _ hm1;have h5:jaQ a (l.getD (l.length - 1) pd).1=comK l:=by rw[ha];rfl
 omega
theorem jhd{f:Nat}{l:List Pair}(h:jaT f l)(h2:2≤l.length):jbO ((l.getD 0 pd).1.extract 0 (comK l)) l=jaC (comK l) l:=by
 have hm0:l.getD 0 pd∈l:=by
  rw[List.getD_eq_getElem?_getD,List.getElem?_eq_getElem (by omega)];exact List.getElem_mem _
 have hall:=jbJ h h2;have hsz:((l.getD 0 pd).1.extract 0 (comK l)).size=comK l:=by
  rw[ByteArray.size_extract];have:=(hall _ hm0).2;omega
 unfold jbO jaC;rw[List.filter_eq_self.2 (fun q hq=>by
  obtain⟨e1,e2⟩:=hall q hq
  unfold jdk;rw[hsz,decide_eq_true e2,Bool.true_and];refine decide_eq_true (jdj ?_);rw[jbE,jbE];exact e1),hsz]
theorem jjk(i:Nat)(hi:i < 256)(q:Pair):jdk ⟨#[i.toUInt8]⟩ q.1=jdR i q:=by
 obtain⟨⟨⟨x⟩⟩,v⟩:=q
 cases x with
 | nil=>rfl
 | cons a r =>
  have h1:(1:Nat)≤(⟨⟨a :: r⟩⟩:ByteArray).size:=by show 1≤(a :: r).length;simp
  have h2:(⟨⟨a :: r⟩⟩:ByteArray).extract 0 1=⟨#[a]⟩:=jdj (by rw[jbE];rfl);unfold jdk;show (decide ((1:Nat)≤_) && decide ((⟨⟨a :: r⟩⟩:ByteArray).extract 0 1=⟨#[i.toUInt8]⟩))=(a.toNat == i);rw[show (a.toNat == i)=decide (a.toNat=i)from rfl];rw[decide_eq_true h1,Bool.true_and,h2];refine decide_eq_decide.2 ⟨fun e=>?_,fun e=>?_⟩
  ·have:a=i.toUInt8:=by injection e with e;injection e with e;injection e
   rw[this];simp;omega
  ·rw[←e];simp
theorem jhe(i:Nat)(hi:i < 256)(l:List Pair):jbO ⟨#[i.toUInt8]⟩ l=jaC 1 (cutL i l):=by
 unfold jbO jaC cutL;rw[show (fun q:Pair=>jdk ⟨#[i.toUInt8]⟩ q.1)=jdR i from funext (jjk i hi)];rfl
end
end Go.Proofs.YtcpnjmcipainpaaGreatDoor
