/- Parts of the proof, one behind the other: RefRb, RefRc. Each is under no condition but those that it states. -/
import Derived.Test.YtcpnjmcipainpaaGreatDoorPc33
import Derived.Test.YtcpnjmcipainpaaGreatDoorPc16
namespace Go.Proofs.YtcpnjmcipainpaaGreatDoor
set_option linter.unusedSimpArgs false
set_option linter.unusedVariables false
set_option maxRecDepth 100000
set_option maxHeartbeats 16000000
section
open Go Go.RowKit
attribute [local go_sem] Oper.semAt_some
theorem jiT(w:World)(p v:ByteArray)(rs:List ByteArray)(hr:rs.length=16):Calls Tryz.prog 168 #[jac.V ⟨0,p,v,rs⟩] w fun e w'=>e=.returned (.string (jaH ⟨0,p,v,rs⟩))∧Ext w w':=by
 unfold jac.V;have e0:(jac.cells ⟨0,p,v,rs⟩)[0]?=some (.int .i64 0):=rfl;rw[show jaH ⟨0,p,v,rs⟩=jam ⟨#[]⟩from rfl]
 obtain⟨R,hR⟩:∃ R,R=jam ⟨#[]⟩:=⟨_,rfl⟩
 have HR:=Hd (fun w1=>jc2 w1 ⟨#[]⟩ (by decide));rw[←hR]at HR ⊢;clear hR;go_enter Tryz.func168,Tryz.ntmps168;go_wp2_with fail
 refine (HR.o _).mono ?_;rintro e w1 ⟨rfl,hE⟩;have HE:=Hd (((ExtR w).alloc _).trans hE);clear hE;go_wp2_with fail
 go_ret
 exact⟨rfl,HE.o⟩
theorem jiS(w:World)(p v:ByteArray)(rs:List ByteArray)(hr:rs.length=16)(hp:p.size≤12)(hv:v.size≤80)(hpv:jaA p=true):Calls Tryz.prog 168 #[jac.V ⟨1,p,v,rs⟩] w fun e w'=>e=.returned (.string (jaH ⟨1,p,v,rs⟩))∧Ext w w':=by
 have hs1:=jba p true;have hs2:=jaC (putB p true);have hs3:=jaC v;have e0:(jac.cells ⟨1,p,v,rs⟩)[0]?=some (.int .i64 1):=rfl;have e1:(jac.cells ⟨1,p,v,rs⟩)[1]?=some (.string p):=rfl;have e2:(jac.cells ⟨1,p,v,rs⟩)[2]?=some (.string v):=rfl
 obtain⟨r0,e3⟩:∃ r0,(jac.cells ⟨1,p,v,rs⟩)[3]?=some (.string r0):=by
  cases rs with
  | nil=>cases hr
  | cons r0 rs=>exact⟨r0,rfl⟩
 unfold jac.V
 obtain⟨C,hC⟩:∃ C,C=jac.cells ⟨1,p,v,rs⟩:=⟨_,rfl⟩
 have hCl:C.length=19:=by rw[hC];exact jac.cells_len _ hr
 rw[←hC]at e0 e1 e2 e3 ⊢;have HP:=Hd (fun w1=>ji5 w1 p true (by omega) hpv)
 obtain⟨put,hput⟩:∃ put,put=putB p true:=⟨_,rfl⟩
 rw[←hput]at hs1 hs2 HP;have HL:=Hd (show jaH ⟨1,p,v,rs⟩=jaU [jam put,jam v] by rw[hput];rfl);have HT1:=Hd (fun w1=>jc2 w1 put (by omega));have HT2:=Hd (fun w1=>jc2 w1 v (by omega));have HLS:=Hd (show (catB [jam put,jam v]).size≤1000000 by rw[jaS,jaS,jb2];omega)
 obtain⟨t1,ht1⟩:∃ t1,t1=jam put:=⟨_,rfl⟩
 obtain⟨t2,ht2⟩:∃ t2,t2=jam v:=⟨_,rfl⟩
 rw[←ht1]at HL HT1 HLS;rw[←ht2]at HL HT2 HLS;rw[HL.o];clear hs1 hs2 hs3 hC hCl hput ht1 ht2 hp hv hr;go_enter Tryz.func168,Tryz.ntmps168;go_wp2_with fail
 have hB0:=Blk.new w (.cells C.toArray 144)
 obtain⟨W0,hW0⟩:∃ W0,W0=w.alloc (.cells C.toArray 144):=⟨_,rfl⟩
 have HE0:=Hd (show Ext w W0 by rw[hW0];exact (ExtR w).alloc _);rw[←hW0]at hB0 ⊢
 obtain⟨g,hg⟩:∃ g,g=w.heap.size:=⟨_,rfl⟩
 rw[←hg]at hB0 ⊢;have HB0:=Hd hB0;have HCE:=Hd (And.intro e0 (And.intro e2 e3));clear hW0 hg hB0 e0 e1 e2 e3;refine (HP.o W0).mono ?_;rintro e w1 ⟨rfl,hE⟩;have HE1:=Hd (HE0.o.trans hE);have hB1:=HB0.o.keeps hE (fun h=>h);have q0:=hB1.cellL HCE.o.1;have q2:=hB1.cellL HCE.o.2.1;have q3:=hB1.cellL HCE.o.2.2;clear hE hB1;go_wp2_with fail
 refine (HT2.o w1).mono ?_;rintro e w2 ⟨rfl,hE⟩;have HE2:=Hd (HE1.o.trans hE);clear hE q0 q2 q3;go_wp2_with fail
 refine (HT1.o w2).mono ?_;rintro e w3 ⟨rfl,hE⟩;have HE3:=Hd (HE2.o.trans hE);clear hE;go_wp2_with fail
 refine (jhT _ _ [t1,t2] (jcL w3 [t1,t2] 9) (by simp) HLS.o).mono ?_;rintro e w4 ⟨rfl,hE⟩;have HE4:=Hd (HE3.o.trans (((ExtR w3).alloc _).trans hE));clear hE
 obtain⟨R,hR⟩:∃ R,R=jaU [t1,t2]:=⟨_,rfl⟩
 rw[←hR];go_wp2_with fail
 go_ret
 exact⟨rfl,HE4.o⟩
theorem jjG(w:World)(p v r0:ByteArray)(rs:List ByteArray)(hp:p.size≤12)(hv:r0.size≤80)(hpv:jaA p=true):Calls Tryz.prog 168 #[jac.V ⟨2,p,v,r0 :: rs⟩] w fun e w'=>e=.returned (.string (jaH ⟨2,p,v,r0 :: rs⟩))∧Ext w w':=by
 have hs1:=jba p false;have hs2:=jaC (putB p false);have e0:(jac.cells ⟨2,p,v,r0 :: rs⟩)[0]?=some (.int .i64 2):=rfl;have e1:(jac.cells ⟨2,p,v,r0 :: rs⟩)[1]?=some (.string p):=rfl;have e2:(jac.cells ⟨2,p,v,r0 :: rs⟩)[2]?=some (.string v):=rfl;have e3:(jac.cells ⟨2,p,v,r0 :: rs⟩)[3]?=some (.string r0):=rfl;unfold jac.V
 obtain⟨C,hC⟩:∃ C,C=jac.cells ⟨2,p,v,r0 :: rs⟩:=⟨_,rfl⟩
 rw[←hC]at e0 e1 e2 e3 ⊢;have HP:=Hd (fun w1=>ji5 w1 p false (by omega) hpv)
 obtain⟨put,hput⟩:∃ put,put=putB p false:=⟨_,rfl⟩
 rw[←hput]at hs1 hs2 HP;have HL:=Hd (show jaH ⟨2,p,v,r0 :: rs⟩=jaU [jam put,r0] by rw[hput];rfl);have HT1:=Hd (fun w1=>jc2 w1 put (by omega));have HLS:=Hd (show (catB [jam put,r0]).size≤1000000 by rw[jaS,jaS,jb2];omega)
 obtain⟨t1,ht1⟩:∃ t1,t1=jam put:=⟨_,rfl⟩
 rw[←ht1]at HL HT1 HLS;rw[HL.o];clear hs1 hs2 hC hput ht1 hp hv;go_enter Tryz.func168,Tryz.ntmps168;go_wp2_with fail
 have hB0:=Blk.new w (.cells C.toArray 144)
 obtain⟨W0,hW0⟩:∃ W0,W0=w.alloc (.cells C.toArray 144):=⟨_,rfl⟩
 have HE0:=Hd (show Ext w W0 by rw[hW0];exact (ExtR w).alloc _);rw[←hW0]at hB0 ⊢
 obtain⟨g,hg⟩:∃ g,g=w.heap.size:=⟨_,rfl⟩
 rw[←hg]at hB0 ⊢;have HB0:=Hd hB0;have HCE:=Hd (And.intro e0 (And.intro e2 e3));clear hW0 hg hB0 e0 e1 e2 e3;refine (HP.o W0).mono ?_;rintro e w1 ⟨rfl,hE⟩;have HE1:=Hd (HE0.o.trans hE);have hB1:=HB0.o.keeps hE (fun h=>h);have q0:=hB1.cellL HCE.o.1;have q2:=hB1.cellL HCE.o.2.1;have q3:=hB1.cellL HCE.o.2.2;clear hE hB1;go_wp2_with fail
 refine (HT1.o w1).mono ?_;rintro e w3 ⟨rfl,hE⟩;have HE3:=Hd (HE1.o.trans hE);clear hE q0 q2 q3;go_wp2_with fail
 refine (jhT _ _ [t1,r0] (jcL w3 [t1,r0] 9) (by simp) HLS.o).mono ?_;rintro e w4 ⟨rfl,hE⟩;have HE4:=Hd (HE3.o.trans (((ExtR w3).alloc _).trans hE));clear hE
 obtain⟨R,hR⟩:∃ R,R=jaU [t1,r0]:=⟨_,rfl⟩
 rw[←hR];go_wp2_with fail
 go_ret
 exact⟨rfl,HE4.o⟩
theorem jgl(v:ByteArray)(rs:List ByteArray)(hr:rs.length=16):jaH ⟨3,⟨#[]⟩,v,rs⟩=jaU (jaR rs v):=by
 show jcY ⟨3,⟨#[]⟩,v,rs⟩=_;unfold jcY;rw[jcB _ hr]
def itB(r:ByteArray):ByteArray:=if r.size=0 then jam ⟨#[]⟩else r
def Rb4R(W:World)(rs:List ByteArray)(lv iv xv:Value)(wr:World):Prop:=∃ k:Nat,k≤16∧iv=.int .i64 k∧ORow 9 1 W wr lv k (((rs.map itB).take k).map Value.string)
theorem jgM(w:World)(v:ByteArray)(rs:List ByteArray)(hr:rs.length=16)(hv:v.size≤80)(hz:(catB (jaR rs v)).size≤100000):Calls Tryz.prog 168 #[jac.V ⟨3,⟨#[]⟩,v,rs⟩] w fun e w'=>e=.returned (.string (jaH ⟨3,⟨#[]⟩,v,rs⟩))∧Ext w w':=by
 rw[jgl v rs hr];have HRL:=Hd hr;have HZ:=Hd hz;have HBX:=Hd (show jaR rs v=rs.map itB++[jam v]from rfl);have e0:(jac.cells ⟨3,⟨#[]⟩,v,rs⟩)[0]?=some (.int .i64 3):=rfl;have e2:(jac.cells ⟨3,⟨#[]⟩,v,rs⟩)[2]?=some (.string v):=rfl;have eR:∀ (k:Nat) x,rs[k]?=some x→(jac.cells ⟨3,⟨#[]⟩,v,rs⟩)[3+k]?=some (.string x):=fun k x hx=>by
  show (Value.int .i64 3 :: .string ⟨#[]⟩ :: .string v :: rs.map Value.string)[3+k]?=_;rw[show 3+k=k+1+1+1 by omega];simp[hx]
 unfold jac.V
 obtain⟨C,hC⟩:∃ C,C=jac.cells ⟨3,⟨#[]⟩,v,rs⟩:=⟨_,rfl⟩
 rw[←hC]at e0 e2 eR ⊢;have HTE:=Hd (fun w1=>jc2 w1 ⟨#[]⟩ (by decide));have HTV:=Hd (fun w1=>jc2 w1 v (by omega));have HER:=Hd eR;clear hC hr hv hz eR;go_enter Tryz.func168,Tryz.ntmps168;go_wp2_with fail
 have hB0:=Blk.new w (.cells C.toArray 144)
 obtain⟨W0,hW0⟩:∃ W0,W0=w.alloc (.cells C.toArray 144):=⟨_,rfl⟩
 have HE0:=Hd (show Ext w W0 by rw[hW0];exact (ExtR w).alloc _);rw[←hW0]at hB0 ⊢
 obtain⟨g,hg⟩:∃ g,g=w.heap.size:=⟨_,rfl⟩
 rw[←hg]at hB0 ⊢;have HB0:=Hd hB0;have HE2:=Hd e2;clear hW0 hg hB0 e0 e2;go_loopw [6,7,8] (fun lv iv xv wr=>Rb4R W0 rs lv iv xv wr) (fun _ iv _ _=>16 - (intOf iv).toNat)
 case atStart=>exact⟨0,by omega,rfl,ORow.nil _ _ (ExtR W0)⟩
 case round =>
  obtain⟨k,hk,rfl,hR⟩:=hrel
  have HR:=Hd hR
  obtain⟨la,lc,hsl⟩:=hR.sl
  subst hsl;clear hR
  by_cases hlt:k < 16
  ·have b1:(k:Int) < 16:=by omega
   obtain⟨x,hx⟩:∃ x,rs[k]?=some x:=⟨_,List.getElem?_eq_getElem (by have:=HRL.o;omega)⟩
   have q1:wr.cell? ⟨g,3+k,none⟩=some (.string x):=(HB0.o.keeps HR.o.ext (fun h=>h)).cellL (HER.o k x hx);have HTK:=Hd (show (rs.map itB).take (k+1)=(rs.map itB).take k++[itB x] by rw[List.take_add_one,List.getElem?_map,hx];rfl);have hm1:k+1≤maxLen:=by unfold maxLen;omega
   have hm2:(k+1) * 16≤140737488355328:=by omega
   clear hx
   by_cases hx0:x=⟨#[]⟩
   ·subst hx0
    rw[show itB ⟨#[]⟩=jam ⟨#[]⟩from rfl]at HTK
    obtain⟨t0,ht0⟩:∃ t0,t0=jam ⟨#[]⟩:=⟨_,rfl⟩
    rw[←ht0]at HTK;have HT0:=Hd ht0;clear ht0;go_wp2_with fail
    refine (HTE.o wr).mono ?_;rintro e w1 ⟨rfl,hE⟩;have HR1:=Hd (HR.o.mono hE);rw[←HT0.o];clear hE q1;go_wp2_with (at_builtin;refine jbr Tryz.sStrs (HR1.o.mono ((ExtR w1).alloc _)) (.tmp 50) (.tmp 52) rfl rfl rfl (jbg (Blk.new w1 _)) (news:=[.string t0]) (by intro u hu;simp at hu;subst hu;rfl) rfl rfl hm1 hm2 ?_;intro v' w' r1 r2 r3)
    have r1':ORow 9 1 W0 w' v' (k+1) (((rs.map itB).take (k+1)).map Value.string):=by rw[HTK.o,List.map_append];exact r1
    obtain⟨a8,c8,rfl⟩:=r1'.sl
    have HR5:=Hd r1';clear r1 r2 r3 r1';go_wp2_with fail
    go_roundw
    case rel=>exact⟨k+1,by omega,by go_num,HR5.o⟩
    case measure=>simp[intOf];omega
   ·have hxs:x.size≠0:=fun e=>hx0 (jcx (List.eq_nil_of_length_eq_zero e))
    have hxm:x.toList.isEmpty=false:=by
     rw[ByteArray.toList_eq];cases h:x.data.toList with
     | nil=>exact absurd (show x.size=0 by show x.data.toList.length=0;rw[h];rfl) hxs
     | cons=>rfl
    rw[show itB x=x by unfold itB;rw[if_neg hxs]]at HTK;clear hx0 hxs;go_wp2_with (at_builtin;refine jbr Tryz.sStrs (HR.o.mono ((ExtR wr).alloc _)) (.tmp 50) (.tmp 52) rfl rfl rfl (jbg (Blk.new wr _)) (news:=[.string x]) (by intro u hu;simp at hu;subst hu;rfl) rfl rfl hm1 hm2 ?_;intro v' w' r1 r2 r3)
    have r1':ORow 9 1 W0 w' v' (k+1) (((rs.map itB).take (k+1)).map Value.string):=by rw[HTK.o,List.map_append];exact r1
    obtain⟨a8,c8,rfl⟩:=r1'.sl
    have HR5:=Hd r1';clear r1 r2 r3 r1';go_wp2_with fail
    go_roundw
    case rel=>exact⟨k+1,by omega,by go_num,HR5.o⟩
    case measure=>simp[intOf];omega
  ·have hk16:k=16:=by omega
   subst hk16;have HRR:=Hd (show ORow 9 1 W0 wr (.slice la 16 lc) 16 ((rs.map itB).map Value.string) by
    have h:=HR.o
    rwa [List.take_of_length_le (by rw[List.length_map];have:=HRL.o;omega)]at h)
   have q2:=(HB0.o.keeps HR.o.ext (fun h=>h)).cellL HE2.o;have b1:¬((16:Nat):Int) < 16:=by omega
   obtain⟨tv,htv⟩:∃ tv,tv=jam v:=⟨_,rfl⟩
   rw[←htv]at HTV HBX;clear HR htv;go_wp2_with fail
   refine (HTV.o wr).mono ?_;rintro e w1 ⟨rfl,hE⟩;have HR1:=Hd (HRR.o.mono hE);clear hE q2;go_wp2_with (at_builtin;refine jbr Tryz.sStrs (HR1.o.mono ((ExtR w1).alloc _)) (.tmp 54) (.tmp 58) rfl rfl rfl (jbg (Blk.new w1 _)) (news:=[.string tv]) (by intro u hu;simp at hu;subst hu;rfl) rfl rfl (by decide) (by decide) ?_;intro v' w' r1 r2 r3)
   have HF:=Hd (show SRow W0 w' v' 17 (jaR rs v) by
    rw[HBX.o];show ORow 9 1 W0 w' v' 17 _;rw[List.map_append];exact r1)
   clear r1 r2 r3;refine (jhT w' v' (jaR rs v) HF.o.rd (by have:=HF.o.len;simp at this;omega) (by have:=HZ.o;omega)).mono ?_;rintro e w4 ⟨rfl,hE⟩;have HE4:=Hd (HE0.o.trans (HF.o.ext.trans hE));clear hE
   obtain⟨R,hR⟩:∃ R,R=jaU (jaR rs v):=⟨_,rfl⟩
   rw[←hR];go_wp2_with fail
   go_ret
   exact⟨rfl,HE4.o⟩
end
section
open Go Go.RowKit
attribute [local go_sem] Oper.semAt_some
structure InlR(I:ByteArray→jac→Prop):Prop where
 small:∀ r m,I r m→r.size < 32
 refs:∀ r m,I r m→m.refs.length=16
 inl:∀ r m,I r m→∀ w,Calls Tryz.prog 209 #[.string r] w fun e w'=>e=.returned (.tuple #[m.V,.bool true])∧Ext w w'
theorem jgw(w:World)(r:ByteArray)(hr:32≤r.size):Calls Tryz.prog 209 #[.string r] w fun e w'=>e=.returned (.tuple #[jav.V,.bool false])∧Ext w w':=by
 have b0:(32:Int)≤(r.size:Int):=by omega
 go_enter Tryz.func209,Tryz.ntmps209;go_wp2_with (first |(refine jai Tryz.allocNode rfl rfl ?_;intro W1 hB1 hE1) |(refine jaf (vs:=jav.cells) rfl rfl rfl rfl hB1 (by rfl) Tryz.szNode jav.one ?_;intro W2 hB2 hE2))
 refine bodyPost_ret (jaj rfl rfl rfl (jao W2 _ jav rfl hB2)) rfl ?_
 exact⟨rfl,hE1.trans' hE2 (fun x hx e=>by have e:x=w.heap.size:=e;omega)⟩
theorem ji1(w:World)(s:ByteArray)(n:jac)(h1:n.refs.length=16)(hk:n.kind≠0)(hsm:s.size < 32)(hread:∀ w,Calls Tryz.prog 237 #[.string s] w fun e w'=>e=.returned (.tuple #[n.V,.bool true])∧Ext w w'):Calls Tryz.prog 209 #[.string s] w fun e w'=>e=.returned (.tuple #[n.V,.bool true])∧Ext w w':=by
 have c1:¬(32:Int)≤(s.size:Int):=by omega
 have c2:((n.kind:Int) == 0)=false:=by simp;omega
 have c3:¬(n.kind:Int)=0:=by omega
 have HRD:=Hd hread;have H1:=Hd h1;have HL:=Hd (n.cells_len h1);clear h1 hk hread;unfold jac.V at HRD ⊢;go_enter Tryz.func209,Tryz.ntmps209;go_wp2_with (refine jai Tryz.allocNode rfl rfl ?_;intro W1 hB1 hE1)
 refine (HRD.o W1).mono ?_;rintro e w2 ⟨rfl,hE⟩;have hB2:=hB1.keeps hE (fun h=>h);have HE2:=Hd (hE1.trans hE);clear hB1 hE1 hE;go_wp2_with (first |(refine jai Tryz.allocNode rfl rfl ?_;intro W3 hB3 hE3;refine jaf (vs:=n.cells) rfl rfl rfl rfl hB3 (by rw[HL.o];rfl) (by rw[HL.o];exact Tryz.szNode) n.one ?_;intro W4 hB4 hE4;have q0:W4.cell? ⟨w2.heap.size,0,none⟩=some (.int .i64 (n.kind:Int)):=hB4.cellL (by rfl);have hB24:=(hB2.keeps hE3 (fun h=>h)).keeps hE4 (by have:=hB2.lt;omega)) |(refine jah 144 (.tmp 4) rfl rfl _ _ rfl (jap _ _ n H1.o hB4) ?_) |(refine jaf (vs:=n.cells) rfl rfl rfl rfl hB24 (by rw[HL.o];rfl) (by rw[HL.o];exact Tryz.szNode) n.one ?_;intro W8 hB8 hE8))
 refine bodyPost_ret (jaj rfl rfl rfl (jao W8 _ n H1.o hB8)) rfl ?_;have hX4:Ext w2 W4:=hE3.trans' hE4 (fun x hx e=>by have e:x=w2.heap.size:=e;omega)
 exact⟨rfl,(HE2.o.trans hX4).trans' hE8 (fun x hx e=>by have e:x=w.heap.size:=e;omega)⟩
section
variable {I:ByteArray→jac→Prop} (HI:InlR I)
include HI
theorem jhf(w:World)(r:ByteArray)(hr:MayP I r):Calls Tryz.prog 210 #[.string r] w fun e w'=>e=.returned (.bool true)∧Ext w w':=by
 rcases hr with⟨h,hs,rfl⟩ |⟨m,hm⟩
 ·have HH:=Hd (fun w1=>joM w1 h hs)
  have HN:=Hd (fun w1=>jgw w1 (jam h) (by rw[jpq hs,ByteArray.size_append,hs];decide))
  obtain⟨t,ht⟩:∃ t,t=jam h:=⟨_,rfl⟩
  rw[←ht]at HH HN ⊢;clear ht hs;go_enter Tryz.func210,Tryz.ntmps210;go_wp2_with fail
  refine (HH.o w).mono ?_;rintro e w1 ⟨rfl,rfl⟩;go_wp2_with fail
  refine (HN.o w).mono ?_;rintro e w2 ⟨rfl,hE⟩;have HE:=Hd hE;clear hE;unfold jac.V;go_wp2_with (first |(refine jai Tryz.allocNode rfl rfl ?_;intro W3 hB3 hE3;refine jaf (vs:=jav.cells) rfl rfl rfl rfl hB3 rfl Tryz.szNode jav.one ?_;intro W4 hB4 hE4))
  go_ret
  exact⟨rfl,HE.o.trans (hE3.trans' hE4 (fun x hx e=>by have e:x=w2.heap.size:=e;omega))⟩
 ·have hsm:=HI.small r m hm
  have HM:=Hd (HI.inl r m hm);have HL:=Hd (m.cells_len (HI.refs r m hm));unfold jac.V at HM;have HH:=Hd (fun w1=>jnl w1 r hsm);clear hsm hm;go_enter Tryz.func210,Tryz.ntmps210;go_wp2_with fail
  refine (HH.o w).mono ?_;rintro e w1 ⟨rfl,rfl⟩;go_wp2_with fail
  refine (HM.o w).mono ?_;rintro e w2 ⟨rfl,hE⟩;have HE:=Hd hE;clear hE;go_wp2_with (first |(refine jai Tryz.allocNode rfl rfl ?_;intro W3 hB3 hE3;refine jaf (vs:=m.cells) rfl rfl rfl rfl hB3 (by rw[HL.o];rfl) (by rw[HL.o];exact Tryz.szNode) m.one ?_;intro W4 hB4 hE4))
  go_ret
  exact⟨rfl,HE.o.trans (hE3.trans' hE4 (fun x hx e=>by have e:x=w2.heap.size:=e;omega))⟩
end
end
end Go.Proofs.YtcpnjmcipainpaaGreatDoor
