/- Parts of the proof, one behind the other: RefQc, RlpA, RefPa. Each is under no condition but those that it states. -/
import Derived.Test.YtcpnjmcipainpaaGreatDoorPb5
import Derived.Test.YtcpnjmcipainpaaGreatDoorPb4
namespace Go.Proofs.YtcpnjmcipainpaaGreatDoor
set_option linter.unusedSimpArgs false
set_option linter.unusedVariables false
set_option maxRecDepth 100000
set_option maxHeartbeats 16000000
section
open Go Go.RowKit
attribute [local go_sem] Oper.semAt_some
theorem Tryz.sWords:jcw Tryz.prog 202 206 1 4:=jcw.mk' (by kernel_rfl) (show (Tryz.prog.info? 206).map (fun i=>(i.zero,i.size,i.bytes))=some (some (.int .u32 0),1,4) by kernel_rfl) rfl (by decide)
theorem Tryz.enterRight3(args:Array Value)(w:World):(callFunc 185 args).run Tryz.prog w=.ok (.enter 185 args) w:=by kernel_rfl
def wL(B:List UInt8)(k:Nat):List UInt32:=if k≤16 then jco B k else jd9 B (k - 16)
theorem jou(B:List UInt8)(k:Nat):(wL B k).length=k:=by
 unfold wL;split
 ·simp[jco]
 ·rw[jby];omega
theorem jov(B:List UInt8){k:Nat}(h:k < 16):wL B (k+1)=wL B k++[jcQ B k]:=by
 unfold wL;rw[if_pos (by omega),if_pos (by omega)];simp[jco,List.range_succ]
theorem jow(B:List UInt8){k:Nat}(h:¬ k < 16):wL B (k+1)=wL B k++[jfk (wL B k)]:=by
 have e:wL B k=jd9 B (k - 16):=by
  unfold wL;split
  ·have:k=16:=by omega
   subst this;rfl
  ·rfl
 rw[e];unfold wL;rw[if_neg (by omega),show k+1 - 16=(k - 16)+1 by omega];rfl
theorem jhi{P:Program}{ops:Array Oper}{rest:List Oper}{a:Act}{w:World}{Q:Exit→Act→World→Prop}{d:Option Tmp}{T:TypeId}{n:Nat}{ps:Array (Nat × Operand)}{ty:TypeId}{pos:String}{af:Array Edge}(v:Value)(w':World)(h0:(execOp a.eval ⟨d,.buildSlice T n ps,ty,pos,af,none⟩).run P w=.ok (.value v) w')(h:wpList P ops Q rest (a.put d v) w'):wpList P ops Q (⟨d,.buildSlice T n ps,ty,pos,af,none⟩ :: rest) a w:=
 wpList_plain rfl fun K hK=>jcK (v:=v) (w':=w') h0 (hK _ _ h)
def Bk1(w:World)(B:List UInt8)(v iv:Value)(wr:World):Prop:=∃ k:Nat,k≤64∧iv=.int .i64 k∧ORow 206 1 w wr v k ((wL B k).map wv)
theorem W8.add_comm(v u:W8):v.add u=u.add v:=by
 unfold W8.add addW;simp[UInt32.add_comm]
theorem jkN(v u:W8){k:Nat}(hk:k < 8):∃ x y,(jcR v.words u.words k)[k]?=some x∧u.words[k]?=some y∧(jcR v.words u.words k).set k (addW x y)=jcR v.words u.words (k+1):=by
 have hl:v.words.length=u.words.length:=rfl;have h1:k < v.words.length:=hk;have h2:k < u.words.length:=hk;have hs:=jgr hl h1
 exact⟨_,_,by rw[jgp hl h1];exact List.getElem?_eq_getElem h1,List.getElem?_eq_getElem h2,hs⟩
def Bk3(w:World)(g cap:Nat)(R V:W8)(iv:Value)(wr:World):Prop:=∃ k:Nat,k≤8∧iv=.int .i64 k∧ORow 206 1 w wr (.slice (some ⟨g,0,none⟩) 8 cap) 8 ((jcR R.words V.words k).map wv)
def Bk2(w:World)(a1:Option Addr)(c1:Nat)(V:W8)(B:List UInt8)(v iv:Value)(wr:World):Prop:=∃ k:Nat,k≤64∧iv=.int .i64 k∧ORow 206 1 w wr v 8 ((jck (jaM B) V k).words.map wv)∧ORow 206 1 w wr (.slice a1 64 c1) 64 ((jaM B).map wv)
theorem jlD(w:World)(bh bk ch:Nat)(V:W8)(s:ByteArray)(hs:s.size=64)(hV:∀ j u,(V.words.map wv)[j]?=some u→w.cell? ⟨bh,j,none⟩=some u)(hK:Blk w bk (.cells (jcN.map wv).toArray 206)) :
  Calls Tryz.prog 141 #[.slice (some ⟨bh,0,none⟩) 8 ch,.slice (some ⟨bk,0,none⟩) 64 64,.string s] w fun e w'=>∃ g c,e=.returned (.slice (some ⟨g,0,none⟩) 8 c)∧w.heap.size≤g∧(∀ j u,((mixW V s.data.toList).words.map wv)[j]?=some u→w'.cell? ⟨g,j,none⟩=some u)∧Ext w w':=by
 have HV:=Hd hV;have HK:=Hd hK;have HSZ:=Hd hs;have hX:∀ (p q:UInt32) (w:World),(binOp .xor 206 (wv p) (wv q)).run Tryz.prog w=.ok (wv (xorW p q)) w:=fun _ _ _=>jgh;have hA:∀ (p q:UInt32) (w:World),(binOp .add 206 (wv p) (wv q)).run Tryz.prog w=.ok (wv (addW p q)) w:=fun _ _ _=>jgf;have hN:∀ (p q:UInt32) (w:World),(binOp .and 206 (wv p) (wv q)).run Tryz.prog w=.ok (wv (andW p q)) w:=fun _ _ _=>jiq;have hU:∀ (p:UInt32) (w:World),(Op.unary .xor (wv p)).run Tryz.prog w=.ok (wv (notW p)) w:=fun _ _=>jir;have hS3:∀ (p:UInt32) (w:World),(binOp .shr 206 (wv p) (.int .u64 3)).run Tryz.prog w=.ok (wv (shrW p 3)) w:=fun _ _=>jbT 3 (by decide) .u64;have hS10:∀ (p:UInt32) (w:World),(binOp .shr 206 (wv p) (.int .u64 10)).run Tryz.prog w=.ok (wv (shrW p 10)) w:=fun _ _=>jbT 10 (by decide) .u64;clear hV hK hs;go_enter Tryz.func141,Tryz.ntmps141;go_wp2_with fail
 go_loopw [7,8] (fun v iv wr=>Bk1 w s.data.toList v iv wr) (fun _ iv _=>64 - (intOf iv).toNat)
 case atStart=>exact⟨0,by omega,rfl,ORow.nil _ _ (ExtR w)⟩
 case round =>
  obtain⟨k,hk,rfl,hR⟩:=hrel
  have HR:=Hd hR
  obtain⟨a1,c1,hsl⟩:=hR.sl
  subst hsl;clear hR
  by_cases hlt:k < 64
  ·have b1:(k:Int) < 64:=by omega
   by_cases h16:k < 16
   ·have b2:(k:Int) < 16:=by omega
    go_wp2_with fail
    refine (jm9 wr s k (by have:=HSZ.o;omega) (by have:=HSZ.o;omega)).mono ?_;rintro e w1 ⟨rfl,hE⟩;have HR1:=Hd (HR.o.mono hE);have HW:=Hd (jov s.data.toList h16);clear hE HR
    obtain⟨x,hx⟩:∃ x,x=jcQ s.data.toList k:=⟨_,rfl⟩
    have HX:=Hd hx;rw[←hx,show wv x=.int .u32 (x.toNat:Int)from rfl];clear hx;have hm1:k+1≤maxLen:=by unfold maxLen;omega
    have hm2:(k+1) * 4≤140737488355328:=by omega
    go_wp2_with (at_builtin;refine jaZ Tryz.sWords (HR1.o.mono ((ExtR w1).alloc _)) (.tmp 30) (.tmp 34) rfl rfl rfl (jaS (Blk.new w1 _)) (news:=[wv x]) (by intro u hu;simp at hu;subst hu;rfl) rfl rfl hm1 hm2 ?_;intro v' w' r1 r2 r3)
    have r1':ORow 206 1 w w' v' (k+1) ((wL s.data.toList (k+1)).map wv):=by rw[HW.o,List.map_append, ←HX.o];exact r1
    obtain⟨a8,c8,rfl⟩:=r1'.sl
    have HR5:=Hd r1';clear r1 r2 r3 r1' HR1;go_wp2_with fail
    go_roundw
    case rel=>exact⟨k+1,by omega,by go_num,HR5.o⟩
    case measure=>simp[intOf];omega
   ·have b2:¬(k:Int) < 16:=by omega
    obtain⟨a15,ha15⟩:∃ a,a=k - 15:=⟨_,rfl⟩
    obtain⟨a2,ha2⟩:∃ a,a=k - 2:=⟨_,rfl⟩
    obtain⟨a16,ha16⟩:∃ a,a=k - 16:=⟨_,rfl⟩
    obtain⟨a7,ha7⟩:∃ a,a=k - 7:=⟨_,rfl⟩
    have f15:(k:Int) - 15=(a15:Int):=by omega
    have f2:(k:Int) - 2=(a2:Int):=by omega
    have f16:(k:Int) - 16=(a16:Int):=by omega
    have f7:(k:Int) - 7=(a7:Int):=by omega
    have l15:a15 < k:=by omega
    have l2:a2 < k:=by omega
    have l16:a16 < k:=by omega
    have l7:a7 < k:=by omega
    obtain⟨WL,hWL⟩:∃ WL,WL=wL s.data.toList k:=⟨_,rfl⟩
    have hln:WL.length=k:=by rw[hWL,jou]
    have HNX:=Hd (show wL s.data.toList (k+1)=WL++[addW (addW (addW (WL.getD a16 0) (sig0 (WL.getD a15 0))) (WL.getD a7 0)) (sig1 (WL.getD a2 0))] by
     rw[jow _ h16, ←hWL];unfold jfk;rw[hln, ←ha16, ←ha15, ←ha7, ←ha2])
    rw[←hWL]at HR;have HLN:=Hd hln;clear ha15 ha2 ha16 ha7 hWL hln
    obtain⟨_,⟨h0,_⟩ |⟨g,cap,cur,h0,_⟩⟩:=HR.o.own
    ·obtain⟨_,h0,_⟩:=Value.slice.inj h0
     omega
    obtain⟨rfl,_,rfl⟩:=Value.slice.inj h0
    have hcell:∀ j,j < k→wr.cell? ⟨g,j,none⟩=some (wv (WL.getD j 0)):=fun j hj=>by
     have h:=HR.o.own.cells (g:=g) rfl j (wv (WL.getD j 0)) (by
      rw[List.getElem?_map,List.getElem?_eq_getElem (by rw[HLN.o];exact hj)];simp[show j < WL.length by rw[HLN.o];exact hj])
     rwa [Addr.add_lit,Nat.zero_add]at h
    have Q15:=Hd (hcell a15 l15);have Q2:=Hd (hcell a2 l2);have Q16:=Hd (hcell a16 l16);have Q7:=Hd (hcell a7 l7);have q15:=hcell a15 l15;have q2:=hcell a2 l2
    obtain⟨x15,hx15⟩:∃ x,x=WL.getD a15 0:=⟨_,rfl⟩
    obtain⟨x2,hx2⟩:∃ x,x=WL.getD a2 0:=⟨_,rfl⟩
    obtain⟨x16,hx16⟩:∃ x,x=WL.getD a16 0:=⟨_,rfl⟩
    obtain⟨x7,hx7⟩:∃ x,x=WL.getD a7 0:=⟨_,rfl⟩
    rw[←hx15]at q15 Q15 HNX;rw[←hx2]at q2 Q2 HNX;rw[←hx16]at Q16 HNX;rw[←hx7]at Q7 HNX;have L16:=Hd (show WL[a16]?=some x16 from by rw[hx16,List.getElem?_eq_getElem (by rw[HLN.o];exact l16)];simp[show a16 < WL.length by rw[HLN.o];exact l16]);have L7:=Hd (show WL[a7]?=some x7 from by rw[hx7,List.getElem?_eq_getElem (by rw[HLN.o];exact l7)];simp[show a7 < WL.length by rw[HLN.o];exact l7]);clear hcell hx15 hx2 hx16 hx7 h0;go_wp2_with fail
    refine (jo2 wr x15).mono ?_;rintro e w' ⟨rfl,rfl⟩;go_wp2_with fail
    refine (jog wr x15).mono ?_;rintro e w' ⟨rfl,rfl⟩;go_wp2_with fail
    refine (jof wr x2).mono ?_;rintro e w' ⟨rfl,rfl⟩;go_wp2_with fail
    refine (joh wr x2).mono ?_;rintro e w' ⟨rfl,rfl⟩;go_wp2_with fail
    have hm1:k+1≤maxLen:=by unfold maxLen;omega
    have hm2:(k+1) * 4≤140737488355328:=by omega
    have HM:=Hd (And.intro hm1 hm2);clear hm1 hm2;refine jaG [0,1,2,3,4,5,6,7,8,9,10,11,12,13,14,15,16,17,18] [16,17] Ext (fun x y=>∀ vs,ORow 206 1 w x (.slice (some ⟨g,0,none⟩) k c1) k vs→ORow 206 1 w y (.slice (some ⟨g,0,none⟩) k c1) k vs) ExtR ExtT (fun x y z h1 h2 vs h=>h2 vs (h1 vs h)) (fun x y h vs k=>k.mono h) (by kernel_rfl) (by kernel_rfl) (by kernel_rfl) ?_;have hrd:∀ w1,(∀ vs,ORow 206 1 w wr.drew (.slice (some ⟨g,0,none⟩) k c1) k vs→ORow 206 1 w w1 (.slice (some ⟨g,0,none⟩) k c1) k vs)→∀ j x,WL[j]?=some x→w1.cell? ⟨g,j,none⟩=some (wv x):=fun w1 h j x hj=>by
     have h:=(h _ (HR.o.mono (jaj wr))).own.cells (g:=g) rfl j (wv x) (by rw[List.getElem?_map,hj];rfl)
     rwa [Addr.add_lit,Nat.zero_add]at h
    iterate 5 (refine jao _ rfl (by kernel_rfl) rfl rfl (fun K hK=>?_);go_big_quiet_op;refine hK _ ?_;clear hK K)
    refine jaP ⟨g,a16,none⟩ _ rfl (by kernel_rfl) rfl rfl (fun w1 h1=>jaa Tryz.uU32 rfl (hrd w1 h1 a16 x16 L16.o)) ?_;simp only[Act.put,sA,sB,sC];iterate 6 (refine jao _ rfl (by kernel_rfl) rfl rfl (fun K hK=>?_);go_big_quiet_op;refine hK _ ?_;clear hK K)
    refine jaP ⟨g,a7,none⟩ _ rfl (by kernel_rfl) rfl rfl (fun w1 h1=>jaa Tryz.uU32 rfl (hrd w1 h1 a7 x7 L7.o)) ?_;simp only[Act.put,sA,sB,sC];iterate 3 (refine jao _ rfl (by kernel_rfl) rfl rfl (fun K hK=>?_);go_big_quiet_op;refine hK _ ?_;clear hK K)
    obtain⟨nx,hnx⟩:∃ x,x=addW (addW (addW x16 (xorW (xorW (rotW x15 7) (rotW x15 18)) (shrW x15 3))) x7) (xorW (xorW (rotW x2 17) (rotW x2 19)) (shrW x2 10)):=⟨_,rfl⟩
    have HNX2:=Hd (show wL s.data.toList (k+1)=WL++[nx] by rw[HNX.o,hnx];rfl);rw[←hnx,show wv nx=.int .u32 (nx.toNat:Int)from rfl];clear hnx hrd;refine jaK _ rfl (by kernel_rfl) rfl (fun w2 he K hK=>?_);have HR2:=Hd (HR.o.mono ((jaj wr).trans he));clear he;go_simp;refine hK _ _ (fun vs h=>h.mono ((ExtR w2).alloc _)) ?_;clear hK K;refine jaK _ rfl (by kernel_rfl) rfl (fun w3 he K hK=>?_);have HR3:=Hd (HR2.o.mono (((ExtR w2).alloc _).trans he));have hB:∀ j u,([wv nx]:List Value)[j]?=some u→w3.cell? ((⟨w2.heap.size,0,none⟩:Addr).add j)=some u:=fun j u hj=>jab (jaS (Blk.new w2 (.cells [wv nx].toArray 206)) j u hj) he;refine jnf Tryz.sWords HR3.o (.tmp 62) (.tmp 78) rfl rfl hB (by intro u hu;simp at hu;subst hu;rfl) rfl rfl HM.o.1 HM.o.2 (fun v' w4 r1 r2 r3 r4=>hK _ _ (fun vs h=>by
     have e:vs=WL.map wv:=by
      have h1:=h.own;have h2:=HR3.o.own
      obtain⟨_,⟨e1,_⟩ |⟨g1,c1',cur1,e1,_,e2,_,_,_,e3⟩⟩:=h1
      ·cases e1
      ·obtain⟨_,⟨f1,_⟩ |⟨g2,c2',cur2,f1,_,f2,_,_,_,f3⟩⟩:=h2
       ·cases f1
       ·have q1:=congrArg Addr.block (Option.some.inj (Value.slice.inj e1).1)
        have q2:=congrArg Addr.block (Option.some.inj (Value.slice.inj f1).1);have q1:g=g1:=q1;have q2:g=g2:=q2;subst q1 q2;rw[e2]at f2;have f2:=Option.some.inj f2;injection f2 with f2;rw[←e3,f2,f3]
     rw[e];exact r4) ?_)
    have r1':ORow 206 1 w w4 v' (k+1) ((wL s.data.toList (k+1)).map wv):=by rw[HNX2.o,List.map_append];exact r1
    have HR4:=Hd r1';clear hK K he r1 r2 r3 r4 r1' hB HR2 HR3
    obtain⟨a4,c4,rfl⟩:=HR4.o.sl
    simp only[Act.put,sA,sB,sC]
    (refine jao _ rfl (by kernel_rfl) rfl rfl (fun K hK=>?_);go_big_quiet_op;refine hK _ ?_;clear hK K)
    refine jbt (by kernel_rfl) (fun w5 he=>?_);have HR5:=Hd (HR4.o.mono he);clear he HR4;go_wp2_with fail
    go_roundw
    case rel=>exact⟨k+1,by omega,by go_num,HR5.o⟩
    case measure=>simp[intOf];omega
  ·have hk64:k=64:=by omega
   subst hk64;have HW:=Hd (show ORow 206 1 w wr (.slice a1 64 c1) 64 ((jaM s.data.toList).map wv)from HR.o);have HC0:=Hd (show ORow 206 1 w (wr.alloc (.cells #[] 206)) (.slice (some ⟨wr.heap.size,0,none⟩) 0 0) 0 []from ORow.lit #[] HR.o.ext (by decide) rfl);have HV1:=Hd (show ∀ j u,(V.words.map wv)[j]?=some u→(wr.alloc (.cells #[] 206)).cell? ((⟨bh,0,none⟩:Addr).add j)=some u from fun j u hj=>by
    rw[Addr.add_lit,Nat.zero_add];exact jab (HV.o _ _ hj) (HR.o.ext.trans ((ExtR wr).alloc _)))
   go_wp2_with (at_builtin;refine jaZ Tryz.sWords HC0.o (.tmp 80) (.tmp 81) rfl rfl rfl HV1.o (fun u hu=>by obtain⟨x,_,rfl⟩:=List.mem_map.1 hu;rfl) rfl rfl (by decide) (by decide) ?_;intro v' w' r1 r2 r3)
   have HR2:=Hd (show ORow 206 1 w w' v' 8 ((jck (jaM s.data.toList) V 0).words.map wv)from r1);have HW2:=Hd ((HW.o.mono ((ExtR wr).alloc _)).keeps r2 (fun b hb e=>by
    have h1:=HW.o.lt b hb;have e:some wr.heap.size=some b:=e
    have:=Option.some.inj e
    omega) (fun b hb e=>by
    have e:some wr.heap.size=some b:=e
    have:=Option.some.inj e
    have:=HW.o.ext.size
    omega))
   obtain⟨a8,c8,hsl⟩:=HR2.o.sl
   subst hsl;clear r1 r2 r3 HR HC0 HV1;go_wp2_with fail
   go_loopw [13,14] (fun v iv wr=>Bk2 w a1 c1 V s.data.toList v iv wr) (fun _ iv _=>64 - (intOf iv).toNat)
   case atStart=>exact⟨0,by omega,rfl,HR2.o,HW2.o⟩
   case round =>
    obtain⟨k,hk,rfl,hR,hW⟩:=hrel
    have HR:=Hd hR;have HW:=Hd hW
    obtain⟨v,hv⟩:∃ v,v=jck (jaM s.data.toList) V k:=⟨_,rfl⟩
    rw[←hv]at HR;have HVK:=Hd hv
    obtain⟨_,⟨h0,_⟩ |⟨g,cap,cur,h0,_⟩⟩:=hR.own
    ·obtain⟨_,_,e⟩:=hR.sl
     rw[e]at h0;cases (Value.slice.inj h0).2.1
    subst h0;clear hR hW hv
    by_cases hlt:k < 64
    ·have b1:(k:Int) < 64:=by omega
     obtain⟨_,⟨h0,_⟩ |⟨g7,cap7,cur7,h0,_⟩⟩:=HW.o.own
     ·cases (Value.slice.inj h0).2.1
     obtain⟨rfl,_,rfl⟩:=Value.slice.inj h0
     obtain⟨ck,hck⟩:∃ ck,ck=jcN.getD k 0:=⟨_,rfl⟩
     obtain⟨wk,hwk⟩:∃ wk,wk=(jaM s.data.toList).getD k 0:=⟨_,rfl⟩
     have qc:wr.cell? ⟨bk,k,none⟩=some (wv ck):=by
      refine jab (HK.o.cellL ?_) HR.o.ext;rw[List.getElem?_map,List.getElem?_eq_getElem (show k < jcN.length from hlt),hck];simp[show k < jcN.length from hlt]
     have hsl:(jaM s.data.toList).length=64:=by simp[jaM,jby]
     have qw:wr.cell? ⟨g7,k,none⟩=some (wv wk):=by
      have h:=HW.o.own.cells (g:=g7) rfl k (wv wk) (by
       rw[List.getElem?_map,List.getElem?_eq_getElem (by rw[hsl];exact hlt),hwk];simp[hsl,hlt])
      rwa [Addr.add_lit,Nat.zero_add]at h
     have HNX:=Hd (show jck (jaM s.data.toList) V (k+1)=jg4 v ck wk by rw[HVK.o,hck,hwk];rfl);clear h0 hck hwk hsl
     obtain⟨x0,x1,x2,x3,x4,x5,x6,x7⟩:=v
     have hcell:∀ j u,([wv x0,wv x1,wv x2,wv x3,wv x4,wv x5,wv x6,wv x7]:List Value)[j]?=some u→wr.cell? ⟨g,j,none⟩=some u:=fun j u hj=>by
      have h:=HR.o.own.cells (g:=g) rfl j u hj
      rwa [Addr.add_lit,Nat.zero_add]at h
     have q0:=hcell 0 _ rfl;have q1:=hcell 1 _ rfl;have q2:=hcell 2 _ rfl;have q3:=hcell 3 _ rfl;have q4:=hcell 4 _ rfl;have q5:=hcell 5 _ rfl;have q6:=hcell 6 _ rfl;have q7:=hcell 7 _ rfl;clear hcell;have QC:=Hd qc;have QW:=Hd qw;have Q0:=Hd q0;have Q1:=Hd q1;have Q2:=Hd q2;have Q3:=Hd q3;have Q4:=Hd q4;have Q5:=Hd q5;have Q6:=Hd q6;have Q7:=Hd q7;clear q0 q1 q2 q3 q4 q5 q6 q7 qc qw;go_wp2_with fail
     refine jad [0,1,2,3,4,5,6,7,8,9,10,11,12,13,14,15,16,17,18,19,20,21,22,23] Ext ExtR ExtT (by kernel_rfl) (by kernel_rfl) (by kernel_rfl) ?_;iterate 2 (refine jac _ rfl (by kernel_rfl) rfl rfl (fun K hK=>?_);go_big_quiet_op;refine hK _ ?_;clear hK K)
     refine jai ⟨g,0,none⟩ _ rfl (by kernel_rfl) rfl rfl (fun w1 h1=>jaa Tryz.uU32 rfl (jab Q0.o ((jaj wr).trans h1))) ?_;simp only[Act.put,sA,sB,sC];iterate 2 (refine jac _ rfl (by kernel_rfl) rfl rfl (fun K hK=>?_);go_big_quiet_op;refine hK _ ?_;clear hK K)
     refine jai ⟨g,1,none⟩ _ rfl (by kernel_rfl) rfl rfl (fun w1 h1=>jaa Tryz.uU32 rfl (jab Q1.o ((jaj wr).trans h1))) ?_;simp only[Act.put,sA,sB,sC];iterate 2 (refine jac _ rfl (by kernel_rfl) rfl rfl (fun K hK=>?_);go_big_quiet_op;refine hK _ ?_;clear hK K)
     refine jai ⟨g,2,none⟩ _ rfl (by kernel_rfl) rfl rfl (fun w1 h1=>jaa Tryz.uU32 rfl (jab Q2.o ((jaj wr).trans h1))) ?_;simp only[Act.put,sA,sB,sC];iterate 2 (refine jac _ rfl (by kernel_rfl) rfl rfl (fun K hK=>?_);go_big_quiet_op;refine hK _ ?_;clear hK K)
     refine jai ⟨g,4,none⟩ _ rfl (by kernel_rfl) rfl rfl (fun w1 h1=>jaa Tryz.uU32 rfl (jab Q4.o ((jaj wr).trans h1))) ?_;simp only[Act.put,sA,sB,sC];iterate 2 (refine jac _ rfl (by kernel_rfl) rfl rfl (fun K hK=>?_);go_big_quiet_op;refine hK _ ?_;clear hK K)
     refine jai ⟨g,5,none⟩ _ rfl (by kernel_rfl) rfl rfl (fun w1 h1=>jaa Tryz.uU32 rfl (jab Q5.o ((jaj wr).trans h1))) ?_;simp only[Act.put,sA,sB,sC];iterate 2 (refine jac _ rfl (by kernel_rfl) rfl rfl (fun K hK=>?_);go_big_quiet_op;refine hK _ ?_;clear hK K)
     refine jai ⟨g,6,none⟩ _ rfl (by kernel_rfl) rfl rfl (fun w1 h1=>jaa Tryz.uU32 rfl (jab Q6.o ((jaj wr).trans h1))) ?_;simp only[Act.put,sA,sB,sC];iterate 6 (refine jac _ rfl (by kernel_rfl) rfl rfl (fun K hK=>?_);go_big_quiet_op;refine hK _ ?_;clear hK K)
     refine jas (by kernel_rfl) (fun w3 he=>?_);have X3:=Hd ((jaj wr).trans he);clear he;go_wp2_with fail
     refine jad [0,1,2,3,4,5,6,7,8,9,10,11,12,13,14,15,16,17,18,19,20,21,22,23,24,25,26,27,28,29,30,31] Ext ExtR ExtT (by kernel_rfl) (by kernel_rfl) (by kernel_rfl) ?_;iterate 2 (refine jac _ rfl (by kernel_rfl) rfl rfl (fun K hK=>?_);go_big_quiet_op;refine hK _ ?_;clear hK K)
     refine jai ⟨g,7,none⟩ _ rfl (by kernel_rfl) rfl rfl (fun w1 h1=>jaa Tryz.uU32 rfl (jab Q7.o ((X3.o.trans (jaj w3)).trans h1))) ?_;simp only[Act.put,sA,sB,sC]
     (refine jac _ rfl (by kernel_rfl) rfl rfl (fun K hK=>?_);go_big_quiet_op;refine hK _ ?_;clear hK K)
     refine jav _ 185 #[wv x4,.int .u64 6] (wv (rotW x4 6)) rfl (by kernel_rfl) rfl (fun w1=>jan Tryz.enterRight3 (by kernel_rfl)) (fun w1 h1=>(jo1 w1 x4).mono (fun e w2 ⟨h1,h2⟩=>⟨h1,h2 ▸ ExtR w1⟩)) ?_;simp only[Act.put,sA,sB,sC]
     (refine jac _ rfl (by kernel_rfl) rfl rfl (fun K hK=>?_);go_big_quiet_op;refine hK _ ?_;clear hK K)
     refine jav _ 185 #[wv x4,.int .u64 11] (wv (rotW x4 11)) rfl (by kernel_rfl) rfl (fun w1=>jan Tryz.enterRight3 (by kernel_rfl)) (fun w1 h1=>(jod w1 x4).mono (fun e w2 ⟨h1,h2⟩=>⟨h1,h2 ▸ ExtR w1⟩)) ?_;simp only[Act.put,sA,sB,sC];iterate 2 (refine jac _ rfl (by kernel_rfl) rfl rfl (fun K hK=>?_);go_big_quiet_op;refine hK _ ?_;clear hK K)
     refine jav _ 185 #[wv x4,.int .u64 25] (wv (rotW x4 25)) rfl (by kernel_rfl) rfl (fun w1=>jan Tryz.enterRight3 (by kernel_rfl)) (fun w1 h1=>(joj w1 x4).mono (fun e w2 ⟨h1,h2⟩=>⟨h1,h2 ▸ ExtR w1⟩)) ?_;simp only[Act.put,sA,sB,sC];iterate 14 (refine jac _ rfl (by kernel_rfl) rfl rfl (fun K hK=>?_);go_big_quiet_op;refine hK _ ?_;clear hK K)
     refine jai ⟨bk,k,none⟩ _ rfl (by kernel_rfl) rfl rfl (fun w1 h1=>jaa Tryz.uU32 rfl (jab QC.o ((X3.o.trans (jaj w3)).trans h1))) ?_;simp only[Act.put,sA,sB,sC];iterate 4 (refine jac _ rfl (by kernel_rfl) rfl rfl (fun K hK=>?_);go_big_quiet_op;refine hK _ ?_;clear hK K)
     refine jai ⟨g7,k,none⟩ _ rfl (by kernel_rfl) rfl rfl (fun w1 h1=>jaa Tryz.uU32 rfl (jab QW.o ((X3.o.trans (jaj w3)).trans h1))) ?_;simp only[Act.put,sA,sB,sC];iterate 2 (refine jac _ rfl (by kernel_rfl) rfl rfl (fun K hK=>?_);go_big_quiet_op;refine hK _ ?_;clear hK K)
     refine jas (by kernel_rfl) (fun w4 he=>?_);have X4:=Hd (X3.o.trans ((jaj w3).trans he));clear he X3
     obtain⟨tv,htv⟩:∃ t,t=tOne ⟨x0,x1,x2,x3,x4,x5,x6,x7⟩ ck wk:=⟨_,rfl⟩
     have htv':=htv;unfold tOne at htv';simp only at htv';rw[←htv'];have HTV:=Hd htv;clear htv htv';go_wp2_with fail
     refine (jo0 w4 x0).mono ?_;rintro e w' ⟨rfl,rfl⟩;go_wp2_with fail
     refine (joe w4 x0).mono ?_;rintro e w' ⟨rfl,rfl⟩;go_wp2_with fail
     refine (joi w4 x0).mono ?_;rintro e w' ⟨rfl,rfl⟩;have q3:=jab Q3.o X4.o
     obtain⟨sv,hsv⟩:∃ t,t=addW (xorW (xorW (rotW x0 2) (rotW x0 13)) (rotW x0 22)) (xorW (xorW (andW x0 x1) (andW x0 x2)) (andW x1 x2)):=⟨_,rfl⟩
     have HSV:=Hd (show tTwo ⟨x0,x1,x2,x3,x4,x5,x6,x7⟩=sv from hsv.symm);go_wp2_with (refine jhi (.slice (some ⟨w4.heap.size,0,none⟩) 8 8) (w4.alloc (.cells #[wv (addW tv sv),wv x0,wv x1,wv x2,wv (addW x3 tv),wv x4,wv x5,wv x6] 206)) (by rw[hsv];kernel_rfl) ?_;clear hsv q3)
     have HN:=Hd (show ORow 206 1 w (w4.alloc (.cells #[wv (addW tv sv),wv x0,wv x1,wv x2,wv (addW x3 tv),wv x4,wv x5,wv x6] 206)) (.slice (some ⟨w4.heap.size,0,none⟩) 8 8) 8 ((jck (jaM s.data.toList) V (k+1)).words.map wv)from by
      have h:=ORow.lit (T:=206) (sz:=1) #[wv (addW tv sv),wv x0,wv x1,wv x2,wv (addW x3 tv),wv x4,wv x5,wv x6] (n:=8) (HR.o.ext.trans X4.o) (by decide) rfl;rw[HNX.o];unfold jg4;rw[HSV.o, ←HTV.o];exact h)
     have HW5:=Hd (HW.o.mono (X4.o.trans ((ExtR w4).alloc (.cells #[wv (addW tv sv),wv x0,wv x1,wv x2,wv (addW x3 tv),wv x4,wv x5,wv x6] 206))))
     obtain⟨w5,hw5⟩:∃ w5,w5=w4.alloc (.cells #[wv (addW tv sv),wv x0,wv x1,wv x2,wv (addW x3 tv),wv x4,wv x5,wv x6] 206):=⟨_,rfl⟩
     rw[←hw5]at HN HW5 ⊢;clear hw5;go_wp2_with fail
     go_roundw
     case rel=>exact⟨k+1,by omega,by go_num,HN.o,HW5.o⟩
     case measure=>simp[intOf];omega
    ·have hk64:k=64:=by omega
     subst hk64;have HR0:=Hd (show ORow 206 1 w wr (.slice (some ⟨g,0,none⟩) 8 cap) 8 ((jcR v.words V.words 0).map wv)from HR.o);have HFIN:=Hd (show (jcR v.words V.words 8)=(mixW V s.data.toList).words by
      rw[jgo,HVK.o,W8.add_comm];rfl)
     clear HW HR HVK;go_wp2_with fail
     rw[show ((64:Nat):Int)=(64:Int)from rfl];go_loopw [23] (fun iv wr=>Bk3 w g cap v V iv wr) (fun iv _=>8 - (intOf iv).toNat)
     case atStart=>exact⟨0,by omega,rfl,HR0.o⟩
     case round =>
      obtain⟨k,hk,rfl,hR⟩:=hrel
      have HR:=Hd hR;clear hR
      by_cases hlt:k < 8
      ·have b1:(k:Int) < 8:=by omega
       obtain⟨x,y,hx,hy,hset⟩:=jkN v V hlt
       have q1:wr.cell? ⟨g,k,none⟩=some (wv x):=by
        have h:=HR.o.own.cells (g:=g) rfl k (wv x) (by rw[List.getElem?_map,hx];rfl)
        rwa [Addr.add_lit,Nat.zero_add]at h
       have q2:wr.cell? ⟨bh,k,none⟩=some (wv y):=jab (HV.o _ _ (by rw[List.getElem?_map,hy];rfl)) HR.o.ext;have Q1:=Hd q1;have Q2:=Hd q2;have HSET:=Hd hset;clear hx hy hset q1 q2;go_wp2_with fail
       refine jau [0,1,2,3,4,5,6,7,8,9,10,11,12] [12] Ext ExtR ExtT (by kernel_rfl) (by kernel_rfl) (by kernel_rfl) ?_;iterate 5 (refine jak _ rfl (by kernel_rfl) rfl rfl (fun K hK=>?_);go_big_quiet_op;refine hK _ ?_;clear hK K)
       refine jaF ⟨g,k,none⟩ _ rfl (by kernel_rfl) rfl rfl (fun w1 h1=>jaa Tryz.uU32 rfl (jab Q1.o ((jaj wr).trans h1))) ?_;simp only[Act.put,sA,sB,sC];iterate 3 (refine jak _ rfl (by kernel_rfl) rfl rfl (fun K hK=>?_);go_big_quiet_op;refine hK _ ?_;clear hK K)
       refine jaF ⟨bh,k,none⟩ _ rfl (by kernel_rfl) rfl rfl (fun w1 h1=>jaa Tryz.uU32 rfl (jab Q2.o ((jaj wr).trans h1))) ?_;simp only[Act.put,sA,sB,sC];iterate 2 (refine jak _ rfl (by kernel_rfl) rfl rfl (fun K hK=>?_);go_big_quiet_op;refine hK _ ?_;clear hK K)
       refine jbh _ rfl (by kernel_rfl) rfl (fun w6 he K hK=>?_);have HR6:=Hd (HR.o.mono ((jaj wr).trans he));have qq1:=jab Q1.o ((jaj wr).trans he);have qq2:w6.frozen? ⟨g,k,none⟩=false:=HR6.o.own.frozenAt k;have h7:=HR6.o.set k (wv (addW x y));rw[←List.map_set,HSET.o]at h7;have HR7:=Hd h7;clear h7 he HR Q1 Q2;refine jgl g k (wv (addW x y)) rfl (by kernel_rfl) (by kernel_rfl) rfl Tryz.iU32 qq1 qq2 (hK _ _ ?_);clear hK K qq1 qq2;refine ja6 (by kernel_rfl) (fun w8 he=>?_);have HR8:=Hd (HR7.o.mono he);clear he HR7 HR6;go_wp2_with fail
       go_roundw
       case rel=>exact⟨k+1,by omega,by go_num,HR8.o⟩
       case measure=>simp[intOf];omega
      ·have hk8:k=8:=by omega
       subst hk8;have hfin:=HR.o;rw[HFIN.o]at hfin;have HF:=Hd hfin;clear hfin;go_wp2_with fail
       go_ret
       exact⟨g,cap,rfl,HF.o.new g rfl,fun j u hj=>by
        have h:=HF.o.own.cells (g:=g) rfl j u hj
        rwa [Addr.add_lit,Nat.zero_add]at h,HF.o.ext⟩
end
section
open Go Go.RowKit
theorem Tryz.sBytes:jcw Tryz.prog 92 5 1 1:=jcw.mk' Tryz.uBytes Tryz.infoU8 rfl (by decide)
def revK(l:List UInt8)(k:Nat):List UInt8:=(List.range l.length).map fun i=>if i < k∨l.length - 1 - k < i then l.getD (l.length - 1 - i) 0 else l.getD i 0
@[simp] theorem revK_len (l:List UInt8) (k:Nat):(revK l k).length=l.length:=by simp[revK]
theorem jkp(l:List UInt8):revK l 0=l:=by
 apply List.ext_getElem (by simp);intro i h1 h2;simp only[revK,List.getElem_map,List.getElem_range];rw[if_neg (by omega)];simp[h2]
theorem jlG(l:List UInt8)(k:Nat)(h:l.length≤2 * k+1):revK l k=l.reverse:=by
 apply List.ext_getElem (by simp);intro i h1 h2;simp at h1;simp only[revK,List.getElem_map,List.getElem_range,List.getElem_reverse]
 by_cases hc:i < k∨l.length - 1 - k < i
 ·rw[if_pos hc];simp[show l.length - 1 - i < l.length by omega]
 ·rw[if_neg hc]
  have:i=l.length - 1 - i:=by omega
  simp only[List.getD_eq_getElem?_getD,List.getElem?_eq_getElem h1,Option.getD_some]
  congr 1
theorem jin(l:List UInt8)(k i:Nat)(hi:i < l.length)(h1:k≤i)(h2:i≤l.length - 1 - k):(revK l k)[i]?=some l[i]:=by
 simp only[revK,List.getElem?_map,List.getElem?_range hi,Option.map_some];rw[if_neg (by omega)];simp[hi]
theorem jko(l:List UInt8)(k:Nat)(h:2 * k+1 < l.length):((revK l k).set k (l[l.length - 1 - k]'(by omega))).set (l.length - 1 - k) (l[k]'(by omega))=revK l (k+1):=by
 apply List.ext_getElem (by simp);intro i h1 h2;simp at h2;simp only[List.getElem_set,revK,List.getElem_map,List.getElem_range]
 by_cases e1:l.length - 1 - k=i
 ·subst e1
  rw[if_pos rfl,if_pos (by omega)]
  have:l.length - 1 - (l.length - 1 - k)=k:=by omega
  rw[this];simp[show k < l.length by omega]
 ·rw[if_neg e1]
  by_cases e2:k=i
  ·subst e2
   rw[if_pos rfl,if_pos (by omega)];simp[show l.length - 1 - k < l.length by omega]
  ·rw[if_neg e2]
   by_cases c:i < k∨l.length - 1 - k < i
   ·rw[if_pos c,if_pos (by omega)]
   ·rw[if_neg c,if_neg (by omega)]
def jnx(w:World)(g n c:Nat)(l:List UInt8)(i j:Value)(wr:World):Prop:=∃ k:Nat,k≤n∧i=.int .i64 k∧j=.int .i64 ((n:Int) - 1 - k)∧wr.ownsRow 0 5 1 (.slice (some ⟨g,0,none⟩) n c) n (jay (revK l k))∧jah (fun b=>b=g) w wr
def jmh(w:World)(v:Value)(n:Nat)(l:List UInt8)(e:Ending)(w':World):Prop:=(∃ r,e=.returned r)∧w'.ownsRow 0 5 1 v n (jay l.reverse)∧jah (fun b=>v.ownBlock=some b) w w'
theorem jkq(w:World)(v:Value)(n:Nat)(l:List UInt8)(hs:n≤1000000)(hr:w.ownsRow 0 5 1 v n (jay l)):Calls Tryz.prog 252 #[v] w (jmh w v n l):=by
 have hln:l.length=n:=by have:=hr.1;simp at this;exact this
 have HL:=Hd hln;clear hln;have HR:=Hd hr
 obtain⟨_,⟨rfl,h2⟩ |⟨g,c,cur,rfl,_⟩⟩:=hr
 ·have hl:l=[]:=List.eq_nil_of_length_eq_zero (by have:=HL.o;omega)
  subst hl;go_enter Tryz.func252,Tryz.ntmps252;go_wp2;refine wp_loop_once ?_;go_wp2;go_end0
  exact⟨⟨_,rfl⟩,HR.o,jah.refl _ _⟩
 ·go_enter Tryz.func252,Tryz.ntmps252
  go_wp2;go_loopw [2,3] (fun i j wr=>jnx w g n c l i j wr) (fun i _ _=>n - (intOf i).toNat)
  case atStart=>exact⟨0,Nat.zero_le _,rfl,by go_num,by rw[jkp];exact HR.o,jah.refl _ _⟩
  case round =>
   obtain⟨k,hk,rfl,rfl,hR,hK⟩:=hrel
   have HR1:=Hd hR;have HK:=Hd hK;clear hR hK
   by_cases hlt:2 * k+1 < n
   ·have hlt':decide ((k:Int) < (n:Int) - 1 - k)=true:=by simp;omega
    have hk1:k < n:=by omega
    have e0:((n:Int) - 1 - k)=((n - 1 - k:Nat):Int):=by omega
    have HE:=Hd e0;have c1:=HR1.o.cellAt k (by omega);have c2:=HR1.o.cellAt (n - 1 - k) (by omega);have f1:=HR1.o.frozenAt k;have f2:=HR1.o.frozenAt (n - 1 - k);have lk:k < l.length:=by have:=HL.o;omega
    have lk2:n - 1 - k < l.length:=by have:=HL.o;omega
    rw[jay,List.getElem?_map,jin l k k lk (Nat.le_refl _) (by have:=HL.o;omega)]at c1;rw[jay,List.getElem?_map,jin l k (n - 1 - k) lk2 (by omega) (by have:=HL.o;omega)]at c2;simp only[Option.map_some]at c1 c2;have HC1:=Hd c1;have HC2:=Hd c2;have HF1:=Hd f1;have HF2:=Hd f2;clear c1 c2 f1 f2;rw[e0]at hlt';go_wp2;rw[e0];clear e0;have d1:(0:Int)≤((n - 1 - k:Nat):Int):=by omega
    have d2:((n - 1 - k:Nat):Int) < (n:Int):=by omega
    refine jau [0,1,2,3,4,5,6,7,8,9,10,11,12,13,14,15] [13,15] Ext ExtR ExtT (by kernel_rfl) (by kernel_rfl) (by kernel_rfl) ?_;iterate 7 (refine jak _ rfl (by kernel_rfl) rfl rfl (fun K hK=>?_);go_big_quiet_op;refine hK _ ?_;clear hK K)
    refine jaF ⟨g,n - 1 - k,none⟩ _ rfl (by kernel_rfl) rfl rfl (fun w1 h1=>jaa Tryz.uU8 rfl (jab (by exact HC2.o) h1)) ?_;simp only[Act.put,sA,sB,sC];iterate 3 (refine jak _ rfl (by kernel_rfl) rfl rfl (fun K hK=>?_);go_big_quiet_op;refine hK _ ?_;clear hK K)
    refine jaF ⟨g,k,none⟩ _ rfl (by kernel_rfl) rfl rfl (fun w1 h1=>jaa Tryz.uU8 rfl (jab (by exact HC1.o) h1)) ?_;simp only[Act.put,sA,sB,sC]
    (refine jak _ rfl (by kernel_rfl) rfl rfl (fun K hK=>?_);go_big_quiet_op;refine hK _ ?_;clear hK K)
    refine jbh _ rfl (by kernel_rfl) rfl (fun w1 he K hK=>?_);have R1:=jce HR1.o ((jaj wr).trans he);have K1:=HK.o.trans' ((jaj wr).trans he) (fun _ _ h=>h.elim);have q1:=jab HC1.o ((jaj wr).trans he);have q2:=HF1.o;have q2:w1.frozen? ⟨g,k,none⟩=false:=R1.frozenAt k;have R2:=(R1.stored k (.int .u8 (l[n - 1 - k].toNat:Int))).1;have K2:=Hd (K1.setCell (p:=⟨g,k,none⟩) (.inl rfl) (.int .u8 (l[n - 1 - k].toNat:Int)));have HR2:=Hd R2;clear R1 K1 R2 he;go_simp;refine hK _ _ ?_;clear hK K q1 q2
    (refine jak _ rfl (by kernel_rfl) rfl rfl (fun K hK=>?_);go_big_quiet_op;refine hK _ ?_;clear hK K)
    refine jbh _ rfl (by kernel_rfl) rfl (fun w2 he K hK=>?_);have R1:=jce HR2.o he;have K1:=K2.o.trans' he (fun _ _ h=>h.elim)
    obtain⟨old,q1⟩:=jlA R1 (n - 1 - k) (by omega)
    have q2:=R1.frozenAt (n - 1 - k);have R2:=(R1.stored (n - 1 - k) (.int .u8 (l[k].toNat:Int))).1;have K3:=Hd (K1.setCell (p:=⟨g,n - 1 - k,none⟩) (.inl rfl) (.int .u8 (l[k].toNat:Int)));have e:((jay (revK l k)).set k (.int .u8 (l[n - 1 - k].toNat:Int))).set (n - 1 - k) (.int .u8 (l[k].toNat:Int))=jay (revK l (k+1)):=by
     have hh:=jko l k (by have:=HL.o;omega);rw[←hh];simp only[jay,List.map_set];simp only[HL.o]
    rw[e]at R2;have HR3:=Hd R2;clear R1 K1 R2 he e;go_simp;refine hK _ _ ?_;clear hK K q1 q2;refine ja6 (by kernel_rfl) (fun w3 he=>?_);have HR4:=Hd (jce HR3.o he);have K4:=Hd (K3.o.trans' he (fun _ _ h=>h.elim));clear he HR3 K3;go_wp2;go_roundw
    case rel=>exact⟨k+1,by omega,by go_num,by have:=HE.o;go_num,HR4.o,K4.o⟩
    case measure=>simp[intOf];omega
   ·have hlt':decide ((k:Int) < (n:Int) - 1 - k)=false:=by simp;omega
    go_wp2;go_end0
    refine⟨⟨_,rfl⟩,?_,HK.o.mono (fun _ _ e=>by rw[e];rfl)⟩
    have:=HR1.o
    rwa [jlG l k (by have:=HL.o;omega)]at this
def leF:Nat→Nat→List UInt8
 | 0,_=>[]
 | f+1,n=>if n=0 then []else UInt8.ofNat n :: leF f (n / 256)
theorem jec:∀ (f n:Nat),(leF f n).length≤f
 | 0,_=>Nat.le_refl _
 | f+1,n=>by
  simp only[leF];split
  ·simp
  ·simp;exact jec f _
def jbK(n:Nat):ByteArray:=⟨(leF 8 n).reverse.toArray⟩
def jnq(w:World)(n:Nat)(m b:Value)(wr:World):Prop:=∃ (k:Nat) (acc:List UInt8),m=.int .u64 k∧acc.length≤8∧k < 256 ^ (8 - acc.length)∧leF 8 n=acc++leF (8 - acc.length) k∧BRow w wr b acc.length acc
theorem jle(w:World)(n:Nat)(hn:n < 18446744073709551616):Calls Tryz.prog 235 #[.int .u64 n] w fun e w'=>e=.returned (.string (jbK n))∧Ext w w':=by
 go_enter Tryz.func235,Tryz.ntmps235;go_wp2;go_loopw [0,3] (fun m b wr=>jnq w n m b wr) (fun m _ _=>(intOf m).toNat)
 case atStart=>exact⟨n,[],rfl,by simp,by simpa using hn,rfl,ORow.nil _ _ (ExtR w)⟩
 case round =>
  obtain⟨k,acc,rfl,hl8,hk,hacc,hR⟩:=hrel
  obtain⟨a,c,rfl⟩:=hR.sl
  have HR:=Hd hR;have HA:=Hd hacc;have HK:=Hd hk;clear hR hacc hk
  by_cases h0:0 < k
  ·have hl7:acc.length < 8:=by
    rcases Nat.lt_or_ge acc.length 8 with h | h
    ·exact h
    ·have:=HK.o;rw[show 8 - acc.length=0 by omega]at this;omega
   go_wp2_with (at_builtin;refine jaZ Tryz.sBytes (HR.o.mono ((ExtR wr).alloc _)) (.tmp 8) (.tmp 11) rfl rfl rfl (jaS (Blk.new wr _)) (news:=[.int .u8 (k % 256)]) (by intro u hu;simp at hu;rw[hu];rfl) rfl rfl ?c1 ?c2 (fun v' w' r1 r2 r3=>?_))
   case c1=>unfold maxLen;omega
   case c2=>omega
   have e2:jay acc++[.int .u8 ((k:Int) % 256)]=jay (acc++[UInt8.ofNat k]):=by
    rw[jb0];simp only[jay,List.map_cons,List.map_nil];rw[←jeA]
   rw[e2]at r1;have hstep:leF (8 - acc.length) k=UInt8.ofNat k :: leF (8 - (acc.length+1)) (k / 256):=by
    rw[show 8 - acc.length=(8 - (acc.length+1))+1 by omega];simp only[leF];rw[if_neg (by omega)]
   have hlt:k / 256 < 256 ^ (8 - (acc.length+1)):=by
    have:=HK.o
    rw[show 8 - acc.length=(8 - (acc.length+1))+1 by omega,Nat.pow_succ]at this;omega
   have HS:=Hd hstep;have HLT:=Hd hlt;have HR1:=Hd r1;clear hstep hlt r1 r2 r3 e2 HR;go_wp2;go_roundw
   case rel=>exact⟨k / 256,acc++[UInt8.ofNat k],by go_num,by simp;omega,by simpa using HLT.o,by rw[HA.o,HS.o];simp,by simpa using HR1.o⟩
   case measure=>simp[intOf];omega
  ·have hk0:k=0:=by omega
   subst hk0;have e:leF 8 n=acc:=by rw[HA.o];cases 8 - acc.length <;> simp[leF]
   have HE:=Hd e;clear e;go_wp2_with fail
   refine (jkq wr _ acc.length acc (by omega) HR.o.own).mono ?_;rintro e w1 ⟨⟨r,rfl⟩,R1,K1⟩;have hcv:=ja9 w1 Tryz.uBytes Tryz.uU8 Tryz.uStr R1;have HX:=Hd (jd8 HR.o.ext HR.o.new K1);clear R1 K1;go_wp2;go_ret
   exact⟨by unfold jbK;rw[HE.o];rfl,HX.o⟩
def jbp(base:UInt8)(n:Nat):ByteArray:=
 if n≤55 then ⟨#[base+UInt8.ofNat n]⟩else ⟨#[base+55+UInt8.ofNat (jbK n).size]⟩++jbK n
theorem jjr(w:World)(b:UInt8):(w.alloc (.cells #[.int .u8 (b.toNat:Int)] 5)).ownsRow 0 5 1 (.slice (some ⟨w.heap.size,0,none⟩) 1 1) 1 (jay [b]):=
 World.ownsRow_lit w _ 1 (Nat.zero_le _) (by decide) rfl
theorem jjc(a b:UInt8):((a.toNat:Int)+(b.toNat:Int)) % (256:Int)=((a+b).toNat:Int):=by
 rw[UInt8.toNat_add];omega
theorem jbo(w:World)(b:UInt8):(convert 92 9 (.slice (some ⟨w.heap.size,0,none⟩) 1 1)).run Tryz.prog (w.alloc (.cells #[.int .u8 (b.toNat:Int)] 5))=.ok (.string ⟨#[b]⟩) (w.alloc (.cells #[.int .u8 (b.toNat:Int)] 5)):=
 ja9 _ Tryz.uBytes Tryz.uU8 Tryz.uStr (jjr w b)
theorem jjT(w:World)(base:UInt8)(n:Nat)(hn:n≤1000000000):Calls Tryz.prog 205 #[.int .u8 base.toNat,.int .i64 n] w fun e w'=>e=.returned (.string (jbp base n))∧Ext w w':=by
 by_cases h:n≤55
 ·obtain⟨x,hx⟩:∃ x,x=base+UInt8.ofNat n:=⟨_,rfl⟩
  have e:((base.toNat:Int)+(n:Int)) % (256:Int)=(x.toNat:Int):=by rw[hx, ←jjc, ←jeA];omega
  have hcv:=jbo w x;have HB:=Hd (show jbp base n=⟨#[x]⟩ by unfold jbp;rw[if_pos h,hx]);clear hx;go_enter Tryz.func205,Tryz.ntmps205;go_wp2;go_ret
  exact⟨by rw[HB.o];rfl,(ExtR w).alloc _⟩
 ·have HB:=Hd (show jbp base n=⟨#[base+55+UInt8.ofNat (jbK n).size]⟩++jbK n by unfold jbp;rw[if_neg h])
  go_enter Tryz.func205,Tryz.ntmps205;go_wp2_with fail
  refine (jle w n (by omega)).mono ?_;rintro e w1 ⟨rfl,hE⟩
  obtain⟨d,hd⟩:∃ d,d=jbK n:=⟨_,rfl⟩
  have hdl:d.size≤8:=by rw[hd];have:=jec 8 n;simpa [jbK,ByteArray.size]using this
  obtain⟨x,hx⟩:∃ x,x=base+55+UInt8.ofNat d.size:=⟨_,rfl⟩
  have e2:(((base.toNat:Int)+55) % (256:Int)+(d.size:Int)) % (256:Int)=(x.toNat:Int):=by
   rw[hx, ←jjc, ←jjc, ←jeA];show (((base.toNat:Int)+55) % (256:Int)+(d.size:Int)) % (256:Int)=((((base.toNat:Int)+55) % (256:Int))+(d.size:Int) % (256:Int)) % (256:Int);omega
  have hcv:=jbo w1 x;have HD:=Hd hd;have HX:=Hd hx;rw[←hd];clear hx hd;go_wp2;go_ret
  exact⟨by rw[HB.o, ←HD.o, ←HX.o];rfl,hE.alloc _⟩
def jam(b:ByteArray):ByteArray:=if b.size=1∧b.data.toList.headD 255 < 128 then b else jbp 128 b.size++b
theorem jcy(base:UInt8)(n:Nat):(jbp base n).size≤9:=by
 have:=jec 8 n
 unfold jbp;split
 ·exact (by decide:1≤9)
 ·rw[ByteArray.size_append]
  have h1:(⟨#[base+55+UInt8.ofNat (jbK n).size]⟩:ByteArray).size=1:=rfl;have h2:(jbK n).size=(leF 8 n).length:=by simp[jbK,ByteArray.size]
  omega
theorem jcP(w:World)(b:ByteArray)(hn:b.size≤1000000000):Calls Tryz.prog 160 #[.string b] w fun e w'=>e=.returned (.string (jam b))∧Ext w w':=by
 by_cases h1:b.size=1
 ·obtain⟨x,rfl⟩:∃ x,b=⟨#[x]⟩:=by
   obtain⟨⟨l⟩⟩:=b
   have h1':l.length=1:=h1
   match l,h1' with
   | [x],_=>exact⟨x,rfl⟩
  by_cases hx:x < 128
  ·have HB:=Hd (show jam ⟨#[x]⟩=⟨#[x]⟩ by unfold jam;rw[if_pos ⟨rfl,hx⟩])
   have hd:(((⟨#[x]⟩:ByteArray)[0]'(Nat.zero_lt_one)).toNat:Int) < 128:=by show (x.toNat:Int) < 128;have:=UInt8.lt_iff_toNat_lt.1 hx;have e:(128:UInt8).toNat=128:=rfl;omega
   clear hx h1;go_enter Tryz.func160,Tryz.ntmps160;go_wp2_with fail
   all_goals first |(go_ret;exact⟨by rw[HB.o];rfl,ExtR w⟩) |(exfalso;omega)
  ·have HB:=Hd (show jam ⟨#[x]⟩=jbp 128 1++⟨#[x]⟩ by unfold jam;rw[if_neg (fun h=>hx h.2)];rfl)
   have hd:¬(((⟨#[x]⟩:ByteArray)[0]'(Nat.zero_lt_one)).toNat:Int) < 128:=by show ¬(x.toNat:Int) < 128;have e:(128:UInt8).toNat=128:=rfl;have h2:¬ x.toNat < (128:UInt8).toNat:=fun h=>hx (UInt8.lt_iff_toNat_lt.2 h);omega
   clear hx h1;go_enter Tryz.func160,Tryz.ntmps160;go_wp2_with fail
   refine (jjT w 128 1 (by omega)).mono ?_;rintro e w' ⟨rfl,hE⟩;have hsz:=jcy 128 1;go_wp2;go_ret
   exact⟨by rw[HB.o];rfl,hE⟩
 ·have c2:((b.size:Int) == 1)=false:=by simp;omega
  have HB:=Hd (show jam b=jbp 128 b.size++b by unfold jam;rw[if_neg (fun h=>h1 h.1)]);clear h1;go_enter Tryz.func160,Tryz.ntmps160;go_wp2_with fail
  refine (jjT w 128 b.size hn).mono ?_;rintro e w' ⟨rfl,hE⟩;have hsz:=jcy 128 b.size;go_wp2;go_ret
  exact⟨by rw[HB.o];rfl,hE⟩
end
section
open Go Go.RowKit
attribute [local go_sem] Oper.semAt_some
theorem jdc{F:BSet}{w2 w3:World}{xs:List UInt8}{n:Nat}{a:Act}{o:Oper}(hn:xs.length=n)(ho:execOp a.eval o=(do pure (.value (←convert 92 9 (.slice (some ⟨w2.heap.size,0,none⟩) n n)))))
  (h:jah F (w2.alloc (.cells (jay xs).toArray 5)) w3) (hF:¬ F w2.heap.size) (hm:n≤maxLen):(execOp a.eval o).run Tryz.prog w3=.ok (.value (.string ⟨xs.toArray⟩)) w3:=by
 subst hn;have hB:=(Blk.new w2 (.cells (jay xs).toArray 5)).keeps h hF;have hl:(jay xs).length=xs.length:=by unfold jay;rw[List.length_map]
 have hO:w3.ownsRow 0 5 1 (.slice (some ⟨w2.heap.size,0,none⟩) xs.length xs.length) xs.length (jay xs):=
  ⟨by rw[hl,Nat.mul_one],.inr ⟨_,xs.length,_,rfl,Nat.zero_le _,hB,Nat.le_refl _,hm,by simp[hl],by simp[hl];exact List.take_of_length_le (by rw[hl];exact Nat.le_refl _)⟩⟩
 have hc:=ja9 w3 Tryz.uBytes Tryz.uU8 Tryz.uStr hO;rw[ho,Sem.run_bind,hc];rfl
def joJ(w:World)(s:ByteArray)(v i:Value)(wr:World):Prop:=∃ k:Nat,k≤s.size∧i=.int .i64 k∧v=.string ⟨(jch (s.data.toList.take k)).toArray⟩∧Ext w wr
theorem joZ(x:UInt8):(x.toNat:Int) / (16:Int) % (256:Int)=((x >>> 4).toNat:Int):=by
 have:∀ f:Fin 256,(f.1:Int) / (16:Int) % (256:Int)=(((UInt8.ofNat f.1) >>> 4).toNat:Int):=by decide +kernel
 have h:=this ⟨x.toNat,x.toNat_lt⟩;simpa using h
theorem jo4(x:UInt8):(x.toNat:Int) % (16:Int)=((x &&& 15).toNat:Int):=by
 have:∀ f:Fin 256,(f.1:Int) % (16:Int)=(((UInt8.ofNat f.1) &&& 15).toNat:Int):=by decide +kernel
 have h:=this ⟨x.toNat,x.toNat_lt⟩;simpa using h
theorem jek(a b:List UInt8):(⟨a.toArray⟩:ByteArray)++⟨b.toArray⟩=⟨(a++b).toArray⟩:=by
 apply ByteArray.ext;rw[ByteArray.data_append]
 simp
theorem jhH(w:World)(s:ByteArray)(hs:s.size≤1000000):Calls Tryz.prog 74 #[.string s] w fun e w'=>e=.returned (.string (jcg s))∧Ext w w':=by
 obtain⟨R,hR⟩:∃ R,R=jcg s:=⟨_,rfl⟩
 have HR:=Hd hR;rw[←hR];clear hR;go_enter Tryz.func74,Tryz.ntmps74;go_wp2_with fail
 go_loopw [3,4] (fun v i wr=>joJ w s v i wr) (fun _ i _=>s.size - (intOf i).toNat)
 case atStart=>exact⟨0,Nat.zero_le _,rfl,rfl,ExtR w⟩
 case round =>
  obtain⟨k,hk,rfl,rfl,hE⟩:=hrel
  have HE:=Hd hE;clear hE
  by_cases hlt:k < s.size
  ·have b1:(k:Int) < (s.size:Int):=by omega
   obtain⟨x,hx⟩:∃ x,x=s[k]:=⟨_,rfl⟩
   have HX:=Hd hx
   obtain⟨t,ht⟩:∃ t,t=jch (s.data.toList.take k):=⟨_,rfl⟩
   rw[←ht];have HT:=Hd ht;have htl:t.length≤2000000:=by
    rw[ht]
    have:∀ l:List UInt8,(jch l).length=2 * l.length:=fun l=>by
     induction l with
     | nil=>rfl
     | cons a l ih=>unfold jch at *;rw[List.flatMap_cons,List.length_append,ih];simp;omega
    rw[this,List.length_take];omega
   clear hx ht;go_wp2_with fail
   refine jaG [0,1,2,3,4,5,6,7,8,9,10,11,12] [9] Ext Ext ExtR ExtT (fun x y z h k=>h.trans k) (fun x y h=>h) (by kernel_rfl) (by kernel_rfl) (by kernel_rfl) ?_;iterate 9 (refine jao _ rfl (by kernel_rfl) rfl rfl (fun K hK=>?_);go_big_quiet_op;refine hK _ ?_;clear hK K)
   refine jaK _ rfl (by kernel_rfl) rfl (fun w2 he K hK=>?_);have HX2:=Hd (show Ext wr w2 from(jaj _).trans he);clear he;go_simp;refine hK _ _ ((ExtR w2).alloc _) ?_;clear hK K;rw[joZ,jo4];refine jdO _ (.string ⟨[s[k] >>> 4,s[k] &&& 15].toArray⟩) rfl (by kernel_rfl) rfl (fun w3 h3=>jdc (n:=2) (xs:=[s[k] >>> 4,s[k] &&& 15]) rfl (by kernel_rfl) h3 (fun f=>f) (by decide)) ?_;simp only[Act.put,sA,sB,sC]
   obtain⟨t2,ht2⟩:∃ t2,t2=[s[k] >>> 4,s[k] &&& 15]:=⟨_,rfl⟩
   rw[←ht2];have h2l:t2.length=2:=by rw[ht2];rfl
   have HT2:=Hd ht2;have b5:¬(9223372036854775807 < (⟨t.toArray⟩:ByteArray).size+(⟨t2.toArray⟩:ByteArray).size):=by show ¬(_ < t.length+t2.length);omega
   clear ht2;iterate 2 (refine jao _ rfl (by kernel_rfl) rfl rfl (fun K hK=>?_);go_big_quiet_op;refine hK _ ?_;clear hK K)
   refine jbt (by kernel_rfl) (fun w6 he=>?_);have HE6:=Hd (HE.o.trans ((HX2.o.alloc _).trans he));clear he;go_wp2_with fail
   go_roundw
   case rel=>exact⟨k+1,by omega,by go_num,by rw[jek,jgT s hlt, ←HT.o, ←HT2.o],HE6.o⟩
   case measure=>simp[intOf];omega
  ·have hks:k=s.size:=by omega
   have HF:=Hd (show (⟨(jch (s.data.toList.take k)).toArray⟩:ByteArray)=R by
    rw[HR.o,List.take_of_length_le (by rw[hks];exact Nat.le_refl _)];rfl)
   rw[HF.o];clear hks;go_wp2_with fail
   go_ret
   exact⟨rfl,HE.o⟩
end
end Go.Proofs.YtcpnjmcipainpaaGreatDoor
