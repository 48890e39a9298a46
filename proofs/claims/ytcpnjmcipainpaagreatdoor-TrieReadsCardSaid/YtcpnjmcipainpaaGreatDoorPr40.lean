/- Lemmas; each is under no condition but those that it states. -/
import Derived.Test.YtcpnjmcipainpaaGreatDoorPr39
namespace Go.Proofs.YtcpnjmcipainpaaGreatDoor
set_option linter.unusedSimpArgs false
set_option linter.unusedVariables false
set_option maxRecDepth 100000
set_option maxHeartbeats 16000000
open Go Go.RowKit
section
attribute [local go_sem] Oper.semAt_some
theorem Tryz.sWords:jeF Tryz.prog 202 206 1 4:=jeF.mk' vY (show (Tryz.prog.info? 206).map (fun i=>(i.zero,i.size,i.bytes))=some (some (.int .u32 0),1,4) by kernel_rfl) rfl vI
theorem Tryz.enterRight3(args:Array Value)(w:World):(callFunc 185 args).run Tryz.prog w=.ok (.enter 185 args) w:=by kernel_rfl
def wL(B:List UInt8)(k:Nat):List UInt32:=if k<=16 then jdG B k else jgD B (k - 16)
theorem jyb(B:List UInt8)(k:Nat):(wL B k).length=k:=by
 unfold wL;split
 ·simp[jdG]
 ·rw[jcm];omega
theorem jyc(B:List UInt8){k:Nat}(h:k < 16):wL B (k+1)=wL B k++[jeE B k]:=by
 unfold wL;rw[if_pos vO,if_pos vO];simp[jdG,List.range_succ]
theorem jyd(B:List UInt8){k:Nat}(h:¬ k < 16):wL B (k+1)=wL B k++[jix (wL B k)]:=by
 have e:wL B k=jgD B (k - 16):=by
  unfold wL;split
  ·have:k=16:=by omega
   subst this;rfl
  ·rfl
 rw[e];unfold wL;rw[if_neg vO,show k+1 - 16=(k - 16)+1 by omega];rfl
theorem jlR{P:Program}{ops:Array Oper}{rest:List Oper}{a:Act}{w:World}{Q:Exit->Act->World->Prop}{d:Option Tmp}{T:TypeId}{n:Nat}{ps:Array (Nat × Operand)}{ty:TypeId}{pos:String}{af:Array Edge}(v:Value)(w':World)(h0:(execOp a.eval ⟨d,.buildSlice T n ps,ty,pos,af,none⟩).run P w=.ok (.value v) w')(h:wpList P ops Q rest (a.put d v) w'):wpList P ops Q (⟨d,.buildSlice T n ps,ty,pos,af,none⟩ :: rest) a w:=
 wpList_plain rfl fun K hK=>jcy (v:=v) (w':=w') h0 (hK _ _ h)
def Bk1(w:World)(B:List UInt8)(v iv:Value)(wr:World):Prop:=∃ k:Nat,k<=64/\iv=.int .i64 k/\ORow 206 1 w wr v k ((wL B k).map wv)
theorem W8.add_comm(v u:W8):v.add u=u.add v:=by
 unfold W8.add addW;simp[UInt32.add_comm]
theorem jr2(v u:W8){k:Nat}(hk:k < 8):∃ x y,(jeG v.words u.words k)[k]?=some x/\u.words[k]?=some y/\(jeG v.words u.words k).set k (addW x y)=jeG v.words u.words (k+1):=by
 have hl:v.words.length=u.words.length:=rfl;have h1:k < v.words.length:=hk;have h2:k < u.words.length:=hk;have hs:=jkt hl h1
 exact⟨_,_,by rw[jkr hl h1];exact List.getElem?_eq_getElem h1,List.getElem?_eq_getElem h2,hs⟩
def Bk3(w:World)(g cap:Nat)(R V:W8)(iv:Value)(wr:World):Prop:=∃ k:Nat,k<=8/\iv=.int .i64 k/\ORow 206 1 w wr (.slice (some ⟨g,0,none⟩) 8 cap) 8 ((jeG R.words V.words k).map wv)
def Bk2(w:World)(a1:Option Addr)(c1:Nat)(V:W8)(B:List UInt8)(v iv:Value)(wr:World):Prop:=∃ k:Nat,k<=64/\iv=.int .i64 k/\ORow 206 1 w wr v 8 ((jdC (ja2 B) V k).words.map wv)/\ORow 206 1 w wr (.slice a1 64 c1) 64 ((ja2 B).map wv)
theorem jtD(w:World)(bh bk ch:Nat)(V:W8)(s:vB)(hs:s.size=64)(hV:∀ j u,(V.words.map wv)[j]?=some u->w.cell? ⟨bh,j,none⟩=some u)(hK:Blk w bk (.cells (jeC.map wv).toArray 206)) :
  vQ 141 #[.slice (some ⟨bh,0,none⟩) 8 ch,.slice (some ⟨bk,0,none⟩) 64 64,.string s] w fun e w'=>∃ g c,e=.returned (.slice (some ⟨g,0,none⟩) 8 c)/\w.heap.size<=g/\(∀ j u,((mixW V s.data.toList).words.map wv)[j]?=some u->w'.cell? ⟨g,j,none⟩=some u)/\Ext w w':=by
 have HV:=Hd hV;have HK:=Hd hK;have HSZ:=Hd hs;have hX:∀ (p q:UInt32) (w:World),(binOp .xor 206 (wv p) (wv q)).run Tryz.prog w=.ok (wv (xorW p q)) w:=fun _ _ _=>jj8;have hA:∀ (p q:UInt32) (w:World),(binOp .add 206 (wv p) (wv q)).run Tryz.prog w=.ok (wv (addW p q)) w:=fun _ _ _=>jj6;have hN:∀ (p q:UInt32) (w:World),(binOp .and 206 (wv p) (wv q)).run Tryz.prog w=.ok (wv (andW p q)) w:=fun _ _ _=>jnO;have hU:∀ (p:UInt32) (w:World),(Op.unary .xor (wv p)).run Tryz.prog w=.ok (wv (notW p)) w:=fun _ _=>jnP;have hS3:∀ (p:UInt32) (w:World),(binOp .shr 206 (wv p) (.int .u64 3)).run Tryz.prog w=.ok (wv (shrW p 3)) w:=fun _ _=>jc0 3 vI .u64;have hS10:∀ (p:UInt32) (w:World),(binOp .shr 206 (wv p) (.int .u64 10)).run Tryz.prog w=.ok (wv (shrW p 10)) w:=fun _ _=>jc0 10 vI .u64;clear hV hK hs;go_enter Tryz.func141,Tryz.ntmps141;go_wp2_with fail
 go_loopw [7,8] (fun v iv wr=>Bk1 w s.data.toList v iv wr) (fun _ iv _=>64 - (intOf iv).toNat)
 case atStart=>exact⟨0,by omega,rfl,ORow.nil _ _ (ExtR w)⟩
 case round =>
  obtain⟨k,hk,rfl,hR⟩:=hrel
  have HR:=Hd hR
  obtain⟨a1,c1,rfl⟩:=hR.sl;clear hR
  by_cases hlt:k < 64
  ·have b1:(k:Int) < 64:=by omega
   by_cases h16:k < 16
   ·have b2:(k:Int) < 16:=by omega
    go_wp2_with fail
    refine vC (jv1 wr s k (by have:=HSZ.o;omega) (by have:=HSZ.o;omega)) fun w1 hE=>?_;have HR1:=Hd (HR.o.mono hE);have HW:=Hd (jyc s.data.toList h16);clear hE HR
    obtain⟨x,hx⟩:=vE (jeE s.data.toList k)
    have HX:=Hd hx;rw[<-hx,show wv x=.int .u32 (x.toNat:Int)from rfl];clear hx;have hm1:k+1<=maxLen:=by unfold maxLen;omega
    have hm2:(k+1) * 4<=140737488355328:=by omega
    go_wp2_with (at_builtin;refine jba Tryz.sWords (HR1.o.mono ((ExtR w1).alloc _)) (.tmp 30) (.tmp 34) rfl rfl rfl (jaS (Blk.new w1 _)) (news:=[wv x]) (by intro u hu;simp at hu;subst hu;rfl) rfl rfl hm1 hm2 ?_;intro v' w' r1 r2 r3)
    have r1':ORow 206 1 w w' v' (k+1) ((wL s.data.toList (k+1)).map wv):=by rw[HW.o,List.map_append, <-HX.o];exact r1
    obtain⟨a8,c8,rfl⟩:=r1'.sl
    have HR5:=Hd r1';clear r1 r2 r3 r1' HR1;go_wp2_with fail
    go_roundw
    case rel=>exact⟨k+1,by omega,by go_num,HR5.o⟩
    case measure=>simp[intOf];omega
   ·have b2:¬(k:Int) < 16:=by omega
    obtain⟨a15,ha15⟩:∃ a,a=k - 15:=⟨_,rfl⟩
    obtain⟨a2,ha2⟩:∃ a,a=k - 2:=⟨_,rfl⟩
    obtain⟨a16,ha16⟩:∃ a,a=k - 16:=⟨_,rfl⟩
    obtain⟨a7,ha7⟩:∃ a,a=k - 7:=⟨_,rfl⟩
    have f15:(k:Int) - 15=(a15:Int):=by omega
    have f2:(k:Int) - 2=(a2:Int):=by omega
    have f16:(k:Int) - 16=(a16:Int):=by omega
    have f7:(k:Int) - 7=(a7:Int):=by omega
    have l15:a15 < k:=by omega
    have l2:a2 < k:=by omega
    have l16:a16 < k:=by omega
    have l7:a7 < k:=by omega
    obtain⟨WL,hWL⟩:=vE (wL s.data.toList k)
    have hln:WL.length=k:=by rw[hWL,jyb]
    have HNX:=Hd (show wL s.data.toList (k+1)=WL++[addW (addW (addW (WL.getD a16 0) (sig0 (WL.getD a15 0))) (WL.getD a7 0)) (sig1 (WL.getD a2 0))] by
     rw[jyd _ h16, <-hWL];unfold jix;rw[hln, <-ha16, <-ha15, <-ha7, <-ha2])
    rw[<-hWL]at HR;have HLN:=Hd hln;clear ha15 ha2 ha16 ha7 hWL hln
    obtain⟨_,⟨h0,_⟩ |⟨g,cap,cur,h0,_⟩⟩:=HR.o.own
    ·obtain⟨_,h0,_⟩:=Value.slice.inj h0
     omega
    obtain⟨rfl,_,rfl⟩:=Value.slice.inj h0
    have hcell:∀ j,j < k->wr.cell? ⟨g,j,none⟩=some (wv (WL.getD j 0)):=fun j hj=>by
     have h:=HR.o.own.cells (g:=g) rfl j (wv (WL.getD j 0)) (by
      rw[List.getElem?_map,List.getElem?_eq_getElem (by rw[HLN.o];exact hj)];simp[show j < WL.length by rw[HLN.o];exact hj])
     rwa [Addr.add_lit,Nat.zero_add]at h
    have Q15:=Hd (hcell a15 l15);have Q2:=Hd (hcell a2 l2);have Q16:=Hd (hcell a16 l16);have Q7:=Hd (hcell a7 l7);have q15:=hcell a15 l15;have q2:=hcell a2 l2
    obtain⟨x15,hx15⟩:∃ x,x=WL.getD a15 0:=⟨_,rfl⟩
    obtain⟨x2,hx2⟩:∃ x,x=WL.getD a2 0:=⟨_,rfl⟩
    obtain⟨x16,hx16⟩:∃ x,x=WL.getD a16 0:=⟨_,rfl⟩
    obtain⟨x7,hx7⟩:∃ x,x=WL.getD a7 0:=⟨_,rfl⟩
    rw[<-hx15]at q15 Q15 HNX;rw[<-hx2]at q2 Q2 HNX;rw[<-hx16]at Q16 HNX;rw[<-hx7]at Q7 HNX;have L16:=Hd (show WL[a16]?=some x16 from by rw[hx16,List.getElem?_eq_getElem (by rw[HLN.o];exact l16)];simp[show a16 < WL.length by rw[HLN.o];exact l16]);have L7:=Hd (show WL[a7]?=some x7 from by rw[hx7,List.getElem?_eq_getElem (by rw[HLN.o];exact l7)];simp[show a7 < WL.length by rw[HLN.o];exact l7]);clear hcell hx15 hx2 hx16 hx7 h0;go_wp2_with fail
    refine (jyV wr x15).mono ?_;rintro e w' ⟨rfl,rfl⟩;go_wp2_with fail
    refine (jxO wr x15).mono ?_;rintro e w' ⟨rfl,rfl⟩;go_wp2_with fail
    refine (jxN wr x2).mono ?_;rintro e w' ⟨rfl,rfl⟩;go_wp2_with fail
    refine (jxP wr x2).mono ?_;rintro e w' ⟨rfl,rfl⟩;go_wp2_with fail
    have hm1:k+1<=maxLen:=by unfold maxLen;omega
    have hm2:(k+1) * 4<=140737488355328:=by omega
    have HM:=Hd (And.intro hm1 hm2);clear hm1 hm2;refine jaD [0,1,2,3,4,5,6,7,8,9,10,11,12,13,14,15,16,17,18] [16,17] Ext (fun x y=>∀ vs,ORow 206 1 w x (.slice (some ⟨g,0,none⟩) k c1) k vs->ORow 206 1 w y (.slice (some ⟨g,0,none⟩) k c1) k vs) ExtR ExtT (fun x y z h1 h2 vs h=>h2 vs (h1 vs h)) (fun x y h vs k=>k.mono h) vY vY vY ?_;have hrd:∀ w1,(∀ vs,ORow 206 1 w wr.drew (.slice (some ⟨g,0,none⟩) k c1) k vs->ORow 206 1 w w1 (.slice (some ⟨g,0,none⟩) k c1) k vs)->∀ j x,WL[j]?=some x->w1.cell? ⟨g,j,none⟩=some (wv x):=fun w1 h j x hj=>by
     have h:=(h _ (HR.o.mono (jaj wr))).own.cells (g:=g) rfl j (wv x) (by rw[List.getElem?_map,hj];rfl)
     rwa [Addr.add_lit,Nat.zero_add]at h
    iterate 5 refine vD ?_
    refine qDL ⟨g,a16,none⟩ _ rfl (fun w1 h1=>jab Tryz.uU32 rfl (hrd w1 h1 a16 x16 L16.o)) ?_;refine vS ?_;iterate 6 refine vD ?_
    refine qDL ⟨g,a7,none⟩ _ rfl (fun w1 h1=>jab Tryz.uU32 rfl (hrd w1 h1 a7 x7 L7.o)) ?_;refine vS ?_;iterate 3 refine vD ?_
    obtain⟨nx,hnx⟩:∃ x,x=addW (addW (addW x16 (xorW (xorW (rotW x15 7) (rotW x15 18)) (shrW x15 3))) x7) (xorW (xorW (rotW x2 17) (rotW x2 19)) (shrW x2 10)):=⟨_,rfl⟩
    have HNX2:=Hd (show wL s.data.toList (k+1)=WL++[nx] by rw[HNX.o,hnx];rfl);rw[<-hnx,show wv nx=.int .u32 (nx.toNat:Int)from rfl];clear hnx hrd;refine qDH _ rfl (fun w2 he K hK=>?_);have HR2:=Hd (HR.o.mono ((jaj wr).trans he));clear he;go_simp;refine hK _ _ (fun vs h=>h.mono ((ExtR w2).alloc _)) ?_;clear hK K;refine qDH _ rfl (fun w3 he K hK=>?_);have HR3:=Hd (HR2.o.mono (((ExtR w2).alloc _).trans he));have hB:∀ j u,([wv nx]:List Value)[j]?=some u->w3.cell? ((⟨w2.heap.size,0,none⟩:Addr).add j)=some u:=fun j u hj=>jaa (jaS (Blk.new w2 (.cells [wv nx].toArray 206)) j u hj) he;refine jwh Tryz.sWords HR3.o (.tmp 62) (.tmp 78) rfl rfl hB (by intro u hu;simp at hu;subst hu;rfl) rfl rfl HM.o.1 HM.o.2 (fun v' w4 r1 r2 r3 r4=>hK _ _ (fun vs h=>by
     have e:vs=WL.map wv:=by
      have h1:=h.own;have h2:=HR3.o.own
      obtain⟨_,⟨e1,_⟩ |⟨g1,c1',cur1,e1,_,e2,_,_,_,e3⟩⟩:=h1
      ·cases e1
      ·obtain⟨_,⟨f1,_⟩ |⟨g2,c2',cur2,f1,_,f2,_,_,_,f3⟩⟩:=h2
       ·cases f1
       ·have q1:=congrArg Addr.block (Option.some.inj (Value.slice.inj e1).1)
        have q2:=congrArg Addr.block (Option.some.inj (Value.slice.inj f1).1);have q1:g=g1:=q1;have q2:g=g2:=q2;subst q1 q2;rw[e2]at f2;have f2:=Option.some.inj f2;injection f2 with f2;rw[<-e3,f2,f3]
     rw[e];exact r4) ?_)
    have r1':ORow 206 1 w w4 v' (k+1) ((wL s.data.toList (k+1)).map wv):=by rw[HNX2.o,List.map_append];exact r1
    have HR4:=Hd r1';clear hK K he r1 r2 r3 r4 r1' hB HR2 HR3
    obtain⟨a4,c4,rfl⟩:=HR4.o.sl
    refine vS ?_
    refine vD ?_
    refine qDE (fun w5 he=>?_);have HR5:=Hd (HR4.o.mono he);clear he HR4;go_wp2_with fail
    go_roundw
    case rel=>exact⟨k+1,by omega,by go_num,HR5.o⟩
    case measure=>simp[intOf];omega
  ·have hk64:k=64:=by omega
   subst hk64;have HW:=Hd (show ORow 206 1 w wr (.slice a1 64 c1) 64 ((ja2 s.data.toList).map wv)from HR.o);have HC0:=Hd (show ORow 206 1 w (wr.alloc (.cells #[] 206)) (.slice (some ⟨wr.heap.size,0,none⟩) 0 0) 0 []from ORow.lit #[] HR.o.ext vI rfl);have HV1:=Hd (show ∀ j u,(V.words.map wv)[j]?=some u->(wr.alloc (.cells #[] 206)).cell? ((⟨bh,0,none⟩:Addr).add j)=some u from fun j u hj=>by
    rw[Addr.add_lit,Nat.zero_add];exact jaa (HV.o _ _ hj) (HR.o.ext.trans ((ExtR wr).alloc _)))
   go_wp2_with (at_builtin;refine jba Tryz.sWords HC0.o (.tmp 80) (.tmp 81) rfl rfl rfl HV1.o (fun u hu=>by obtain⟨x,_,rfl⟩:=List.mem_map.1 hu;rfl) rfl rfl vI vI ?_;intro v' w' r1 r2 r3)
   have HR2:=Hd (show ORow 206 1 w w' v' 8 ((jdC (ja2 s.data.toList) V 0).words.map wv)from r1);have HW2:=Hd ((HW.o.mono ((ExtR wr).alloc _)).keeps r2 (fun b hb e=>by
    have h1:=HW.o.lt b hb;have e:some wr.heap.size=some b:=e
    have:=Option.some.inj e
    omega) (fun b hb e=>by
    have e:some wr.heap.size=some b:=e
    have:=Option.some.inj e
    have:=HW.o.ext.size
    omega))
   obtain⟨a8,c8,rfl⟩:=HR2.o.sl;clear r1 r2 r3 HR HC0 HV1;go_wp2_with fail
   go_loopw [13,14] (fun v iv wr=>Bk2 w a1 c1 V s.data.toList v iv wr) (fun _ iv _=>64 - (intOf iv).toNat)
   case atStart=>exact⟨0,by omega,rfl,HR2.o,HW2.o⟩
   case round =>
    obtain⟨k,hk,rfl,hR,hW⟩:=hrel
    have HR:=Hd hR;have HW:=Hd hW
    obtain⟨v,hv⟩:=vE (jdC (ja2 s.data.toList) V k)
    rw[<-hv]at HR;have HVK:=Hd hv
    obtain⟨_,⟨h0,_⟩ |⟨g,cap,cur,h0,_⟩⟩:=hR.own
    ·obtain⟨_,_,e⟩:=hR.sl
     rw[e]at h0;cases (Value.slice.inj h0).2.1
    subst h0;clear hR hW hv
    by_cases hlt:k < 64
    ·have b1:(k:Int) < 64:=by omega
     obtain⟨_,⟨h0,_⟩ |⟨g7,cap7,cur7,h0,_⟩⟩:=HW.o.own
     ·cases (Value.slice.inj h0).2.1
     obtain⟨rfl,_,rfl⟩:=Value.slice.inj h0
     obtain⟨ck,hck⟩:=vE (jeC.getD k 0)
     obtain⟨wk,hwk⟩:=vE ((ja2 s.data.toList).getD k 0)
     have qc:wr.cell? ⟨bk,k,none⟩=some (wv ck):=by
      refine jaa (HK.o.cellL ?_) HR.o.ext;rw[List.getElem?_map,List.getElem?_eq_getElem (show k < jeC.length from hlt),hck];simp[show k < jeC.length from hlt]
     have hsl:(ja2 s.data.toList).length=64:=by simp[ja2,jcm]
     have qw:wr.cell? ⟨g7,k,none⟩=some (wv wk):=by
      have h:=HW.o.own.cells (g:=g7) rfl k (wv wk) (by
       rw[List.getElem?_map,List.getElem?_eq_getElem (by rw[hsl];exact hlt),hwk];simp[hsl,hlt])
      rwa [Addr.add_lit,Nat.zero_add]at h
     have HNX:=Hd (show jdC (ja2 s.data.toList) V (k+1)=jlA v ck wk by rw[HVK.o,hck,hwk];rfl);clear h0 hck hwk hsl
     obtain⟨x0,x1,x2,x3,x4,x5,x6,x7⟩:=v
     have hcell:∀ j u,([wv x0,wv x1,wv x2,wv x3,wv x4,wv x5,wv x6,wv x7]:List Value)[j]?=some u->wr.cell? ⟨g,j,none⟩=some u:=fun j u hj=>by
      have h:=HR.o.own.cells (g:=g) rfl j u hj
      rwa [Addr.add_lit,Nat.zero_add]at h
     have q0:=hcell 0 _ rfl;have q1:=hcell 1 _ rfl;have q2:=hcell 2 _ rfl;have q3:=hcell 3 _ rfl;have q4:=hcell 4 _ rfl;have q5:=hcell 5 _ rfl;have q6:=hcell 6 _ rfl;have q7:=hcell 7 _ rfl;clear hcell;have QC:=Hd qc;have QW:=Hd qw;have Q0:=Hd q0;have Q1:=Hd q1;have Q2:=Hd q2;have Q3:=Hd q3;have Q4:=Hd q4;have Q5:=Hd q5;have Q6:=Hd q6;have Q7:=Hd q7;clear q0 q1 q2 q3 q4 q5 q6 q7 qc qw;go_wp2_with fail
     refine jai [0,1,2,3,4,5,6,7,8,9,10,11,12,13,14,15,16,17,18,19,20,21,22,23] Ext ExtR ExtT vY vY vY ?_;iterate 2 refine vK ?_
     refine qKL ⟨g,0,none⟩ _ rfl (fun w1 h1=>jab Tryz.uU32 rfl (jaa Q0.o ((jaj wr).trans h1))) ?_;refine vS ?_;iterate 2 refine vK ?_
     refine qKL ⟨g,1,none⟩ _ rfl (fun w1 h1=>jab Tryz.uU32 rfl (jaa Q1.o ((jaj wr).trans h1))) ?_;refine vS ?_;iterate 2 refine vK ?_
     refine qKL ⟨g,2,none⟩ _ rfl (fun w1 h1=>jab Tryz.uU32 rfl (jaa Q2.o ((jaj wr).trans h1))) ?_;refine vS ?_;iterate 2 refine vK ?_
     refine qKL ⟨g,4,none⟩ _ rfl (fun w1 h1=>jab Tryz.uU32 rfl (jaa Q4.o ((jaj wr).trans h1))) ?_;refine vS ?_;iterate 2 refine vK ?_
     refine qKL ⟨g,5,none⟩ _ rfl (fun w1 h1=>jab Tryz.uU32 rfl (jaa Q5.o ((jaj wr).trans h1))) ?_;refine vS ?_;iterate 2 refine vK ?_
     refine qKL ⟨g,6,none⟩ _ rfl (fun w1 h1=>jab Tryz.uU32 rfl (jaa Q6.o ((jaj wr).trans h1))) ?_;refine vS ?_;iterate 6 refine vK ?_
     refine qKE (fun w3 he=>?_);have X3:=Hd ((jaj wr).trans he);clear he;go_wp2_with fail
     refine jai [0,1,2,3,4,5,6,7,8,9,10,11,12,13,14,15,16,17,18,19,20,21,22,23,24,25,26,27,28,29,30,31] Ext ExtR ExtT vY vY vY ?_;iterate 2 refine vK ?_
     refine qKL ⟨g,7,none⟩ _ rfl (fun w1 h1=>jab Tryz.uU32 rfl (jaa Q7.o ((X3.o.trans (jaj w3)).trans h1))) ?_;refine vS ?_
     refine vK ?_
     refine qKC _ 185 #[wv x4,.int .u64 6] (wv (rotW x4 6)) rfl (fun w1=>jay Tryz.enterRight3 vY) (fun w1 h1=>(jyU w1 x4).mono (fun e w2 ⟨h1,h2⟩=>⟨h1,h2 ▸ ExtR w1⟩)) ?_;refine vS ?_
     refine vK ?_
     refine qKC _ 185 #[wv x4,.int .u64 11] (wv (rotW x4 11)) rfl (fun w1=>jay Tryz.enterRight3 vY) (fun w1 h1=>(jxL w1 x4).mono (fun e w2 ⟨h1,h2⟩=>⟨h1,h2 ▸ ExtR w1⟩)) ?_;refine vS ?_;iterate 2 refine vK ?_
     refine qKC _ 185 #[wv x4,.int .u64 25] (wv (rotW x4 25)) rfl (fun w1=>jay Tryz.enterRight3 vY) (fun w1 h1=>(jxR w1 x4).mono (fun e w2 ⟨h1,h2⟩=>⟨h1,h2 ▸ ExtR w1⟩)) ?_;refine vS ?_;iterate 14 refine vK ?_
     refine qKL ⟨bk,k,none⟩ _ rfl (fun w1 h1=>jab Tryz.uU32 rfl (jaa QC.o ((X3.o.trans (jaj w3)).trans h1))) ?_;refine vS ?_;iterate 4 refine vK ?_
     refine qKL ⟨g7,k,none⟩ _ rfl (fun w1 h1=>jab Tryz.uU32 rfl (jaa QW.o ((X3.o.trans (jaj w3)).trans h1))) ?_;refine vS ?_;iterate 2 refine vK ?_
     refine qKE (fun w4 he=>?_);have X4:=Hd (X3.o.trans ((jaj w3).trans he));clear he X3
     obtain⟨tv,htv⟩:∃ t,t=tOne ⟨x0,x1,x2,x3,x4,x5,x6,x7⟩ ck wk:=⟨_,rfl⟩
     have htv':=htv;unfold tOne at htv';simp only at htv';rw[<-htv'];have HTV:=Hd htv;clear htv htv';go_wp2_with fail
     refine (jyT w4 x0).mono ?_;rintro e w' ⟨rfl,rfl⟩;go_wp2_with fail
     refine (jxM w4 x0).mono ?_;rintro e w' ⟨rfl,rfl⟩;go_wp2_with fail
     refine (jxQ w4 x0).mono ?_;rintro e w' ⟨rfl,rfl⟩;have q3:=jaa Q3.o X4.o
     obtain⟨sv,hsv⟩:∃ t,t=addW (xorW (xorW (rotW x0 2) (rotW x0 13)) (rotW x0 22)) (xorW (xorW (andW x0 x1) (andW x0 x2)) (andW x1 x2)):=⟨_,rfl⟩
     have HSV:Hid (tTwo ⟨x0,x1,x2,x3,x4,x5,x6,x7⟩=sv):=hsv.symm;go_wp2_with (refine jlR (.slice (some ⟨w4.heap.size,0,none⟩) 8 8) (w4.alloc (.cells #[wv (addW tv sv),wv x0,wv x1,wv x2,wv (addW x3 tv),wv x4,wv x5,wv x6] 206)) (by rw[hsv];kernel_rfl) ?_;clear hsv q3)
     have HN:=Hd (show ORow 206 1 w (w4.alloc (.cells #[wv (addW tv sv),wv x0,wv x1,wv x2,wv (addW x3 tv),wv x4,wv x5,wv x6] 206)) (.slice (some ⟨w4.heap.size,0,none⟩) 8 8) 8 ((jdC (ja2 s.data.toList) V (k+1)).words.map wv)from by
      have h:=ORow.lit (T:=206) (sz:=1) #[wv (addW tv sv),wv x0,wv x1,wv x2,wv (addW x3 tv),wv x4,wv x5,wv x6] (n:=8) (HR.o.ext.trans X4.o) vI rfl;rw[HNX.o];unfold jlA;rw[HSV.o, <-HTV.o];exact h)
     have HW5:=Hd (HW.o.mono (X4.o.trans ((ExtR w4).alloc (.cells #[wv (addW tv sv),wv x0,wv x1,wv x2,wv (addW x3 tv),wv x4,wv x5,wv x6] 206))))
     obtain⟨w5,hw5⟩:=vE (w4.alloc (.cells #[wv (addW tv sv),wv x0,wv x1,wv x2,wv (addW x3 tv),wv x4,wv x5,wv x6] 206))
     rw[<-hw5]at HN HW5 ⊢;clear hw5;go_wp2_with fail
     go_roundw
     case rel=>exact⟨k+1,by omega,by go_num,HN.o,HW5.o⟩
     case measure=>simp[intOf];omega
    ·have hk64:k=64:=by omega
     subst hk64;have HR0:=Hd (show ORow 206 1 w wr (.slice (some ⟨g,0,none⟩) 8 cap) 8 ((jeG v.words V.words 0).map wv)from HR.o);have HFIN:=Hd (show (jeG v.words V.words 8)=(mixW V s.data.toList).words by
      rw[jkq,HVK.o,W8.add_comm];rfl)
     clear HW HR HVK;go_wp2_with fail
     rw[show ((64:Nat):Int)=(64:Int)from rfl];go_loopw [23] (fun iv wr=>Bk3 w g cap v V iv wr) (fun iv _=>8 - (intOf iv).toNat)
     case atStart=>exact⟨0,by omega,rfl,HR0.o⟩
     case round =>
      obtain⟨k,hk,rfl,hR⟩:=hrel
      have HR:=Hd hR;clear hR
      by_cases hlt:k < 8
      ·have b1:(k:Int) < 8:=by omega
       obtain⟨x,y,hx,hy,hset⟩:=jr2 v V hlt
       have q1:wr.cell? ⟨g,k,none⟩=some (wv x):=by
        have h:=HR.o.own.cells (g:=g) rfl k (wv x) (by rw[List.getElem?_map,hx];rfl)
        rwa [Addr.add_lit,Nat.zero_add]at h
       have q2:wr.cell? ⟨bh,k,none⟩=some (wv y):=jaa (HV.o _ _ (by rw[List.getElem?_map,hy];rfl)) HR.o.ext;have Q1:=Hd q1;have Q2:=Hd q2;have HSET:=Hd hset;clear hx hy hset q1 q2;go_wp2_with fail
       refine jau [0,1,2,3,4,5,6,7,8,9,10,11,12] [12] Ext ExtR ExtT vY vY vY ?_;iterate 5 refine vP ?_
       refine qL ⟨g,k,none⟩ _ rfl (fun w1 h1=>jab Tryz.uU32 rfl (jaa Q1.o ((jaj wr).trans h1))) ?_;refine vS ?_;iterate 3 refine vP ?_
       refine qL ⟨bh,k,none⟩ _ rfl (fun w1 h1=>jab Tryz.uU32 rfl (jaa Q2.o ((jaj wr).trans h1))) ?_;refine vS ?_;iterate 2 refine vP ?_
       refine qH _ rfl (fun w6 he K hK=>?_);have HR6:=Hd (HR.o.mono ((jaj wr).trans he));have qq1:=jaa Q1.o ((jaj wr).trans he);have qq2:w6.frozen? ⟨g,k,none⟩=false:=HR6.o.own.frozenAt k;have h7:=HR6.o.set k (wv (addW x y));rw[<-List.map_set,HSET.o]at h7;have HR7:=Hd h7;clear h7 he HR Q1 Q2;refine jkm g k (wv (addW x y)) rfl vY vY rfl Tryz.iU32 qq1 qq2 (hK _ _ ?_);clear hK K qq1 qq2;refine qE (fun w8 he=>?_);have HR8:=Hd (HR7.o.mono he);clear he HR7 HR6;go_wp2_with fail
       go_roundw
       case rel=>exact⟨k+1,by omega,by go_num,HR8.o⟩
       case measure=>simp[intOf];omega
      ·have hk8:k=8:=by omega
       subst hk8;have hfin:=HR.o;rw[HFIN.o]at hfin;have HF:=Hd hfin;clear hfin;go_wp2_with fail
       go_ret
       exact⟨g,cap,rfl,HF.o.new g rfl,fun j u hj=>by
        have h:=HF.o.own.cells (g:=g) rfl j u hj
        rwa [Addr.add_lit,Nat.zero_add]at h,HF.o.ext⟩
theorem jfd{F:BSet}{w2 w3:World}{xs:List UInt8}{n:Nat}{a:Act}{o:Oper}(hn:xs.length=n)(ho:execOp a.eval o=(do pure (.value (<-convert 92 9 (.slice (some ⟨w2.heap.size,0,none⟩) n n)))))
  (h:jae F (w2.alloc (.cells (jaE xs).toArray 5)) w3) (hF:¬ F w2.heap.size) (hm:n<=maxLen):(execOp a.eval o).run Tryz.prog w3=.ok (.value (.string ⟨xs.toArray⟩)) w3:=by
 subst hn;have hB:=(Blk.new w2 (.cells (jaE xs).toArray 5)).keeps h hF;have hl:(jaE xs).length=xs.length:=by unfold jaE;rw[List.length_map]
 have hO:w3.ownsRow 0 5 1 (.slice (some ⟨w2.heap.size,0,none⟩) xs.length xs.length) xs.length (jaE xs):=
  ⟨by rw[hl,Nat.mul_one],.inr ⟨_,xs.length,_,rfl,Nat.zero_le _,hB,Nat.le_refl _,hm,by simp[hl],by simp[hl];exact List.take_of_length_le (by rw[hl];exact Nat.le_refl _)⟩⟩
 have hc:=jbl w3 Tryz.uBytes Tryz.uU8 Tryz.uStr hO;rw[ho,Sem.run_bind,hc];rfl
def jys(w:World)(s:vB)(v i:Value)(wr:World):Prop:=∃ k:Nat,k<=s.size/\i=.int .i64 k/\v=.string ⟨(jcp (s.data.toList.take k)).toArray⟩/\Ext w wr
theorem jyS(x:UInt8):(x.toNat:Int) / (16:Int) % (256:Int)=((x >>> 4).toNat:Int):=by
 have:∀ f:Fin 256,(f.1:Int) / (16:Int) % (256:Int)=(((UInt8.ofNat f.1) >>> 4).toNat:Int):=by decide +kernel
 have h:=this ⟨x.toNat,x.toNat_lt⟩;simpa using h
theorem jyX(x:UInt8):(x.toNat:Int) % (16:Int)=((x &&& 15).toNat:Int):=by
 have:∀ f:Fin 256,(f.1:Int) % (16:Int)=(((UInt8.ofNat f.1) &&& 15).toNat:Int):=by decide +kernel
 have h:=this ⟨x.toNat,x.toNat_lt⟩;simpa using h
theorem jgT(a b:List UInt8):(⟨a.toArray⟩:vB)++⟨b.toArray⟩=⟨(a++b).toArray⟩:=by
 apply ByteArray.ext;rw[ByteArray.data_append]
 simp
theorem jj4(w:World)(s:vB)(hs:s.size<=1000000):vR 74 #[.string s] w (.string (ja5 s)):=by
 obtain⟨R,hR⟩:=vE (ja5 s)
 have HR:=Hd hR;rw[<-hR];clear hR;go_enter Tryz.func74,Tryz.ntmps74;go_wp2_with fail
 go_loopw [3,4] (fun v i wr=>jys w s v i wr) (fun _ i _=>s.size - (intOf i).toNat)
 case atStart=>exact⟨0,Nat.zero_le _,rfl,rfl,ExtR w⟩
 case round =>
  obtain⟨k,hk,rfl,rfl,hE⟩:=hrel
  have HE:=Hd hE;clear hE
  by_cases hlt:k < s.size
  ·have b1:(k:Int) < (s.size:Int):=by omega
   obtain⟨x,hx⟩:=vE (s[k])
   have HX:=Hd hx
   obtain⟨t,ht⟩:=vE (jcp (s.data.toList.take k))
   rw[<-ht];have HT:=Hd ht;have htl:t.length<=2000000:=by
    rw[ht]
    have:∀ l:List UInt8,(jcp l).length=2 * l.length:=fun l=>by
     induction l with
     | nil=>rfl
     | cons a l ih=>unfold jcp at *;rw[List.flatMap_cons,List.length_append,ih];simp;omega
    rw[this,List.length_take];omega
   clear hx ht;go_wp2_with fail
   refine jaD [0,1,2,3,4,5,6,7,8,9,10,11,12] [9] Ext Ext ExtR ExtT (fun x y z h k=>h.trans k) (fun x y h=>h) vY vY vY ?_;iterate 9 refine vD ?_
   refine qDH _ rfl (fun w2 he K hK=>?_);have HX2:=Hd (show Ext wr w2 from(jaj _).trans he);clear he;go_simp;refine hK _ _ ((ExtR w2).alloc _) ?_;clear hK K;rw[jyS,jyX];refine qDV _ (.string ⟨[s[k] >>> 4,s[k] &&& 15].toArray⟩) rfl (fun w3 h3=>jfd (n:=2) (xs:=[s[k] >>> 4,s[k] &&& 15]) rfl vY h3 (fun f=>f) vI) ?_;refine vS ?_
   obtain⟨t2,ht2⟩:=vE ([s[k] >>> 4,s[k] &&& 15])
   rw[<-ht2];have h2l:t2.length=2:=by rw[ht2];rfl
   have HT2:=Hd ht2;have b5:¬(9223372036854775807 < (⟨t.toArray⟩:vB).size+(⟨t2.toArray⟩:vB).size):=by show ¬(_ < t.length+t2.length);omega
   clear ht2;iterate 2 refine vD ?_
   refine qDE (fun w6 he=>?_);have HE6:=Hd (HE.o.trans ((HX2.o.alloc _).trans he));clear he;go_wp2_with fail
   go_roundw
   case rel=>exact⟨k+1,by omega,by go_num,by rw[jgT,jlh s hlt, <-HT.o, <-HT2.o],HE6.o⟩
   case measure=>simp[intOf];omega
  ·have hks:k=s.size:=by omega
   have HF:=Hd (show (⟨(jcp (s.data.toList.take k)).toArray⟩:vB)=R by
    rw[HR.o,List.take_of_length_le (by rw[hks];exact Nat.le_refl _)];rfl)
   rw[HF.o];clear hks;go_wp2_with fail
   go_ret
   exact⟨rfl,HE.o⟩
end
end Go.Proofs.YtcpnjmcipainpaaGreatDoor
