/- Lemmas; each is under no condition but those that it states. -/
import Derived.Test.YtegloohdmjadoaaGreatDoorPu5
namespace Go.Proofs.YtegloohdmjadoaaGreatDoor
set_option linter.unusedSimpArgs false
set_option linter.unusedVariables false
set_option maxRecDepth 100000
set_option maxHeartbeats 16000000
open Go Go.RowKit
section
attribute [local go_sem] Oper.semAt_some
theorem Tryz.sWords:jd3 Tryz.prog 141 145 1 4:=jd3.mk' vY (show (Tryz.prog.info? 145).map (fun i=>(i.zero,i.size,i.bytes))=some (some (.int .u32 0),1,4) by kernel_rfl) rfl vI
theorem Tryz.enterRight3(args:Array vV)(w:vW):(callFunc 117 args).run Tryz.prog w=.ok (.enter 117 args) w:=vY
def wL(B:vN)(k:Nat):List UInt32:=if k<=16 then jdZ B k else jg7 B (k - 16)
theorem jz0(B:vN)(k:Nat):(wL B k).length=k:=by
 unfold wL;split
 ·simp[jdZ]
 ·rw[jcx];omega
theorem jz1(B:vN){k:Nat}(h:k < 16):wL B (k+1)=wL B k++[jeX B k]:=by
 unfold wL;rw[if_pos vO,if_pos vO];simp[jdZ,fT]
theorem jz2(B:vN){k:Nat}(h:¬ k < 16):wL B (k+1)=wL B k++[jjk (wL B k)]:=by
 have e:wL B k=jg7 B (k - 16):=by
  unfold wL;split
  ·have:k=16:=vO
   subst this;rfl
  ·rfl
 rw[e];unfold wL;rw[if_neg vO,show k+1 - 16=(k - 16)+1 by omega];rfl
theorem jmQ{P:Program}{ops:Array Oper}{rest:List Oper}{a:Act}{w:vW}{Q:Exit->Act->vW->Prop}{d:Option Tmp}{T:TypeId}{n:Nat}{ps:Array (Nat × Operand)}{ty:TypeId}{pos:String}{af:Array Edge}(v:vV)(w':vW)(h0:(execOp a.eval ⟨d,.buildSlice T n ps,ty,pos,af,none⟩).run P w=.ok (.value v) w')(h:wpList P ops Q rest (a.put d v) w'):wpList P ops Q (⟨d,.buildSlice T n ps,ty,pos,af,none⟩ :: rest) a w:=
 wpList_plain rfl fun K e=>jcu (v:=v) (w':=w') h0 (e _ _ h)
def Bk1(w:vW)(B:vN)(v iv:vV)(wr:vW):Prop:=∃ k:Nat,k<=64/\iv=.int .i64 k/\ORow 145 1 w wr v k ((wL B k).map wv)
theorem W8.add_comm(v u:W8):v.add u=u.add v:=by
 unfold W8.add addW;simp[UInt32.add_comm]
theorem jtC(v u:W8){k:Nat}(hk:k < 8):∃ x y,(jeY v.words u.words k)[k]?=some x/\u.words[k]?=some y/\(jeY v.words u.words k).set k (addW x y)=jeY v.words u.words (k+1):=by
 have m:v.words.length=u.words.length:=rfl;have e:k < v.words.length:=hk;have o:k < u.words.length:=hk;have A:=jll m e
 exact⟨_,_,by rw[jlj m e];exact bA e,bA o,A⟩
def Bk3(w:vW)(g cap:Nat)(R V:W8)(iv:vV)(wr:vW):Prop:=∃ k:Nat,k<=8/\iv=.int .i64 k/\ORow 145 1 w wr (.slice (some ⟨g,0,none⟩) 8 cap) 8 ((jeY R.words V.words k).map wv)
def Bk2(w:vW)(a1:Option Addr)(c1:Nat)(V:W8)(B:vN)(v iv:vV)(wr:vW):Prop:=∃ k:Nat,k<=64/\iv=.int .i64 k/\ORow 145 1 w wr v 8 ((jdU (ja8 B) V k).words.map wv)/\ORow 145 1 w wr (.slice a1 64 c1) 64 ((ja8 B).map wv)
theorem jvg(w:vW)(bh bk ch:Nat)(V:W8)(s:vB)(hs:s.size=64)(hV:∀ j u,(V.words.map wv)[j]?=some u->w.cell? ⟨bh,j,none⟩=some u)(hK:Blk w bk (.cells (jeU.map wv).toArray 145)) :
  vQ 86 #[.slice (some ⟨bh,0,none⟩) 8 ch,.slice (some ⟨bk,0,none⟩) 64 64,.string s] w fun e w'=>∃ g c,e=.returned (.slice (some ⟨g,0,none⟩) 8 c)/\w.heap.size<=g/\(∀ j u,((mixW V s.data.toList).words.map wv)[j]?=some u->w'.cell? ⟨g,j,none⟩=some u)/\Ext w w':=by
 have HV:=Hd hV;have HK:=Hd hK;have f0:=Hd hs;have hX:∀ (p q:UInt32) (w:vW),(binOp .xor 145 (wv p) (wv q)).run Tryz.prog w=.ok (wv (xorW p q)) w:=fun _ _ _=>jkZ;have hA:∀ (p q:UInt32) (w:vW),(binOp .add 145 (wv p) (wv q)).run Tryz.prog w=.ok (wv (addW p q)) w:=fun _ _ _=>jkX;have hN:∀ (p q:UInt32) (w:vW),(binOp .and 145 (wv p) (wv q)).run Tryz.prog w=.ok (wv (andW p q)) w:=fun _ _ _=>jo7;have hU:∀ (p:UInt32) (w:vW),(Op.unary .xor (wv p)).run Tryz.prog w=.ok (wv (notW p)) w:=fun _ _=>jo9;have j0:∀ (p:UInt32) (w:vW),(binOp .shr 145 (wv p) (.int .u64 3)).run Tryz.prog w=.ok (wv (shrW p 3)) w:=fun _ _=>jdd 3 vI .u64;have i5:∀ (p:UInt32) (w:vW),(binOp .shr 145 (wv p) (.int .u64 10)).run Tryz.prog w=.ok (wv (shrW p 10)) w:=fun _ _=>jdd 10 vI .u64;clear hV hK hs;go_enter Tryz.func86,Tryz.ntmps86;go_wp2_with fail
 go_loopw [7,8] (fun v iv wr=>Bk1 w s.data.toList v iv wr) (fun _ iv _=>64 - (intOf iv).toNat)
 case atStart=>exact⟨0,by omega,rfl,ORow.nil _ _ (ExtR w)⟩
 case round =>
  obtain⟨k,hk,rfl,hR⟩:=hrel
  have E:=Hd hR
  obtain⟨a1,c1,rfl⟩:=hR.sl;clear hR
  by_cases hlt:k < 64
  ·have b1:(k:Int) < 64:=vO
   by_cases h16:k < 16
   ·have b2:(k:Int) < 16:=vO
    go_wp2_with fail
    refine vH (jxR wr s k (by have:=f0.o;omega) (by have:=f0.o;omega)) fun w1 hE=>?_;have f4:=Hd (E.o.mono hE);have HW:=Hd (jz1 s.data.toList h16);clear E
    obtain⟨x,hx⟩:=vE (jeX s.data.toList k)
    have HX:=Hd hx;rw[<-hx,show wv x=.int .u32 (x.toNat:Int)from rfl];clear hx;have c2:k+1<=maxLen:=by unfold maxLen;omega
    have c3:(k+1) * 4<=140737488355328:=vO
    go_wp2_with (at_builtin;refine jaS Tryz.sWords (f4.o.mono ((ExtR w1).alloc _)) (.tmp 30) (.tmp 34) rfl rfl rfl (jaH (Blk.new w1 _)) (news:=[wv x]) (by intro u hu;simp at hu;subst hu;rfl) rfl rfl c2 c3 ?_;intro v' w' r1 r2 r3)
    have b0:ORow 145 1 w w' v' (k+1) ((wL s.data.toList (k+1)).map wv):=by rw[HW.o,bZ, <-HX.o];exact r1
    obtain⟨a8,c8,rfl⟩:=b0.sl
    have c7:=Hd b0;clear r1 r2 r3 b0 f4;go_wp2_with fail
    go_roundw
    case rel=>exact⟨k+1,by omega,by go_num,c7.o⟩
    case measure=>exact vJ
   ·have b2:¬(k:Int) < 16:=vO
    obtain⟨b3,b7⟩:∃ a,a=k - 15:=⟨_,rfl⟩
    obtain⟨a2,f5⟩:∃ a,a=k - 2:=⟨_,rfl⟩
    obtain⟨O,b8⟩:∃ a,a=k - 16:=⟨_,rfl⟩
    obtain⟨a7,f6⟩:∃ a,a=k - 7:=⟨_,rfl⟩
    have j1:(k:Int) - 15=(b3:Int):=vO
    have f2:(k:Int) - 2=(a2:Int):=vO
    have j2:(k:Int) - 16=(O:Int):=vO
    have f7:(k:Int) - 7=(a7:Int):=vO
    have f8:b3 < k:=vO
    have l2:a2 < k:=vO
    have c9:O < k:=vO
    have l7:a7 < k:=vO
    obtain⟨J,c5⟩:=vE (wL s.data.toList k)
    have d0:J.length=k:=by rw[c5,jz0]
    have a3:=Hd (show wL s.data.toList (k+1)=J++[addW (addW (addW (J.getD O 0) (sig0 (J.getD b3 0))) (J.getD a7 0)) (sig1 (J.getD a2 0))] by
     rw[jz2 _ h16, <-c5];unfold jjk;rw[d0, <-b8, <-b7, <-f6, <-f5])
    rw[<-c5]at E;have b4:=Hd d0;clear b7 f5 b8 f6 c5 d0
    obtain⟨_,⟨h0,_⟩ |⟨g,c6,h3,h0,_⟩⟩:=E.o.own
    ·obtain⟨_,h0,_⟩:=cT h0
     omega
    obtain⟨rfl,_,rfl⟩:=cT h0
    have m:∀ j,j < k->wr.cell? ⟨g,j,none⟩=some (wv (J.getD j 0)):=fun j hj=>by
     have h:=E.o.own.cells (g:=g) rfl j (wv (J.getD j 0)) (by
      rw[bV,bA (by rw[b4.o];exact hj)];simp[show j < J.length by rw[b4.o];exact hj])
     rwa [Addr.add_lit,cF]at h
    have h4:=Hd (m b3 f8);have Q2:=Hd (m a2 l2);have h5:=Hd (m O c9);have Q7:=Hd (m a7 l7);have h6:=m b3 f8;have q2:=m a2 l2
    obtain⟨b5,b9⟩:∃ x,x=J.getD b3 0:=⟨_,rfl⟩
    obtain⟨X,f9⟩:∃ x,x=J.getD a2 0:=⟨_,rfl⟩
    obtain⟨d1,a5⟩:∃ x,x=J.getD O 0:=⟨_,rfl⟩
    obtain⟨x7,d2⟩:∃ x,x=J.getD a7 0:=⟨_,rfl⟩
    rw[<-b9]at h6 h4 a3;rw[<-f9]at q2 Q2 a3;rw[<-a5]at h5 a3;rw[<-d2]at Q7 a3;have h8:=Hd (show J[O]?=some d1 from by rw[a5,bA (by rw[b4.o];exact c9)];simp[show O < J.length by rw[b4.o];exact c9]);have L7:=Hd (show J[a7]?=some x7 from by rw[d2,bA (by rw[b4.o];exact l7)];simp[show a7 < J.length by rw[b4.o];exact l7]);clear m b9 f9 a5 d2 h0;go_wp2_with fail
    refine (jAU wr b5).mono ?_;rintro e w' ⟨rfl,rfl⟩;go_wp2_with fail
    refine (jzE wr b5).mono ?_;rintro e w' ⟨rfl,rfl⟩;go_wp2_with fail
    refine (jzD wr X).mono ?_;rintro e w' ⟨rfl,rfl⟩;go_wp2_with fail
    refine (jzF wr X).mono ?_;rintro e w' ⟨rfl,rfl⟩;go_wp2_with fail
    have c2:k+1<=maxLen:=by unfold maxLen;omega
    have c3:(k+1) * 4<=140737488355328:=vO
    have HM:=Hd (bB c2 c3);clear c2 c3;refine jaJ [0,1,2,3,4,5,6,7,8,9,10,11,12,13,14,15,16,17,18] [16,17] Ext (fun x y=>∀ vs,ORow 145 1 w x (.slice (some ⟨g,0,none⟩) k c1) k vs->ORow 145 1 w y (.slice (some ⟨g,0,none⟩) k c1) k vs) ExtR ExtT (fun x y z A h2 vs h=>h2 vs (A vs h)) (fun x y h vs k=>k.mono h) vY vY vY ?_;have d3:∀ w1,(∀ vs,ORow 145 1 w wr.drew (.slice (some ⟨g,0,none⟩) k c1) k vs->ORow 145 1 w w1 (.slice (some ⟨g,0,none⟩) k c1) k vs)->∀ j x,J[j]?=some x->w1.cell? ⟨g,j,none⟩=some (wv x):=fun w1 h j x hj=>by
     have h:=(h _ (E.o.mono (jai wr))).own.cells (g:=g) rfl j (wv x) (by rw[bV,hj];rfl)
     rwa [Addr.add_lit,cF]at h
    iterate 5 refine vD ?_
    refine qDL ⟨g,O,none⟩ _ rfl (fun w1 A=>jab Tryz.uU32 rfl (d3 w1 A O d1 h8.o)) ?_;refine vS ?_;iterate 6 refine vD ?_
    refine qDL ⟨g,a7,none⟩ _ rfl (fun w1 A=>jab Tryz.uU32 rfl (d3 w1 A a7 x7 L7.o)) ?_;refine vS ?_;iterate 3 refine vD ?_
    obtain⟨nx,d4⟩:∃ x,x=addW (addW (addW d1 (xorW (xorW (rotW b5 7) (rotW b5 18)) (shrW b5 3))) x7) (xorW (xorW (rotW X 17) (rotW X 19)) (shrW X 10)):=⟨_,rfl⟩
    have e7:=Hd (show wL s.data.toList (k+1)=J++[nx] by rw[a3.o,d4];rfl);rw[<-d4,show wv nx=.int .u32 (nx.toNat:Int)from rfl];clear d4 d3;refine qDH _ rfl (fun w2 H K hK=>?_);have b6:=Hd (E.o.mono ((jai wr).trans H));clear H;go_simp;refine hK _ _ (fun vs h=>h.mono ((ExtR w2).alloc _)) ?_;clear hK K;refine qDH _ rfl (fun w3 H K hK=>?_);have d5:=Hd (b6.o.mono (((ExtR w2).alloc _).trans H));have hB:∀ j u,([wv nx]:List vV)[j]?=some u->w3.cell? ((⟨w2.heap.size,0,none⟩:Addr).add j)=some u:=fun j u hj=>jaa (jaH (Blk.new w2 (.cells [wv nx].toArray 145)) j u hj) H;refine jx8 Tryz.sWords d5.o (.tmp 62) (.tmp 78) rfl rfl hB (by intro u hu;simp at hu;subst hu;rfl) rfl rfl HM.o.1 HM.o.2 (fun v' w4 r1 r2 r3 r4=>hK _ _ (fun vs h=>by
     have e:vs=J.map wv:=by
      have A:=h.own;have h2:=d5.o.own
      obtain⟨_,⟨e1,_⟩ |⟨g1,j3,i6,e1,_,e2,_,_,_,e3⟩⟩:=A
      ·cases e1
      ·obtain⟨_,⟨f1,_⟩ |⟨g2,j4,i7,f1,_,f2,_,_,_,f3⟩⟩:=h2
       ·cases f1
       ·have q1:=congrArg Addr.block (bN (cT e1).1)
        have q2:=congrArg Addr.block (bN (cT f1).1);have q1:g=g1:=q1;have q2:g=g2:=q2;subst q1 q2;rw[e2]at f2;have f2:=bN f2;injection f2 with f2;rw[<-e3,f2,f3]
     rw[e];exact r4) ?_)
    have b0:ORow 145 1 w w4 v' (k+1) ((wL s.data.toList (k+1)).map wv):=by rw[e7.o,bZ];exact r1
    have d6:=Hd b0;clear hK K H r1 r2 r3 r4 b0 hB b6 d5
    obtain⟨a4,c4,rfl⟩:=d6.o.sl
    refine vS ?_
    refine vD ?_
    refine qDE (fun w5 H=>?_);have c7:=Hd (d6.o.mono H);clear H d6;go_wp2_with fail
    go_roundw
    case rel=>exact⟨k+1,by omega,by go_num,c7.o⟩
    case measure=>exact vJ
  ·have a6:k=64:=vO
   subst a6;have HW:=Hd (show ORow 145 1 w wr (.slice a1 64 c1) 64 ((ja8 s.data.toList).map wv)from E.o);have g0:=Hd (show ORow 145 1 w (wr.alloc (.cells #[] 145)) (.slice (some ⟨wr.heap.size,0,none⟩) 0 0) 0 []from ORow.lit #[] E.o.ext vI rfl);have g3:=Hd (show ∀ j u,(V.words.map wv)[j]?=some u->(wr.alloc (.cells #[] 145)).cell? ((⟨bh,0,none⟩:Addr).add j)=some u from fun j u hj=>by
    rw[Addr.add_lit,cF];exact jaa (HV.o _ _ hj) (E.o.ext.trans ((ExtR wr).alloc _)))
   go_wp2_with (at_builtin;refine jaS Tryz.sWords g0.o (.tmp 80) (.tmp 81) rfl rfl rfl g3.o (fun u hu=>by obtain⟨x,_,rfl⟩:=bI.1 hu;rfl) rfl rfl vI vI ?_;intro v' w' r1 r2 r3)
   have b6:=Hd (show ORow 145 1 w w' v' 8 ((jdU (ja8 s.data.toList) V 0).words.map wv)from r1);have h9:=Hd ((HW.o.mono ((ExtR wr).alloc _)).keeps r2 (fun b hb e=>by
    have A:=HW.o.lt b hb;have e:some wr.heap.size=some b:=e
    have:=bN e
    omega) (fun b hb e=>by
    have e:some wr.heap.size=some b:=e
    have:=bN e
    have:=HW.o.ext.size
    omega))
   obtain⟨a8,c8,rfl⟩:=b6.o.sl;clear r1 r2 r3 E g0 g3;go_wp2_with fail
   go_loopw [13,14] (fun v iv wr=>Bk2 w a1 c1 V s.data.toList v iv wr) (fun _ iv _=>64 - (intOf iv).toNat)
   case atStart=>exact⟨0,by omega,rfl,b6.o,h9.o⟩
   case round =>
    obtain⟨k,hk,rfl,hR,hW⟩:=hrel
    have E:=Hd hR;have HW:=Hd hW
    obtain⟨v,hv⟩:=vE (jdU (ja8 s.data.toList) V k)
    rw[<-hv]at E;have d7:=Hd hv
    obtain⟨_,⟨h0,_⟩ |⟨g,c6,h3,h0,_⟩⟩:=hR.own
    ·obtain⟨_,_,e⟩:=hR.sl
     rw[e]at h0;cases (cT h0).2.1
    subst h0;clear hR hW hv
    by_cases hlt:k < 64
    ·have b1:(k:Int) < 64:=vO
     obtain⟨_,⟨h0,_⟩ |⟨g7,i8,i9,h0,_⟩⟩:=HW.o.own
     ·cases (cT h0).2.1
     obtain⟨rfl,_,rfl⟩:=cT h0
     obtain⟨ck,d8⟩:=vE (jeU.getD k 0)
     obtain⟨wk,d9⟩:=vE ((ja8 s.data.toList).getD k 0)
     have qc:wr.cell? ⟨bk,k,none⟩=some (wv ck):=by
      refine jaa (HK.o.cellL ?_) E.o.ext;rw[bV,bA (show k < jeU.length from hlt),d8];simp[show k < jeU.length from hlt]
     have e0:(ja8 s.data.toList).length=64:=by simp[ja8,jcx]
     have qw:wr.cell? ⟨g7,k,none⟩=some (wv wk):=by
      have h:=HW.o.own.cells (g:=g7) rfl k (wv wk) (by
       rw[bV,bA (by rw[e0];exact hlt),d9];simp[e0,hlt])
      rwa [Addr.add_lit,cF]at h
     have a3:=Hd (show jdU (ja8 s.data.toList) V (k+1)=jmu v ck wk by rw[d7.o,d8,d9];rfl);clear h0 d8 d9 e0
     obtain⟨Z,x1,X,x3,Q,x5,x6,x7⟩:=v
     have m:∀ j u,([wv Z,wv x1,wv X,wv x3,wv Q,wv x5,wv x6,wv x7]:List vV)[j]?=some u->wr.cell? ⟨g,j,none⟩=some u:=fun j u hj=>by
      have h:=E.o.own.cells (g:=g) rfl j u hj
      rwa [Addr.add_lit,cF]at h
     have q0:=m 0 _ rfl;have q1:=m 1 _ rfl;have q2:=m 2 _ rfl;have q3:=m 3 _ rfl;have q4:=m 4 _ rfl;have q5:=m 5 _ rfl;have q6:=m 6 _ rfl;have q7:=m 7 _ rfl;clear m;have QC:=Hd qc;have QW:=Hd qw;have Q0:=Hd q0;have Q1:=Hd q1;have Q2:=Hd q2;have Q3:=Hd q3;have Q4:=Hd q4;have Q5:=Hd q5;have Q6:=Hd q6;have Q7:=Hd q7;clear q0 q1 q2 q3 q4 q5 q6 q7 qc qw;go_wp2_with fail
     refine jah [0,1,2,3,4,5,6,7,8,9,10,11,12,13,14,15,16,17,18,19,20,21,22,23] Ext ExtR ExtT vY vY vY ?_;iterate 2 refine vK ?_
     refine qKL ⟨g,0,none⟩ _ rfl (fun w1 A=>jab Tryz.uU32 rfl (jaa Q0.o ((jai wr).trans A))) ?_;refine vS ?_;iterate 2 refine vK ?_
     refine qKL ⟨g,1,none⟩ _ rfl (fun w1 A=>jab Tryz.uU32 rfl (jaa Q1.o ((jai wr).trans A))) ?_;refine vS ?_;iterate 2 refine vK ?_
     refine qKL ⟨g,2,none⟩ _ rfl (fun w1 A=>jab Tryz.uU32 rfl (jaa Q2.o ((jai wr).trans A))) ?_;refine vS ?_;iterate 2 refine vK ?_
     refine qKL ⟨g,4,none⟩ _ rfl (fun w1 A=>jab Tryz.uU32 rfl (jaa Q4.o ((jai wr).trans A))) ?_;refine vS ?_;iterate 2 refine vK ?_
     refine qKL ⟨g,5,none⟩ _ rfl (fun w1 A=>jab Tryz.uU32 rfl (jaa Q5.o ((jai wr).trans A))) ?_;refine vS ?_;iterate 2 refine vK ?_
     refine qKL ⟨g,6,none⟩ _ rfl (fun w1 A=>jab Tryz.uU32 rfl (jaa Q6.o ((jai wr).trans A))) ?_;refine vS ?_;iterate 6 refine vK ?_
     refine qKE (fun w3 H=>?_);have X3:=Hd ((jai wr).trans H);clear H;go_wp2_with fail
     refine jah [0,1,2,3,4,5,6,7,8,9,10,11,12,13,14,15,16,17,18,19,20,21,22,23,24,25,26,27,28,29,30,31] Ext ExtR ExtT vY vY vY ?_;iterate 2 refine vK ?_
     refine qKL ⟨g,7,none⟩ _ rfl (fun w1 A=>jab Tryz.uU32 rfl (jaa Q7.o ((X3.o.trans (jai w3)).trans A))) ?_;refine vS ?_
     refine vK ?_
     refine qKC _ 117 #[wv Q,.int .u64 6] (wv (rotW Q 6)) rfl (fun w1=>jat Tryz.enterRight3 vY) (fun w1 A=>(jAT w1 Q).mono (fun e w2 ⟨A,h2⟩=>⟨A,h2 ▸ ExtR w1⟩)) ?_;refine vS ?_
     refine vK ?_
     refine qKC _ 117 #[wv Q,.int .u64 11] (wv (rotW Q 11)) rfl (fun w1=>jat Tryz.enterRight3 vY) (fun w1 A=>(jzB w1 Q).mono (fun e w2 ⟨A,h2⟩=>⟨A,h2 ▸ ExtR w1⟩)) ?_;refine vS ?_;iterate 2 refine vK ?_
     refine qKC _ 117 #[wv Q,.int .u64 25] (wv (rotW Q 25)) rfl (fun w1=>jat Tryz.enterRight3 vY) (fun w1 A=>(jzH w1 Q).mono (fun e w2 ⟨A,h2⟩=>⟨A,h2 ▸ ExtR w1⟩)) ?_;refine vS ?_;iterate 14 refine vK ?_
     refine qKL ⟨bk,k,none⟩ _ rfl (fun w1 A=>jab Tryz.uU32 rfl (jaa QC.o ((X3.o.trans (jai w3)).trans A))) ?_;refine vS ?_;iterate 4 refine vK ?_
     refine qKL ⟨g7,k,none⟩ _ rfl (fun w1 A=>jab Tryz.uU32 rfl (jaa QW.o ((X3.o.trans (jai w3)).trans A))) ?_;refine vS ?_;iterate 2 refine vK ?_
     refine qKE (fun w4 H=>?_);have X4:=Hd (X3.o.trans ((jai w3).trans H));clear H X3
     obtain⟨tv,e4⟩:∃ t,t=tOne ⟨Z,x1,X,x3,Q,x5,x6,x7⟩ ck wk:=⟨_,rfl⟩
     have a0:=e4;unfold tOne at a0;simp only at a0;rw[<-a0];have i0:=Hd e4;clear e4 a0;go_wp2_with fail
     refine (jAS w4 Z).mono ?_;rintro e w' ⟨rfl,rfl⟩;go_wp2_with fail
     refine (jzC w4 Z).mono ?_;rintro e w' ⟨rfl,rfl⟩;go_wp2_with fail
     refine (jzG w4 Z).mono ?_;rintro e w' ⟨rfl,rfl⟩;have q3:=jaa Q3.o X4.o
     obtain⟨sv,e5⟩:∃ t,t=addW (xorW (xorW (rotW Z 2) (rotW Z 13)) (rotW Z 22)) (xorW (xorW (andW Z x1) (andW Z X)) (andW x1 X)):=⟨_,rfl⟩
     have i1:Hid (tTwo ⟨Z,x1,X,x3,Q,x5,x6,x7⟩=sv):=e5.symm;go_wp2_with (refine jmQ (.slice (some ⟨w4.heap.size,0,none⟩) 8 8) (w4.alloc (.cells #[wv (addW tv sv),wv Z,wv x1,wv X,wv (addW x3 tv),wv Q,wv x5,wv x6] 145)) (by rw[e5];kernel_rfl) ?_;clear e5 q3)
     have HN:=Hd (show ORow 145 1 w (w4.alloc (.cells #[wv (addW tv sv),wv Z,wv x1,wv X,wv (addW x3 tv),wv Q,wv x5,wv x6] 145)) (.slice (some ⟨w4.heap.size,0,none⟩) 8 8) 8 ((jdU (ja8 s.data.toList) V (k+1)).words.map wv)from by
      have h:=ORow.lit (T:=145) (sz:=1) #[wv (addW tv sv),wv Z,wv x1,wv X,wv (addW x3 tv),wv Q,wv x5,wv x6] (n:=8) (E.o.ext.trans X4.o) vI rfl;rw[a3.o];unfold jmu;rw[i1.o, <-i0.o];exact h)
     have g4:=Hd (HW.o.mono (X4.o.trans ((ExtR w4).alloc (.cells #[wv (addW tv sv),wv Z,wv x1,wv X,wv (addW x3 tv),wv Q,wv x5,wv x6] 145))))
     obtain⟨w5,g5⟩:=vE (w4.alloc (.cells #[wv (addW tv sv),wv Z,wv x1,wv X,wv (addW x3 tv),wv Q,wv x5,wv x6] 145))
     rw[<-g5]at HN g4 ⊢;clear g5;go_wp2_with fail
     go_roundw
     case rel=>exact⟨k+1,by omega,by go_num,HN.o,g4.o⟩
     case measure=>exact vJ
    ·have a6:k=64:=vO
     subst a6;have i2:=Hd (show ORow 145 1 w wr (.slice (some ⟨g,0,none⟩) 8 c6) 8 ((jeY v.words V.words 0).map wv)from E.o);have e8:=Hd (show (jeY v.words V.words 8)=(mixW V s.data.toList).words by
      rw[jli,d7.o,W8.add_comm];rfl)
     clear HW E d7;go_wp2_with fail
     rw[show ((64:Nat):Int)=(64:Int)from rfl];go_loopw [23] (fun iv wr=>Bk3 w g c6 v V iv wr) (fun iv _=>8 - (intOf iv).toNat)
     case atStart=>exact⟨0,by omega,rfl,i2.o⟩
     case round =>
      obtain⟨k,hk,rfl,hR⟩:=hrel
      have E:=Hd hR;clear hR
      by_cases hlt:k < 8
      ·have b1:(k:Int) < 8:=vO
       obtain⟨x,y,hx,hy,c0⟩:=jtC v V hlt
       have q1:wr.cell? ⟨g,k,none⟩=some (wv x):=by
        have h:=E.o.own.cells (g:=g) rfl k (wv x) (by rw[bV,hx];rfl)
        rwa [Addr.add_lit,cF]at h
       have q2:wr.cell? ⟨bh,k,none⟩=some (wv y):=jaa (HV.o _ _ (by rw[bV,hy];rfl)) E.o.ext;have Q1:=Hd q1;have Q2:=Hd q2;have e9:=Hd c0;clear hx hy c0 q1 q2;go_wp2_with fail
       refine jay [0,1,2,3,4,5,6,7,8,9,10,11,12] [12] Ext ExtR ExtT vY vY vY ?_;iterate 5 refine vP ?_
       refine qL ⟨g,k,none⟩ _ rfl (fun w1 A=>jab Tryz.uU32 rfl (jaa Q1.o ((jai wr).trans A))) ?_;refine vS ?_;iterate 3 refine vP ?_
       refine qL ⟨bh,k,none⟩ _ rfl (fun w1 A=>jab Tryz.uU32 rfl (jaa Q2.o ((jai wr).trans A))) ?_;refine vS ?_;iterate 2 refine vP ?_
       refine qH _ rfl (fun w6 H K hK=>?_);have e6:=Hd (E.o.mono ((jai wr).trans H));have g6:=jaa Q1.o ((jai wr).trans H);have g8:w6.frozen? ⟨g,k,none⟩=false:=e6.o.own.frozenAt k;have h7:=e6.o.set k (wv (addW x y));rw[<-gU,e9.o]at h7;have g9:=Hd h7;clear h7 H E Q1 Q2;refine jlc g k (wv (addW x y)) rfl vY vY rfl Tryz.iU32 g6 g8 (hK _ _ ?_);clear hK K g6 g8;refine qE (fun w8 H=>?_);have i3:=Hd (g9.o.mono H);clear H g9 e6;go_wp2_with fail
       go_roundw
       case rel=>exact⟨k+1,by omega,by go_num,i3.o⟩
       case measure=>exact vJ
      ·have i4:k=8:=vO
       subst i4;have a9:=E.o;rw[e8.o]at a9;have HF:=Hd a9;clear a9;go_wp2_with fail
       go_ret
       exact⟨g,c6,rfl,HF.o.new g rfl,fun j u hj=>by
        have h:=HF.o.own.cells (g:=g) rfl j u hj
        rwa [Addr.add_lit,cF]at h,HF.o.ext⟩
end
theorem Tryz.sBytes:jd3 Tryz.prog 52 5 1 1:=jd3.mk' Tryz.uBytes Tryz.infoU8 rfl vI
def revK(l:vN)(k:Nat):vN:=(List.range l.length).map fun i=>if i < k\/l.length - 1 - k < i then l.getD (l.length - 1 - i) 0 else l.getD i 0
@[simp] theorem revK_len (l:vN) (k:Nat):(revK l k).length=l.length:=by simp[revK]
theorem js5(l:vN):revK l 0=l:=by
 apply List.ext_getElem (by simp);intro i m e;simp only[revK,List.getElem_map,List.getElem_range];rw[if_neg vO];simp[e]
theorem jvo(l:vN)(k:Nat)(h:l.length<=2 * k+1):revK l k=l.reverse:=by
 apply List.ext_getElem (by simp);intro i e m;simp at e;simp only[revK,List.getElem_map,List.getElem_range,List.getElem_reverse]
 by_cases hc:i < k\/l.length - 1 - k < i
 ·rw[if_pos hc];simp[show l.length - 1 - i < l.length by omega]
 ·rw[if_neg hc]
  have:i=l.length - 1 - i:=vO
  simp only[bC,bA e,Option.getD_some]
  congr 1
theorem jo3(l:vN)(k i:Nat)(hi:i < l.length)(h1:k<=i)(h2:i<=l.length - 1 - k):(revK l k)[i]?=some l[i]:=by
 simp only[revK,bV,dW hi,gB];rw[if_neg vO];simp[hi]
theorem js4(l:vN)(k:Nat)(h:2 * k+1 < l.length):((revK l k).set k (l[l.length - 1 - k]'(by omega))).set (l.length - 1 - k) (l[k]'(by omega))=revK l (k+1):=by
 apply List.ext_getElem (by simp);intro i m e;simp at e;simp only[List.getElem_set,revK,List.getElem_map,List.getElem_range]
 by_cases e1:l.length - 1 - k=i
 ·subst e1
  rw[if_pos rfl,if_pos vO]
  have:l.length - 1 - (l.length - 1 - k)=k:=vO
  rw[this];simp[show k < l.length by omega]
 ·rw[if_neg e1]
  by_cases e2:k=i
  ·subst e2
   rw[if_pos rfl,if_pos vO];simp[show l.length - 1 - k < l.length by omega]
  ·rw[if_neg e2]
   by_cases c:i < k\/l.length - 1 - k < i
   ·rw[if_pos c,if_pos vO]
   ·rw[if_neg c,if_neg vO]
def jyz(w:vW)(g n c:Nat)(l:vN)(i j:vV)(wr:vW):Prop:=∃ k:Nat,k<=n/\i=.int .i64 k/\j=.int .i64 ((n:Int) - 1 - k)/\wr.ownsRow 0 5 1 (.slice (some ⟨g,0,none⟩) n c) n (jaK (revK l k))/\jae (fun b=>b=g) w wr
def jwt(w:vW)(v:vV)(n:Nat)(l:vN)(e:Ending)(w':vW):Prop:=(∃ r,e=.returned r)/\w'.ownsRow 0 5 1 v n (jaK l.reverse)/\jae (fun b=>v.ownBlock=some b) w w'
theorem js6(w:vW)(v:vV)(n:Nat)(l:vN)(hs:n<=1000000)(hr:w.ownsRow 0 5 1 v n (jaK l)):vQ 187 #[v] w (jwt w v n l):=by
 have X:l.length=n:=by have:=hr.1;simp at this;exact this
 have E:=Hd X;clear X;have HR:=Hd hr
 obtain⟨_,⟨rfl,h2⟩ |⟨g,c,a6,rfl,_⟩⟩:=hr
 ·have hl:l=[]:=bD (by have:=E.o;omega)
  subst hl;go_enter Tryz.func187,Tryz.ntmps187;go_wp2;refine wp_loop_once ?_;go_wp2;go_end0
  exact⟨⟨_,rfl⟩,HR.o,jae.refl _ _⟩
 ·go_enter Tryz.func187,Tryz.ntmps187
  go_wp2;go_loopw [2,3] (fun i j wr=>jyz w g n c l i j wr) (fun i _ _=>n - (intOf i).toNat)
  case atStart=>exact⟨0,cD _,rfl,by go_num,by rw[js5];exact HR.o,jae.refl _ _⟩
  case round =>
   obtain⟨k,hk,rfl,rfl,hR,H⟩:=hrel
   have m:=Hd hR;have HK:=Hd H;clear hR H
   by_cases hlt:2 * k+1 < n
   ·have J:decide ((k:Int) < (n:Int) - 1 - k)=true:=by simp;omega
    have a7:k < n:=vO
    have e0:((n:Int) - 1 - k)=((n - 1 - k:Nat):Int):=vO
    have HE:=Hd e0;have c1:=m.o.cellAt k vO;have c2:=m.o.cellAt (n - 1 - k) vO;have f1:=m.o.frozenAt k;have f2:=m.o.frozenAt (n - 1 - k);have lk:k < l.length:=by have:=E.o;omega
    have a1:n - 1 - k < l.length:=by have:=E.o;omega
    rw[jaK,bV,jo3 l k k lk (bM _) (by have:=E.o;omega)]at c1;rw[jaK,bV,jo3 l k (n - 1 - k) a1 vO (by have:=E.o;omega)]at c2;simp only[gB]at c1 c2;have Z:=Hd c1;have a2:=Hd c2;have a3:=Hd f1;have a8:=Hd f2;clear c1 c2 f1 f2;rw[e0]at J;go_wp2;rw[e0];clear e0;have d1:(0:Int)<=((n - 1 - k:Nat):Int):=vO
    have d2:((n - 1 - k:Nat):Int) < (n:Int):=vO
    refine jay [0,1,2,3,4,5,6,7,8,9,10,11,12,13,14,15] [13,15] Ext ExtR ExtT vY vY vY ?_;iterate 7 refine vP ?_
    refine qL ⟨g,n - 1 - k,none⟩ _ rfl (fun w1 h1=>jab Tryz.uU8 rfl (jaa (by exact a2.o) h1)) ?_;refine vS ?_;iterate 3 refine vP ?_
    refine qL ⟨g,k,none⟩ _ rfl (fun w1 h1=>jab Tryz.uU8 rfl (jaa (by exact Z.o) h1)) ?_;refine vS ?_
    refine vP ?_
    refine qH _ rfl (fun w1 A K H=>?_);have O:=jbl m.o ((jai wr).trans A);have K1:=HK.o.trans' ((jai wr).trans A) (fun _ _ h=>h.elim);have q1:=jaa Z.o ((jai wr).trans A);have q2:=a3.o;have q2:w1.frozen? ⟨g,k,none⟩=false:=O.frozenAt k;have Q:=(O.stored k (.int .u8 (l[n - 1 - k].toNat:Int))).1;have K2:=Hd (K1.setCell (p:=⟨g,k,none⟩) (.inl rfl) (.int .u8 (l[n - 1 - k].toNat:Int)));have a4:=Hd Q;clear O K1 Q A;go_simp;refine H _ _ ?_;clear H K q1 q2
    refine vP ?_
    refine qH _ rfl (fun w2 A K H=>?_);have O:=jbl a4.o A;have K1:=K2.o.trans' A (fun _ _ h=>h.elim)
    obtain⟨old,q1⟩:=ju8 O (n - 1 - k) vO
    have q2:=O.frozenAt (n - 1 - k);have Q:=(O.stored (n - 1 - k) (.int .u8 (l[k].toNat:Int))).1;have K3:=Hd (K1.setCell (p:=⟨g,n - 1 - k,none⟩) (.inl rfl) (.int .u8 (l[k].toNat:Int)));have e:((jaK (revK l k)).set k (.int .u8 (l[n - 1 - k].toNat:Int))).set (n - 1 - k) (.int .u8 (l[k].toNat:Int))=jaK (revK l (k+1)):=by
     have hh:=js4 l k (by have:=E.o;omega);rw[<-hh];simp only[jaK,gU];simp only[E.o]
    rw[e]at Q;have a0:=Hd Q;clear O K1 Q A e;go_simp;refine H _ _ ?_;clear H K q1 q2;refine qE (fun w3 A=>?_);have a5:=Hd (jbl a0.o A);have K4:=Hd (K3.o.trans' A (fun _ _ h=>h.elim));clear A a0 K3;go_wp2;go_roundw
    case rel=>exact⟨k+1,by omega,by go_num,by have:=HE.o;go_num,a5.o,K4.o⟩
    case measure=>exact vJ
   ·have J:decide ((k:Int) < (n:Int) - 1 - k)=false:=by simp;omega
    go_wp2;go_end0
    refine⟨⟨_,rfl⟩,?_,HK.o.mono (fun _ _ e=>by rw[e];rfl)⟩
    have:=m.o
    rwa [jvo l k (by have:=E.o;omega)]at this
def leF:Nat->Nat->vN
 | 0,_=>[]
 | f+1,n=>if n=0 then []else UInt8.ofNat n :: leF f (n / 256)
theorem jhd:∀ (f n:Nat),(leF f n).length<=f
 | 0,_=>bM _
 | f+1,n=>by
  simp only[leF];split
  ·simp
  ·simp;exact jhd f _
def jcY(n:Nat):vB:=⟨(leF 8 n).reverse.toArray⟩
def jyj(w:vW)(n:Nat)(m b:vV)(wr:vW):Prop:=∃ (k:Nat) (acc:vN),m=.int .u64 k/\acc.length<=8/\k < 256 ^ (8 - acc.length)/\leF 8 n=acc++leF (8 - acc.length) k/\BRow w wr b acc.length acc
theorem jun(w:vW)(n:Nat)(hn:n < 18446744073709551616):vR 170 #[.int .u64 n] w (.string (jcY n)):=by
 go_enter Tryz.func170,Tryz.ntmps170;go_wp2;go_loopw [0,3] (fun m b wr=>jyj w n m b wr) (fun m _ _=>(intOf m).toNat)
 case atStart=>exact⟨n,[],rfl,by simp,by simpa using hn,rfl,ORow.nil _ _ (ExtR w)⟩
 case round =>
  obtain⟨k,A,rfl,a1,hk,H,O⟩:=hrel
  obtain⟨a,c,rfl⟩:=O.sl
  have J:=Hd O;have HA:=Hd H;have HK:=Hd hk;clear O H hk
  by_cases h0:0 < k
  ·have a2:A.length < 8:=by
    rcases fH A.length 8 with h | h
    ·exact h
    ·have:=HK.o;rw[show 8 - A.length=0 by omega]at this;omega
   go_wp2_with (at_builtin;refine jaS Tryz.sBytes (J.o.mono ((ExtR wr).alloc _)) (.tmp 8) (.tmp 11) rfl rfl rfl (jaH (Blk.new wr _)) (news:=[.int .u8 (k % 256)]) (by intro u hu;simp at hu;rw[hu];rfl) rfl rfl ?c1 ?c2 (fun v' w' Q r2 r3=>?_))
   case c1=>unfold maxLen;omega
   case c2=>omega
   have e2:jaK A++[.int .u8 ((k:Int) % 256)]=jaK (A++[UInt8.ofNat k]):=by
    rw[jds];simp only[jaK,bT,gN];rw[<-jhY]
   rw[e2]at Q;have E:leF (8 - A.length) k=UInt8.ofNat k :: leF (8 - (A.length+1)) (k / 256):=by
    rw[show 8 - A.length=(8 - (A.length+1))+1 by omega];simp only[leF];rw[if_neg vO]
   have K:k / 256 < 256 ^ (8 - (A.length+1)):=by
    have:=HK.o
    rw[show 8 - A.length=(8 - (A.length+1))+1 by omega,Nat.pow_succ]at this;omega
   have HS:=Hd E;have X:=Hd K;have Z:=Hd Q;clear E K Q r2 r3 e2 J;go_wp2;go_roundw
   case rel=>exact⟨k / 256,A++[UInt8.ofNat k],by go_num,by simp;omega,by simpa using X.o,by rw[HA.o,HS.o];simp,by simpa using Z.o⟩
   case measure=>exact vJ
  ·have a0:k=0:=vO
   subst a0;have e:leF 8 n=A:=by rw[HA.o];cases 8 - A.length <;> simp[leF]
   have HE:=Hd e;clear e;go_wp2_with fail
   refine (js6 wr _ A.length A vO J.o.own).mono ?_;rintro e w1 ⟨⟨r,rfl⟩,R1,K1⟩;have a3:=jbr w1 Tryz.uBytes Tryz.uU8 Tryz.uStr R1;have HX:=Hd (jg0 J.o.ext J.o.new K1);clear R1 K1;go_wp2;go_ret
   exact⟨by unfold jcY;rw[HE.o];rfl,HX.o⟩
def jb7(base:vU)(n:Nat):vB:=
 if n<=55 then ⟨#[base+UInt8.ofNat n]⟩else ⟨#[base+55+UInt8.ofNat (jcY n).size]⟩++jcY n
theorem jri(w:vW)(b:vU):(w.alloc (.cells #[.int .u8 (b.toNat:Int)] 5)).ownsRow 0 5 1 (.slice (some ⟨w.heap.size,0,none⟩) 1 1) 1 (jaK [b]):=
 World.ownsRow_lit w _ 1 (cD _) vI rfl
theorem jqN(a b:vU):((a.toNat:Int)+(b.toNat:Int)) % (256:Int)=((a+b).toNat:Int):=by
 rw[iX];omega
theorem jb4(w:vW)(b:vU):(convert 52 9 (.slice (some ⟨w.heap.size,0,none⟩) 1 1)).run Tryz.prog (w.alloc (.cells #[.int .u8 (b.toNat:Int)] 5))=.ok (.string ⟨#[b]⟩) (w.alloc (.cells #[.int .u8 (b.toNat:Int)] 5)):=
 jbr _ Tryz.uBytes Tryz.uU8 Tryz.uStr (jri w b)
theorem jrV(w:vW)(base:vU)(n:Nat)(hn:n<=1000000000):vR 151 #[.int .u8 base.toNat,.int .i64 n] w (.string (jb7 base n)):=by
 by_cases h:n<=55
 ·obtain⟨x,m⟩:=vE (base+UInt8.ofNat n)
  have e:((base.toNat:Int)+(n:Int)) % (256:Int)=(x.toNat:Int):=by rw[m, <-jqN, <-jhY];omega
  have E:=jb4 w x;have H:=Hd (show jb7 base n=⟨#[x]⟩ by unfold jb7;rw[if_pos h,m]);clear m;go_enter Tryz.func151,Tryz.ntmps151;go_wp2;go_ret
  exact⟨by rw[H.o];rfl,(ExtR w).alloc _⟩
 ·have H:=Hd (show jb7 base n=⟨#[base+55+UInt8.ofNat (jcY n).size]⟩++jcY n by unfold jb7;rw[if_neg h])
  go_enter Tryz.func151,Tryz.ntmps151;go_wp2_with fail
  refine vC (jun w n vO) fun w1 J=>?_
  obtain⟨d,A⟩:=vE (jcY n)
  have K:d.size<=8:=by rw[A];have:=jhd 8 n;simpa [jcY,ByteArray.size]using this
  obtain⟨x,m⟩:=vE (base+55+UInt8.ofNat d.size)
  have X:(((base.toNat:Int)+55) % (256:Int)+(d.size:Int)) % (256:Int)=(x.toNat:Int):=by
   rw[m, <-jqN, <-jqN, <-jhY];show (((base.toNat:Int)+55) % (256:Int)+(d.size:Int)) % (256:Int)=((((base.toNat:Int)+55) % (256:Int))+(d.size:Int) % (256:Int)) % (256:Int);omega
  have E:=jb4 w1 x;have O:=Hd A;have Q:=Hd m;rw[<-A];clear m A;go_wp2;go_ret
  exact⟨by rw[H.o, <-O.o, <-Q.o];rfl,J.alloc _⟩
def jap(b:vB):vB:=if b.size=1/\b.data.toList.headD 255 < 128 then b else jb7 128 b.size++b
theorem jel(base:vU)(n:Nat):(jb7 base n).size<=9:=by
 have:=jhd 8 n
 unfold jb7;split
 ·exact (by decide:1<=9)
 ·rw[bY]
  have e:(⟨#[base+55+UInt8.ofNat (jcY n).size]⟩:vB).size=1:=rfl;have m:(jcY n).size=(leF 8 n).length:=by simp[jcY,ByteArray.size]
  omega
theorem jew(w:vW)(b:vB)(hn:b.size<=1000000000):vR 120 #[.string b] w (.string (jap b)):=by
 by_cases h1:b.size=1
 ·obtain⟨x,rfl⟩:∃ x,b=⟨#[x]⟩:=by
   obtain⟨⟨l⟩⟩:=b
   have A:l.length=1:=h1
   match l,A with
   | [x],_=>exact⟨x,rfl⟩
  by_cases hx:x < 128
  ·have m:=Hd (show jap ⟨#[x]⟩=⟨#[x]⟩ by unfold jap;rw[if_pos ⟨rfl,hx⟩])
   have J:(((⟨#[x]⟩:vB)[0]'(iY)).toNat:Int) < 128:=by show (x.toNat:Int) < 128;have:=dA.1 hx;have e:(128:vU).toNat=128:=rfl;omega
   clear hx h1;go_enter Tryz.func120,Tryz.ntmps120;go_wp2_with fail
   all_goals first |(go_ret;exact⟨by rw[m.o];rfl,ExtR w⟩) |(exfalso;omega)
  ·have m:=Hd (show jap ⟨#[x]⟩=jb7 128 1++⟨#[x]⟩ by unfold jap;rw[if_neg (fun h=>hx h.2)];rfl)
   have J:¬(((⟨#[x]⟩:vB)[0]'(iY)).toNat:Int) < 128:=by show ¬(x.toNat:Int) < 128;have e:(128:vU).toNat=128:=rfl;have K:¬ x.toNat < (128:vU).toNat:=fun h=>hx (dA.2 h);omega
   clear hx h1;go_enter Tryz.func120,Tryz.ntmps120;go_wp2_with fail
   refine (jrV w 128 1 vO).mono ?_;rintro e w' ⟨rfl,E⟩;have H:=jel 128 1;go_wp2;go_ret
   exact⟨by rw[m.o];rfl,E⟩
 ·have O:((b.size:Int) == 1)=false:=by simp;omega
  have m:=Hd (show jap b=jb7 128 b.size++b by unfold jap;rw[if_neg (fun h=>h1 h.1)]);clear h1;go_enter Tryz.func120,Tryz.ntmps120;go_wp2_with fail
  refine (jrV w 128 b.size hn).mono ?_;rintro e w' ⟨rfl,E⟩;have H:=jel 128 b.size;go_wp2;go_ret
  exact⟨by rw[m.o];rfl,E⟩
section
attribute [local go_sem] Oper.semAt_some
theorem jfz{F:BSet}{w2 w3:vW}{xs:vN}{n:Nat}{a:Act}{o:Oper}(hn:xs.length=n)(ho:execOp a.eval o=(do pure (.value (<-convert 52 9 (.slice (some ⟨w2.heap.size,0,none⟩) n n)))))
  (h:jae F (w2.alloc (.cells (jaK xs).toArray 5)) w3) (hF:¬ F w2.heap.size) (hm:n<=maxLen):(execOp a.eval o).run Tryz.prog w3=.ok (.value (.string ⟨xs.toArray⟩)) w3:=by
 subst hn;have m:=(Blk.new w2 (.cells (jaK xs).toArray 5)).keeps h hF;have e:(jaK xs).length=xs.length:=by unfold jaK;rw[bU]
 have A:w3.ownsRow 0 5 1 (.slice (some ⟨w2.heap.size,0,none⟩) xs.length xs.length) xs.length (jaK xs):=
  ⟨by rw[e,iC],.inr ⟨_,xs.length,_,rfl,cD _,m,bM _,hm,by simp[e],by simp[e];exact bQ (by rw[e];exact bM _)⟩⟩
 have E:=jbr w3 Tryz.uBytes Tryz.uU8 Tryz.uStr A;rw[ho,cA,E];rfl
def jAm(w:vW)(s:vB)(v i:vV)(wr:vW):Prop:=∃ k:Nat,k<=s.size/\i=.int .i64 k/\v=.string ⟨(jcA (s.data.toList.take k)).toArray⟩/\Ext w wr
theorem jAR(x:vU):(x.toNat:Int) / (16:Int) % (256:Int)=((x >>> 4).toNat:Int):=by
 have:∀ f:Fin 256,(f.1:Int) / (16:Int) % (256:Int)=(((UInt8.ofNat f.1) >>> 4).toNat:Int):=by decide +kernel
 have h:=this ⟨x.toNat,x.toNat_lt⟩;simpa using h
theorem jAW(x:vU):(x.toNat:Int) % (16:Int)=((x &&& 15).toNat:Int):=by
 have:∀ f:Fin 256,(f.1:Int) % (16:Int)=(((UInt8.ofNat f.1) &&& 15).toNat:Int):=by decide +kernel
 have h:=this ⟨x.toNat,x.toNat_lt⟩;simpa using h
theorem jhw(a b:vN):(⟨a.toArray⟩:vB)++⟨b.toArray⟩=⟨(a++b).toArray⟩:=by
 apply ByteArray.ext;rw[cW]
 simp
theorem jnF(w:vW)(s:vB)(hs:s.size<=1000000):vR 76 #[.string s] w (.string (jbf s)):=by
 obtain⟨R,H⟩:=vE (jbf s)
 have HR:=Hd H;rw[<-H];clear H;go_enter Tryz.func76,Tryz.ntmps76;go_wp2_with fail
 go_loopw [3,4] (fun v i wr=>jAm w s v i wr) (fun _ i _=>s.size - (intOf i).toNat)
 case atStart=>exact⟨0,cD _,rfl,rfl,ExtR w⟩
 case round =>
  obtain⟨k,hk,rfl,rfl,Z⟩:=hrel
  have HE:=Hd Z;clear Z
  by_cases hlt:k < s.size
  ·have b1:(k:Int) < (s.size:Int):=vO
   obtain⟨x,hx⟩:=vE (s[k])
   have HX:=Hd hx
   obtain⟨t,E⟩:=vE (jcA (s.data.toList.take k))
   rw[<-E];have HT:=Hd E;have a0:t.length<=2000000:=by
    rw[E]
    have:∀ l:vN,(jcA l).length=2 * l.length:=fun l=>by
     induction l with
     | nil=>rfl
     | cons a l ih=>unfold jcA at *;rw[dI,bF,ih];simp;omega
    rw[this,cL];omega
   clear hx E;go_wp2_with fail
   refine jaJ [0,1,2,3,4,5,6,7,8,9,10,11,12] [9] Ext Ext ExtR ExtT (fun x y z h k=>h.trans k) (fun x y h=>h) vY vY vY ?_;iterate 9 refine vD ?_
   refine qDH _ rfl (fun w2 m K hK=>?_);have J:=Hd (show Ext wr w2 from(jai _).trans m);clear m;go_simp;refine hK _ _ ((ExtR w2).alloc _) ?_;clear hK K;rw[jAR,jAW];refine qDV _ (.string ⟨[s[k] >>> 4,s[k] &&& 15].toArray⟩) rfl (fun w3 h3=>jfz (n:=2) (xs:=[s[k] >>> 4,s[k] &&& 15]) rfl vY h3 (fun f=>f) vI) ?_;refine vS ?_
   obtain⟨O,e⟩:=vE ([s[k] >>> 4,s[k] &&& 15])
   rw[<-e];have a1:O.length=2:=by rw[e];rfl
   have Q:=Hd e;have b5:¬(9223372036854775807 < (⟨t.toArray⟩:vB).size+(⟨O.toArray⟩:vB).size):=by show ¬(_ < t.length+O.length);omega
   clear e;iterate 2 refine vD ?_
   refine qDE (fun w6 m=>?_);have X:=Hd (HE.o.trans ((J.o.alloc _).trans m));clear m;go_wp2_with fail
   go_roundw
   case rel=>exact⟨k+1,by omega,by go_num,by rw[jhw,jmb s hlt, <-HT.o, <-Q.o],X.o⟩
   case measure=>exact vJ
  ·have A:k=s.size:=vO
   have HF:=Hd (show (⟨(jcA (s.data.toList.take k)).toArray⟩:vB)=R by
    rw[HR.o,bQ (by rw[A];exact bM _)];rfl)
   rw[HF.o];clear A;go_wp2_with fail
   go_ret
   exact⟨rfl,HE.o⟩
end
end Go.Proofs.YtegloohdmjadoaaGreatDoor
