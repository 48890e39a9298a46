/- Lemmas; each is under no condition but those that it states. -/
import Derived.Test.YtfjmkebdhojanaaGreatDoorPt29
namespace Go.Proofs.YtfjmkebdhojanaaGreatDoor
set_option linter.unusedSimpArgs false
set_option linter.unusedVariables false
set_option maxRecDepth 100000
set_option maxHeartbeats 16000000
open Go Go.RowKit
section
attribute [local go_sem] Oper.semAt_some
theorem Tryz.sWords:jdv Tryz.prog 115 119 1 4:=jdv.mk' vY (show (Tryz.prog.info? 119).map (fun i=>(i.zero,i.size,i.bytes))=some (some (.int .u32 0),1,4) by kernel_rfl) rfl vI
theorem Tryz.enterRight3(args:Array vV)(w:vW):(callFunc 107 args).run Tryz.prog w=.ok (.enter 107 args) w:=vY
def wL(B:vN)(k:Nat):List UInt32:=if k<=16 then jd4 B k else jhi B (k - 16)
theorem jAE(B:vN)(k:Nat):(wL B k).length=k:=by
 unfold wL;split
 ·simp[jd4]
 ·rw[jcG];omega
theorem jAF(B:vN){k:Nat}(h:k < 16):wL B (k+1)=wL B k++[je7 B k]:=by
 unfold wL;rw[if_pos vO,if_pos vO];simp[jd4,fR]
theorem jAG(B:vN){k:Nat}(h:¬ k < 16):wL B (k+1)=wL B k++[jjt (wL B k)]:=by
 have e:wL B k=jhi B (k - 16):=by
  unfold wL;split
  ·have:k=16:=vO
   subst this;rfl
  ·rfl
 rw[e];unfold wL;rw[if_neg vO,show k+1 - 16=(k - 16)+1 by omega];rfl
theorem jno{P:Program}{ops:Array Oper}{rest:List Oper}{a:Act}{w:vW}{Q:Exit->Act->vW->Prop}{d:Option Tmp}{T:TypeId}{n:Nat}{ps:Array (Nat × Operand)}{ty:TypeId}{pos:String}{af:Array Edge}(v:vV)(w':vW)(h0:(execOp a.eval ⟨d,.buildSlice T n ps,ty,pos,af,none⟩).run P w=.ok (.value v) w')(h:wpList P ops Q rest (a.put d v) w'):wpList P ops Q (⟨d,.buildSlice T n ps,ty,pos,af,none⟩ :: rest) a w:=
 wpList_plain rfl fun K e=>jcd (v:=v) (w':=w') h0 (e _ _ h)
def Bk1(w:vW)(B:vN)(v iv:vV)(wr:vW):Prop:=∃ k:Nat,k<=64/\iv=.int .i64 k/\ORow 119 1 w wr v k ((wL B k).map wv)
theorem W8.add_comm(v u:W8):v.add u=u.add v:=by
 unfold W8.add addW;simp[UInt32.add_comm]
theorem juh(v u:W8){k:Nat}(hk:k < 8):∃ x y,(je8 v.words u.words k)[k]?=some x/\u.words[k]?=some y/\(je8 v.words u.words k).set k (addW x y)=je8 v.words u.words (k+1):=by
 have o:v.words.length=u.words.length:=rfl;have e:k < v.words.length:=hk;have A:k < u.words.length:=hk;have E:=jlI o e
 exact⟨_,_,by rw[jlG o e];exact bA e,bA A,E⟩
def Bk3(w:vW)(g cap:Nat)(R V:W8)(iv:vV)(wr:vW):Prop:=∃ k:Nat,k<=8/\iv=.int .i64 k/\ORow 119 1 w wr (.slice (some ⟨g,0,none⟩) 8 cap) 8 ((je8 R.words V.words k).map wv)
def Bk2(w:vW)(a1:Option Addr)(c1:Nat)(V:W8)(B:vN)(v iv:vV)(wr:vW):Prop:=∃ k:Nat,k<=64/\iv=.int .i64 k/\ORow 119 1 w wr v 8 ((jdY (ja6 B) V k).words.map wv)/\ORow 119 1 w wr (.slice a1 64 c1) 64 ((ja6 B).map wv)
theorem jvV(w:vW)(bh bk ch:Nat)(V:W8)(s:vB)(hs:s.size=64)(hV:∀ j u,(V.words.map wv)[j]?=some u->w.cell? ⟨bh,j,none⟩=some u)(hK:Blk w bk (.cells (je2.map wv).toArray 119)) :
  vQ 61 #[.slice (some ⟨bh,0,none⟩) 8 ch,.slice (some ⟨bk,0,none⟩) 64 64,.string s] w fun e w'=>∃ g c,e=.returned (.slice (some ⟨g,0,none⟩) 8 c)/\w.heap.size<=g/\(∀ j u,((mixW V s.data.toList).words.map wv)[j]?=some u->w'.cell? ⟨g,j,none⟩=some u)/\Ext w w':=by
 have HV:=Hd hV;have HK:=Hd hK;have f0:=Hd hs;have hX:∀ (p q:UInt32) (w:vW),(binOp .xor 119 (wv p) (wv q)).run Tryz.prog w=.ok (wv (xorW p q)) w:=fun _ _ _=>jlk;have hA:∀ (p q:UInt32) (w:vW),(binOp .add 119 (wv p) (wv q)).run Tryz.prog w=.ok (wv (addW p q)) w:=fun _ _ _=>jli;have hN:∀ (p q:UInt32) (w:vW),(binOp .and 119 (wv p) (wv q)).run Tryz.prog w=.ok (wv (andW p q)) w:=fun _ _ _=>jpR;have hU:∀ (p:UInt32) (w:vW),(Op.unary .xor (wv p)).run Tryz.prog w=.ok (wv (notW p)) w:=fun _ _=>jpT;have j0:∀ (p:UInt32) (w:vW),(binOp .shr 119 (wv p) (.int .u64 3)).run Tryz.prog w=.ok (wv (shrW p 3)) w:=fun _ _=>jdd 3 vI .u64;have i5:∀ (p:UInt32) (w:vW),(binOp .shr 119 (wv p) (.int .u64 10)).run Tryz.prog w=.ok (wv (shrW p 10)) w:=fun _ _=>jdd 10 vI .u64;clear hV hK hs;go_enter Tryz.func61,Tryz.ntmps61;go_wp2_with fail
 go_loopw [7,8] (fun v iv wr=>Bk1 w s.data.toList v iv wr) (fun _ iv _=>64 - (intOf iv).toNat)
 case atStart=>exact⟨0,by omega,rfl,ORow.nil _ _ (ExtR w)⟩
 case round =>
  obtain⟨k,hk,rfl,hR⟩:=hrel
  have H:=Hd hR
  obtain⟨a1,c1,rfl⟩:=hR.sl;clear hR
  by_cases hlt:k < 64
  ·have b1:(k:Int) < 64:=vO
   by_cases h16:k < 16
   ·have b2:(k:Int) < 16:=vO
    go_wp2_with fail
    refine vH (jyu wr s k (by have:=f0.o;omega) (by have:=f0.o;omega)) fun w1 hE=>?_;have f4:=Hd (H.o.mono hE);have HW:=Hd (jAF s.data.toList h16);clear H
    obtain⟨x,hx⟩:=vE (je7 s.data.toList k)
    have HX:=Hd hx;rw[<-hx,show wv x=.int .u32 (x.toNat:Int)from rfl];clear hx;have c2:k+1<=maxLen:=by unfold maxLen;omega
    have c3:(k+1) * 4<=140737488355328:=vO
    go_wp2_with (at_builtin;refine jaO Tryz.sWords (f4.o.mono ((ExtR w1).alloc _)) (.tmp 30) (.tmp 34) rfl rfl rfl (jaJ (Blk.new w1 _)) (news:=[wv x]) (by intro u hu;simp at hu;subst hu;rfl) rfl rfl c2 c3 ?_;intro v' w' r1 r2 r3)
    have b0:ORow 119 1 w w' v' (k+1) ((wL s.data.toList (k+1)).map wv):=by rw[HW.o,cB, <-HX.o];exact r1
    obtain⟨a8,c8,rfl⟩:=b0.sl
    have c7:=Hd b0;clear r1 r2 r3 b0 f4;go_wp2_with fail
    go_roundw
    case rel=>exact⟨k+1,by omega,by go_num,c7.o⟩
    case measure=>exact vJ
   ·have b2:¬(k:Int) < 16:=vO
    obtain⟨b3,b7⟩:∃ a,a=k - 15:=⟨_,rfl⟩
    obtain⟨a2,f5⟩:∃ a,a=k - 2:=⟨_,rfl⟩
    obtain⟨Q,b8⟩:∃ a,a=k - 16:=⟨_,rfl⟩
    obtain⟨a7,f6⟩:∃ a,a=k - 7:=⟨_,rfl⟩
    have j1:(k:Int) - 15=(b3:Int):=vO
    have f2:(k:Int) - 2=(a2:Int):=vO
    have j2:(k:Int) - 16=(Q:Int):=vO
    have f7:(k:Int) - 7=(a7:Int):=vO
    have f8:b3 < k:=vO
    have l2:a2 < k:=vO
    have c9:Q < k:=vO
    have l7:a7 < k:=vO
    obtain⟨O,c5⟩:=vE (wL s.data.toList k)
    have d0:O.length=k:=by rw[c5,jAE]
    have a3:=Hd (show wL s.data.toList (k+1)=O++[addW (addW (addW (O.getD Q 0) (sig0 (O.getD b3 0))) (O.getD a7 0)) (sig1 (O.getD a2 0))] by
     rw[jAG _ h16, <-c5];unfold jjt;rw[d0, <-b8, <-b7, <-f6, <-f5])
    rw[<-c5]at H;have b4:=Hd d0;clear b7 f5 b8 f6 c5 d0
    obtain⟨_,⟨h0,_⟩ |⟨g,c6,h3,h0,_⟩⟩:=H.o.own
    ·obtain⟨_,h0,_⟩:=cN h0
     omega
    obtain⟨rfl,_,rfl⟩:=cN h0
    have A:∀ j,j < k->wr.cell? ⟨g,j,none⟩=some (wv (O.getD j 0)):=fun j hj=>by
     have h:=H.o.own.cells (g:=g) rfl j (wv (O.getD j 0)) (by
      rw[bX,bA (by rw[b4.o];exact hj)];simp[show j < O.length by rw[b4.o];exact hj])
     rwa [Addr.add_lit,cH]at h
    have h4:=Hd (A b3 f8);have Q2:=Hd (A a2 l2);have h5:=Hd (A Q c9);have Q7:=Hd (A a7 l7);have h6:=A b3 f8;have q2:=A a2 l2
    obtain⟨b5,b9⟩:∃ x,x=O.getD b3 0:=⟨_,rfl⟩
    obtain⟨Z,f9⟩:∃ x,x=O.getD a2 0:=⟨_,rfl⟩
    obtain⟨d1,a5⟩:∃ x,x=O.getD Q 0:=⟨_,rfl⟩
    obtain⟨x7,d2⟩:∃ x,x=O.getD a7 0:=⟨_,rfl⟩
    rw[<-b9]at h6 h4 a3;rw[<-f9]at q2 Q2 a3;rw[<-a5]at h5 a3;rw[<-d2]at Q7 a3;have h8:=Hd (show O[Q]?=some d1 from by rw[a5,bA (by rw[b4.o];exact c9)];simp[show Q < O.length by rw[b4.o];exact c9]);have L7:=Hd (show O[a7]?=some x7 from by rw[d2,bA (by rw[b4.o];exact l7)];simp[show a7 < O.length by rw[b4.o];exact l7]);clear A b9 f9 a5 d2 h0;go_wp2_with fail
    refine (jBF wr b5).mono ?_;rintro e w' ⟨rfl,rfl⟩;go_wp2_with fail
    refine (jAm wr b5).mono ?_;rintro e w' ⟨rfl,rfl⟩;go_wp2_with fail
    refine (jAl wr Z).mono ?_;rintro e w' ⟨rfl,rfl⟩;go_wp2_with fail
    refine (jAn wr Z).mono ?_;rintro e w' ⟨rfl,rfl⟩;go_wp2_with fail
    have c2:k+1<=maxLen:=by unfold maxLen;omega
    have c3:(k+1) * 4<=140737488355328:=vO
    have HM:=Hd (bB c2 c3);clear c2 c3;refine jaC [0,1,2,3,4,5,6,7,8,9,10,11,12,13,14,15,16,17,18] [16,17] Ext (fun x y=>∀ vs,ORow 119 1 w x (.slice (some ⟨g,0,none⟩) k c1) k vs->ORow 119 1 w y (.slice (some ⟨g,0,none⟩) k c1) k vs) ExtR ExtT (fun x y z E h2 vs h=>h2 vs (E vs h)) (fun x y h vs k=>k.mono h) vY vY vY ?_;have d3:∀ w1,(∀ vs,ORow 119 1 w wr.drew (.slice (some ⟨g,0,none⟩) k c1) k vs->ORow 119 1 w w1 (.slice (some ⟨g,0,none⟩) k c1) k vs)->∀ j x,O[j]?=some x->w1.cell? ⟨g,j,none⟩=some (wv x):=fun w1 h j x hj=>by
     have h:=(h _ (H.o.mono (jai wr))).own.cells (g:=g) rfl j (wv x) (by rw[bX,hj];rfl)
     rwa [Addr.add_lit,cH]at h
    iterate 5 refine vD ?_
    refine qDL ⟨g,Q,none⟩ _ rfl (fun w1 E=>jab Tryz.uU32 rfl (d3 w1 E Q d1 h8.o)) ?_;refine vS ?_;iterate 6 refine vD ?_
    refine qDL ⟨g,a7,none⟩ _ rfl (fun w1 E=>jab Tryz.uU32 rfl (d3 w1 E a7 x7 L7.o)) ?_;refine vS ?_;iterate 3 refine vD ?_
    obtain⟨nx,d4⟩:∃ x,x=addW (addW (addW d1 (xorW (xorW (rotW b5 7) (rotW b5 18)) (shrW b5 3))) x7) (xorW (xorW (rotW Z 17) (rotW Z 19)) (shrW Z 10)):=⟨_,rfl⟩
    have e7:=Hd (show wL s.data.toList (k+1)=O++[nx] by rw[a3.o,d4];rfl);rw[<-d4,show wv nx=.int .u32 (nx.toNat:Int)from rfl];clear d4 d3;refine qDH _ rfl (fun w2 J K hK=>?_);have b6:=Hd (H.o.mono ((jai wr).trans J));clear J;go_simp;refine hK _ _ (fun vs h=>h.mono ((ExtR w2).alloc _)) ?_;clear hK K;refine qDH _ rfl (fun w3 J K hK=>?_);have d5:=Hd (b6.o.mono (((ExtR w2).alloc _).trans J));have hB:∀ j u,([wv nx]:List vV)[j]?=some u->w3.cell? ((⟨w2.heap.size,0,none⟩:Addr).add j)=some u:=fun j u hj=>jaa (jaJ (Blk.new w2 (.cells [wv nx].toArray 119)) j u hj) J;refine jyK Tryz.sWords d5.o (.tmp 62) (.tmp 78) rfl rfl hB (by intro u hu;simp at hu;subst hu;rfl) rfl rfl HM.o.1 HM.o.2 (fun v' w4 r1 r2 r3 r4=>hK _ _ (fun vs h=>by
     have e:vs=O.map wv:=by
      have E:=h.own;have h2:=d5.o.own
      obtain⟨_,⟨e1,_⟩ |⟨g1,j3,i6,e1,_,e2,_,_,_,e3⟩⟩:=E
      ·cases e1
      ·obtain⟨_,⟨f1,_⟩ |⟨g2,j4,i7,f1,_,f2,_,_,_,f3⟩⟩:=h2
       ·cases f1
       ·have q1:=congrArg Addr.block (bO (cN e1).1)
        have q2:=congrArg Addr.block (bO (cN f1).1);have q1:g=g1:=q1;have q2:g=g2:=q2;subst q1 q2;rw[e2]at f2;have f2:=bO f2;injection f2 with f2;rw[<-e3,f2,f3]
     rw[e];exact r4) ?_)
    have b0:ORow 119 1 w w4 v' (k+1) ((wL s.data.toList (k+1)).map wv):=by rw[e7.o,cB];exact r1
    have d6:=Hd b0;clear hK K J r1 r2 r3 r4 b0 hB b6 d5
    obtain⟨a4,c4,rfl⟩:=d6.o.sl
    refine vS ?_
    refine vD ?_
    refine qDE (fun w5 J=>?_);have c7:=Hd (d6.o.mono J);clear J d6;go_wp2_with fail
    go_roundw
    case rel=>exact⟨k+1,by omega,by go_num,c7.o⟩
    case measure=>exact vJ
  ·have a6:k=64:=vO
   subst a6;have HW:=Hd (show ORow 119 1 w wr (.slice a1 64 c1) 64 ((ja6 s.data.toList).map wv)from H.o);have g0:=Hd (show ORow 119 1 w (wr.alloc (.cells #[] 119)) (.slice (some ⟨wr.heap.size,0,none⟩) 0 0) 0 []from ORow.lit #[] H.o.ext vI rfl);have g3:=Hd (show ∀ j u,(V.words.map wv)[j]?=some u->(wr.alloc (.cells #[] 119)).cell? ((⟨bh,0,none⟩:Addr).add j)=some u from fun j u hj=>by
    rw[Addr.add_lit,cH];exact jaa (HV.o _ _ hj) (H.o.ext.trans ((ExtR wr).alloc _)))
   go_wp2_with (at_builtin;refine jaO Tryz.sWords g0.o (.tmp 80) (.tmp 81) rfl rfl rfl g3.o (fun u hu=>by obtain⟨x,_,rfl⟩:=bK.1 hu;rfl) rfl rfl vI vI ?_;intro v' w' r1 r2 r3)
   have b6:=Hd (show ORow 119 1 w w' v' 8 ((jdY (ja6 s.data.toList) V 0).words.map wv)from r1);have h9:=Hd ((HW.o.mono ((ExtR wr).alloc _)).keeps r2 (fun b hb e=>by
    have E:=HW.o.lt b hb;have e:some wr.heap.size=some b:=e
    have:=bO e
    omega) (fun b hb e=>by
    have e:some wr.heap.size=some b:=e
    have:=bO e
    have:=HW.o.ext.size
    omega))
   obtain⟨a8,c8,rfl⟩:=b6.o.sl;clear r1 r2 r3 H g0 g3;go_wp2_with fail
   go_loopw [13,14] (fun v iv wr=>Bk2 w a1 c1 V s.data.toList v iv wr) (fun _ iv _=>64 - (intOf iv).toNat)
   case atStart=>exact⟨0,by omega,rfl,b6.o,h9.o⟩
   case round =>
    obtain⟨k,hk,rfl,hR,hW⟩:=hrel
    have H:=Hd hR;have HW:=Hd hW
    obtain⟨v,hv⟩:=vE (jdY (ja6 s.data.toList) V k)
    rw[<-hv]at H;have d7:=Hd hv
    obtain⟨_,⟨h0,_⟩ |⟨g,c6,h3,h0,_⟩⟩:=hR.own
    ·obtain⟨_,_,e⟩:=hR.sl
     rw[e]at h0;cases (cN h0).2.1
    subst h0;clear hR hW hv
    by_cases hlt:k < 64
    ·have b1:(k:Int) < 64:=vO
     obtain⟨_,⟨h0,_⟩ |⟨g7,i8,i9,h0,_⟩⟩:=HW.o.own
     ·cases (cN h0).2.1
     obtain⟨rfl,_,rfl⟩:=cN h0
     obtain⟨ck,d8⟩:=vE (je2.getD k 0)
     obtain⟨wk,d9⟩:=vE ((ja6 s.data.toList).getD k 0)
     have qc:wr.cell? ⟨bk,k,none⟩=some (wv ck):=by
      refine jaa (HK.o.cellL ?_) H.o.ext;rw[bX,bA (show k < je2.length from hlt),d8];simp[show k < je2.length from hlt]
     have e0:(ja6 s.data.toList).length=64:=by simp[ja6,jcG]
     have qw:wr.cell? ⟨g7,k,none⟩=some (wv wk):=by
      have h:=HW.o.own.cells (g:=g7) rfl k (wv wk) (by
       rw[bX,bA (by rw[e0];exact hlt),d9];simp[e0,hlt])
      rwa [Addr.add_lit,cH]at h
     have a3:=Hd (show jdY (ja6 s.data.toList) V (k+1)=jm3 v ck wk by rw[d7.o,d8,d9];rfl);clear h0 d8 d9 e0
     obtain⟨x0,x1,Z,x3,X,x5,x6,x7⟩:=v
     have A:∀ j u,([wv x0,wv x1,wv Z,wv x3,wv X,wv x5,wv x6,wv x7]:List vV)[j]?=some u->wr.cell? ⟨g,j,none⟩=some u:=fun j u hj=>by
      have h:=H.o.own.cells (g:=g) rfl j u hj
      rwa [Addr.add_lit,cH]at h
     have q0:=A 0 _ rfl;have q1:=A 1 _ rfl;have q2:=A 2 _ rfl;have q3:=A 3 _ rfl;have q4:=A 4 _ rfl;have q5:=A 5 _ rfl;have q6:=A 6 _ rfl;have q7:=A 7 _ rfl;clear A;have QC:=Hd qc;have QW:=Hd qw;have Q0:=Hd q0;have Q1:=Hd q1;have Q2:=Hd q2;have Q3:=Hd q3;have Q4:=Hd q4;have Q5:=Hd q5;have Q6:=Hd q6;have Q7:=Hd q7;clear q0 q1 q2 q3 q4 q5 q6 q7 qc qw;go_wp2_with fail
     refine jag [0,1,2,3,4,5,6,7,8,9,10,11,12,13,14,15,16,17,18,19,20,21,22,23] Ext ExtR ExtT vY vY vY ?_;iterate 2 refine vK ?_
     refine qKL ⟨g,0,none⟩ _ rfl (fun w1 E=>jab Tryz.uU32 rfl (jaa Q0.o ((jai wr).trans E))) ?_;refine vS ?_;iterate 2 refine vK ?_
     refine qKL ⟨g,1,none⟩ _ rfl (fun w1 E=>jab Tryz.uU32 rfl (jaa Q1.o ((jai wr).trans E))) ?_;refine vS ?_;iterate 2 refine vK ?_
     refine qKL ⟨g,2,none⟩ _ rfl (fun w1 E=>jab Tryz.uU32 rfl (jaa Q2.o ((jai wr).trans E))) ?_;refine vS ?_;iterate 2 refine vK ?_
     refine qKL ⟨g,4,none⟩ _ rfl (fun w1 E=>jab Tryz.uU32 rfl (jaa Q4.o ((jai wr).trans E))) ?_;refine vS ?_;iterate 2 refine vK ?_
     refine qKL ⟨g,5,none⟩ _ rfl (fun w1 E=>jab Tryz.uU32 rfl (jaa Q5.o ((jai wr).trans E))) ?_;refine vS ?_;iterate 2 refine vK ?_
     refine qKL ⟨g,6,none⟩ _ rfl (fun w1 E=>jab Tryz.uU32 rfl (jaa Q6.o ((jai wr).trans E))) ?_;refine vS ?_;iterate 6 refine vK ?_
     refine qKE (fun w3 J=>?_);have X3:=Hd ((jai wr).trans J);clear J;go_wp2_with fail
     refine jag [0,1,2,3,4,5,6,7,8,9,10,11,12,13,14,15,16,17,18,19,20,21,22,23,24,25,26,27,28,29,30,31] Ext ExtR ExtT vY vY vY ?_;iterate 2 refine vK ?_
     refine qKL ⟨g,7,none⟩ _ rfl (fun w1 E=>jab Tryz.uU32 rfl (jaa Q7.o ((X3.o.trans (jai w3)).trans E))) ?_;refine vS ?_
     refine vK ?_
     refine qKC _ 107 #[wv X,.int .u64 6] (wv (rotW X 6)) rfl (fun w1=>jat Tryz.enterRight3 vY) (fun w1 E=>(jBE w1 X).mono (fun e w2 ⟨E,h2⟩=>⟨E,h2 ▸ ExtR w1⟩)) ?_;refine vS ?_
     refine vK ?_
     refine qKC _ 107 #[wv X,.int .u64 11] (wv (rotW X 11)) rfl (fun w1=>jat Tryz.enterRight3 vY) (fun w1 E=>(jAj w1 X).mono (fun e w2 ⟨E,h2⟩=>⟨E,h2 ▸ ExtR w1⟩)) ?_;refine vS ?_;iterate 2 refine vK ?_
     refine qKC _ 107 #[wv X,.int .u64 25] (wv (rotW X 25)) rfl (fun w1=>jat Tryz.enterRight3 vY) (fun w1 E=>(jAp w1 X).mono (fun e w2 ⟨E,h2⟩=>⟨E,h2 ▸ ExtR w1⟩)) ?_;refine vS ?_;iterate 14 refine vK ?_
     refine qKL ⟨bk,k,none⟩ _ rfl (fun w1 E=>jab Tryz.uU32 rfl (jaa QC.o ((X3.o.trans (jai w3)).trans E))) ?_;refine vS ?_;iterate 4 refine vK ?_
     refine qKL ⟨g7,k,none⟩ _ rfl (fun w1 E=>jab Tryz.uU32 rfl (jaa QW.o ((X3.o.trans (jai w3)).trans E))) ?_;refine vS ?_;iterate 2 refine vK ?_
     refine qKE (fun w4 J=>?_);have X4:=Hd (X3.o.trans ((jai w3).trans J));clear J X3
     obtain⟨tv,e4⟩:∃ t,t=tOne ⟨x0,x1,Z,x3,X,x5,x6,x7⟩ ck wk:=⟨_,rfl⟩
     have a0:=e4;unfold tOne at a0;simp only at a0;rw[<-a0];have i0:=Hd e4;clear e4 a0;go_wp2_with fail
     refine (jBD w4 x0).mono ?_;rintro e w' ⟨rfl,rfl⟩;go_wp2_with fail
     refine (jAk w4 x0).mono ?_;rintro e w' ⟨rfl,rfl⟩;go_wp2_with fail
     refine (jAo w4 x0).mono ?_;rintro e w' ⟨rfl,rfl⟩;have q3:=jaa Q3.o X4.o
     obtain⟨sv,e5⟩:∃ t,t=addW (xorW (xorW (rotW x0 2) (rotW x0 13)) (rotW x0 22)) (xorW (xorW (andW x0 x1) (andW x0 Z)) (andW x1 Z)):=⟨_,rfl⟩
     have i1:Hid (tTwo ⟨x0,x1,Z,x3,X,x5,x6,x7⟩=sv):=e5.symm;go_wp2_with (refine jno (.slice (some ⟨w4.heap.size,0,none⟩) 8 8) (w4.alloc (.cells #[wv (addW tv sv),wv x0,wv x1,wv Z,wv (addW x3 tv),wv X,wv x5,wv x6] 119)) (by rw[e5];kernel_rfl) ?_;clear e5 q3)
     have HN:=Hd (show ORow 119 1 w (w4.alloc (.cells #[wv (addW tv sv),wv x0,wv x1,wv Z,wv (addW x3 tv),wv X,wv x5,wv x6] 119)) (.slice (some ⟨w4.heap.size,0,none⟩) 8 8) 8 ((jdY (ja6 s.data.toList) V (k+1)).words.map wv)from by
      have h:=ORow.lit (T:=119) (sz:=1) #[wv (addW tv sv),wv x0,wv x1,wv Z,wv (addW x3 tv),wv X,wv x5,wv x6] (n:=8) (H.o.ext.trans X4.o) vI rfl;rw[a3.o];unfold jm3;rw[i1.o, <-i0.o];exact h)
     have g4:=Hd (HW.o.mono (X4.o.trans ((ExtR w4).alloc (.cells #[wv (addW tv sv),wv x0,wv x1,wv Z,wv (addW x3 tv),wv X,wv x5,wv x6] 119))))
     obtain⟨w5,g5⟩:=vE (w4.alloc (.cells #[wv (addW tv sv),wv x0,wv x1,wv Z,wv (addW x3 tv),wv X,wv x5,wv x6] 119))
     rw[<-g5]at HN g4 ⊢;clear g5;go_wp2_with fail
     go_roundw
     case rel=>exact⟨k+1,by omega,by go_num,HN.o,g4.o⟩
     case measure=>exact vJ
    ·have a6:k=64:=vO
     subst a6;have i2:=Hd (show ORow 119 1 w wr (.slice (some ⟨g,0,none⟩) 8 c6) 8 ((je8 v.words V.words 0).map wv)from H.o);have e8:=Hd (show (je8 v.words V.words 8)=(mixW V s.data.toList).words by
      rw[jlF,d7.o,W8.add_comm];rfl)
     clear HW H d7;go_wp2_with fail
     rw[show ((64:Nat):Int)=(64:Int)from rfl];go_loopw [23] (fun iv wr=>Bk3 w g c6 v V iv wr) (fun iv _=>8 - (intOf iv).toNat)
     case atStart=>exact⟨0,by omega,rfl,i2.o⟩
     case round =>
      obtain⟨k,hk,rfl,hR⟩:=hrel
      have H:=Hd hR;clear hR
      by_cases hlt:k < 8
      ·have b1:(k:Int) < 8:=vO
       obtain⟨x,y,hx,hy,c0⟩:=juh v V hlt
       have q1:wr.cell? ⟨g,k,none⟩=some (wv x):=by
        have h:=H.o.own.cells (g:=g) rfl k (wv x) (by rw[bX,hx];rfl)
        rwa [Addr.add_lit,cH]at h
       have q2:wr.cell? ⟨bh,k,none⟩=some (wv y):=jaa (HV.o _ _ (by rw[bX,hy];rfl)) H.o.ext;have Q1:=Hd q1;have Q2:=Hd q2;have e9:=Hd c0;clear hx hy c0 q1 q2;go_wp2_with fail
       refine jay [0,1,2,3,4,5,6,7,8,9,10,11,12] [12] Ext ExtR ExtT vY vY vY ?_;iterate 5 refine vP ?_
       refine qL ⟨g,k,none⟩ _ rfl (fun w1 E=>jab Tryz.uU32 rfl (jaa Q1.o ((jai wr).trans E))) ?_;refine vS ?_;iterate 3 refine vP ?_
       refine qL ⟨bh,k,none⟩ _ rfl (fun w1 E=>jab Tryz.uU32 rfl (jaa Q2.o ((jai wr).trans E))) ?_;refine vS ?_;iterate 2 refine vP ?_
       refine qH _ rfl (fun w6 J K hK=>?_);have e6:=Hd (H.o.mono ((jai wr).trans J));have g6:=jaa Q1.o ((jai wr).trans J);have g8:w6.frozen? ⟨g,k,none⟩=false:=e6.o.own.frozenAt k;have h7:=e6.o.set k (wv (addW x y));rw[<-iB,e9.o]at h7;have g9:=Hd h7;clear h7 J H Q1 Q2;refine jia g k (wv (addW x y)) rfl vY vY rfl Tryz.iU32 g6 g8 (hK _ _ ?_);clear hK K g6 g8;refine qE (fun w8 J=>?_);have i3:=Hd (g9.o.mono J);clear J g9 e6;go_wp2_with fail
       go_roundw
       case rel=>exact⟨k+1,by omega,by go_num,i3.o⟩
       case measure=>exact vJ
      ·have i4:k=8:=vO
       subst i4;have a9:=H.o;rw[e8.o]at a9;have HF:=Hd a9;clear a9;go_wp2_with fail
       go_ret
       exact⟨g,c6,rfl,HF.o.new g rfl,fun j u hj=>by
        have h:=HF.o.own.cells (g:=g) rfl j u hj
        rwa [Addr.add_lit,cH]at h,HF.o.ext⟩
theorem jfH{F:BSet}{w2 w3:vW}{xs:vN}{n:Nat}{a:Act}{o:Oper}(hn:xs.length=n)(ho:execOp a.eval o=(do pure (.value (<-convert 120 9 (.slice (some ⟨w2.heap.size,0,none⟩) n n)))))
  (h:jae F (w2.alloc (.cells (jaK xs).toArray 5)) w3) (hF:¬ F w2.heap.size) (hm:n<=maxLen):(execOp a.eval o).run Tryz.prog w3=.ok (.value (.string ⟨xs.toArray⟩)) w3:=by
 subst hn;have A:=(Blk.new w2 (.cells (jaK xs).toArray 5)).keeps h hF;have e:(jaK xs).length=xs.length:=by unfold jaK;rw[cC]
 have E:w3.ownsRow 0 5 1 (.slice (some ⟨w2.heap.size,0,none⟩) xs.length xs.length) xs.length (jaK xs):=
  ⟨by rw[e,jD],.inr ⟨_,xs.length,_,rfl,cD _,A,bL _,hm,by simp[e],by simp[e];exact bN (by rw[e];exact bL _)⟩⟩
 have H:=jbB w3 Tryz.uBytes Tryz.uU8 Tryz.uStr E;rw[ho,cA,H];rfl
def jAY(w:vW)(s:vB)(v i:vV)(wr:vW):Prop:=∃ k:Nat,k<=s.size/\i=.int .i64 k/\v=.string ⟨(jcw (s.data.toList.take k)).toArray⟩/\Ext w wr
theorem jBC(x:vU):(x.toNat:Int) / (16:Int) % (256:Int)=((x >>> 4).toNat:Int):=by
 have:∀ f:Fin 256,(f.1:Int) / (16:Int) % (256:Int)=(((UInt8.ofNat f.1) >>> 4).toNat:Int):=by decide +kernel
 have h:=this ⟨x.toNat,x.toNat_lt⟩;simpa using h
theorem jBH(x:vU):(x.toNat:Int) % (16:Int)=((x &&& 15).toNat:Int):=by
 have:∀ f:Fin 256,(f.1:Int) % (16:Int)=(((UInt8.ofNat f.1) &&& 15).toNat:Int):=by decide +kernel
 have h:=this ⟨x.toNat,x.toNat_lt⟩;simpa using h
theorem jhD(a b:vN):(⟨a.toArray⟩:vB)++⟨b.toArray⟩=⟨(a++b).toArray⟩:=by
 apply ByteArray.ext;rw[cZ]
 simp
theorem jon(w:vW)(s:vB)(hs:s.size<=1000000):vR 101 #[.string s] w (.string (jbv s)):=by
 obtain⟨R,J⟩:=vE (jbv s)
 have HR:=Hd J;rw[<-J];clear J;unfold vR vQ;go_in;go_wp2_with fail
 go_loopw [3,4] (fun v i wr=>jAY w s v i wr) (fun _ i _=>s.size - (intOf i).toNat)
 case atStart=>exact⟨0,cD _,rfl,rfl,ExtR w⟩
 case round =>
  obtain⟨k,hk,rfl,rfl,hE⟩:=hrel
  have HE:=Hd hE;clear hE
  by_cases hlt:k < s.size
  ·have b1:(k:Int) < (s.size:Int):=vO
   obtain⟨x,hx⟩:=vE (s[k])
   have HX:=Hd hx
   obtain⟨t,H⟩:=vE (jcw (s.data.toList.take k))
   rw[<-H];have HT:=Hd H;have a0:t.length<=2000000:=by
    rw[H]
    have:∀ l:vN,(jcw l).length=2 * l.length:=fun l=>by
     induction l with
     | nil=>rfl
     | cons a l ih=>unfold jcw at *;rw[cG,bC,ih];simp;omega
    rw[this,cI];omega
   clear hx H;go_wp2_with fail
   refine jaC [0,1,2,3,4,5,6,7,8,9,10,11,12] [9] Ext Ext ExtR ExtT (fun x y z h k=>h.trans k) (fun x y h=>h) vY vY vY ?_;iterate 9 refine vD ?_
   refine qDH _ rfl (fun w2 A K hK=>?_);have O:=Hd (show Ext wr w2 from(jai _).trans A);clear A;go_simp;refine hK _ _ ((ExtR w2).alloc _) ?_;clear hK K;rw[jBC,jBH];refine qDV _ (.string ⟨[s[k] >>> 4,s[k] &&& 15].toArray⟩) rfl (fun w3 h3=>jfH (n:=2) (xs:=[s[k] >>> 4,s[k] &&& 15]) rfl vY h3 (fun f=>f) vI) ?_;refine vS ?_
   obtain⟨Q,e⟩:=vE ([s[k] >>> 4,s[k] &&& 15])
   rw[<-e];have a1:Q.length=2:=by rw[e];rfl
   have X:=Hd e;have b5:¬(9223372036854775807 < (⟨t.toArray⟩:vB).size+(⟨Q.toArray⟩:vB).size):=by show ¬(_ < t.length+Q.length);omega
   clear e;iterate 2 refine vD ?_
   refine qDE (fun w6 A=>?_);have Z:=Hd (HE.o.trans ((O.o.alloc _).trans A));clear A;go_wp2_with fail
   go_roundw
   case rel=>exact⟨k+1,by omega,by go_num,by rw[jhD,jmI s hlt, <-HT.o, <-X.o],Z.o⟩
   case measure=>exact vJ
  ·have E:k=s.size:=vO
   have HF:=Hd (show (⟨(jcw (s.data.toList.take k)).toArray⟩:vB)=R by
    rw[HR.o,bN (by rw[E];exact bL _)];rfl)
   rw[HF.o];clear E;go_wp2_with fail
   go_ret
   exact⟨rfl,HE.o⟩
def padZ(l:vN)(j:Nat):vN:=l++128 :: List.replicate j 0
theorem jtn(l:vN)(j:Nat):padZ l (j+1)=padZ l j++[0]:=by unfold padZ;rw[List.replicate_succ'];simp
theorem jkZ(l:vN)(j:Nat):(padZ l j).length=l.length+1+j:=by unfold padZ;simp;omega
def zPad(n:Nat):Nat:=(119 - n % 64) % 64
def jBI(v:vV):Nat:=match v with | .string s=>s.size | _=>0
def jAV(w:vW)(l:vN)(sz:UInt64)(v iv:vV)(wr:vW):Prop:=∃ j:Nat,j<=8/\iv=.int .i64 (7 - (j:Int))/\v=.string ⟨(padZ l (zPad l.length)++(lenL sz).take j).toArray⟩/\Ext w wr
theorem joA(n:Nat):zPad n < 64:=Nat.mod_lt _ vI
theorem jqa(n:Nat):(n+1+zPad n) % 64=56:=by unfold zPad;omega
theorem jwx{n j:Nat}(h:j < zPad n):(n+1+j) % 64≠56:=by unfold zPad at h;omega
def jAU(w:vW)(l:vN)(v:vV)(wr:vW):Prop:=∃ j:Nat,j<=zPad l.length/\v=.string ⟨(padZ l j).toArray⟩/\Ext w wr
theorem jwT(w:vW)(l:vN)(hs:l.length<=1000000):vR 60 #[.string ⟨l.toArray⟩] w (.string ⟨(padZ l (zPad l.length)++lenL (UInt64.ofNat l.length)).toArray⟩):=by
 obtain⟨R,hR⟩:∃ R:vB,R=⟨(padZ l (zPad l.length)++lenL (UInt64.ofNat l.length)).toArray⟩:=⟨_,rfl⟩
 have a6:=Hd hR;rw[<-hR];clear hR;have a7:(⟨l.toArray⟩:vB).size=l.length:=rfl;have E:=Tryz.run_lit1 w 128;rw[show (((128:vU).toNat:Nat):Int)=128 from rfl]at E;have b5:¬(9223372036854775807 < (⟨l.toArray⟩:vB).size+(⟨#[128]⟩:vB).size):=by show ¬(_ < l.length+1);omega
 unfold vR vQ;go_in;go_wp2_with fail
 rw[show (⟨l.toArray⟩:vB)++⟨#[128]⟩=⟨(padZ l 0).toArray⟩from by rw[show (⟨#[128]⟩:vB)=⟨[128].toArray⟩from rfl,jhD];rfl]
 obtain⟨w0,X⟩:=vE (w.alloc (.cells #[.int .u8 128] 5))
 have a8:=Hd (show Ext w w0 by rw[X];exact (ExtR w).alloc _);rw[<-X];clear E X b5 a7;go_loopw [0] (fun v wr=>jAU w l v wr) (fun v _=>zPad l.length+l.length+1 - jBI v)
 case atStart=>exact⟨0,cD _,rfl,a8.o⟩
 case round =>
  obtain⟨j,hj,rfl,hE⟩:=hrel
  have HE:=Hd hE;have A:=jkZ l j;have J:=jtn l j
  obtain⟨t,ht⟩:=vE (padZ l j)
  rw[<-ht]at A J ⊢;have HT:=Hd ht;have a9:=Hd J
  obtain⟨u,hu⟩:∃ u:vB,u=⟨t.toArray⟩:=⟨_,rfl⟩
  have e:u.size=l.length+1+j:=by rw[hu];exact A
  have HU:=Hd hu;have b0:=Hd e;have hz:=joA l.length;rw[<-hu]
  by_cases hlt:j < zPad l.length
  ·have a1:=jwx hlt
   rw[<-e]at a1;have Z:((u.size:Int) % 64 == 56)=false:=beq_eq_false_iff_ne.2 vO;have b6:((u.size:Int) % 64 != 56)=true:=by rw[bne,Z];rfl
   have O:¬(u.size:Int) % 64=56:=vO
   have E:=Tryz.run_lit1 wr 0;rw[show (((0:vU).toNat:Nat):Int)=0 from rfl]at E;have b5:¬(9223372036854775807 < u.size+(⟨#[0]⟩:vB).size):=by rw[e];show ¬(_ < l.length+1+j+1);omega
   clear hE A J ht hu e a1;go_wp2_with fail
   go_roundw
   case rel=>exact⟨j+1,by omega,by rw[a9.o, <-jhD, <-HU.o],HE.o.alloc _⟩
   case measure =>
    show _ - (u++(⟨#[0]⟩:vB)).size < _ - u.size;rw[bV,b0.o];show _ - (l.length+1+j+1) < _;omega
  ·have K:j=zPad l.length:=vO
   have he:=jqa l.length;have Z:((u.size:Int) % 64 == 56)=true:=by rw[e,K];exact beq_iff_eq.2 vO
   have O:(u.size:Int) % 64=56:=by rw[e,K];omega
   clear hE A J ht hu e he hz hlt;go_wp2_with fail
   have a0:t=padZ l (zPad l.length):=by rw[HT.o,K]
   have b7:t.length<=1000100:=by rw[a0,jkZ];have:=joA l.length;omega
   obtain⟨sz,H⟩:=vE (UInt64.ofNat l.length)
   have Q:sz.toNat=l.length:=by rw[H,UInt64.toNat_ofNat'];omega
   have b1:=Hd H;have b2:=Hd Q;have a2:=Hd a0;clear H Q a0 Z O K;go_loopw [0,4] (fun v iv wr=>jAV w l sz v iv wr) (fun _ iv _=>(intOf iv+1).toNat)
   case atStart=>exact⟨0,by omega,rfl,by rw[<-a2.o,HU.o];simp,HE.o⟩
   case round =>
    obtain⟨k,hk,rfl,rfl,hE⟩:=hrel
    have a3:=Hd hE;clear hE
    by_cases hlt:k < 8
    ·have c1:(0:Int)<=7 - (k:Int):=vO
     have c3:8 * (7 - (k:Int))=56 - 8 * (k:Int):=vO
     have c4:(0:Int)<=56 - 8 * (k:Int):=vO
     have c5:(56 - 8 * (k:Int)).toNat=56 - 8 * k:=vO
     have c6:56 - 8 * (k:Int) < 64:=vO
     obtain⟨v,hv⟩:∃ v:vB,v=⟨(padZ l (zPad l.length)++(lenL sz).take k).toArray⟩:=⟨_,rfl⟩
     have HV:=Hd hv;have a4:(l.length:Int) * 8 / 2 ^ (56 - 8 * k) % 256=((jee sz k).toNat:Int):=by
      have h:=jwO sz k;rw[b2.o,show IntKind.u64.wrap ((l.length:Int) * 8)=(l.length:Int) * 8 by rw[IntKind.wrap_u64];omega]at h;exact h
     have E:=Tryz.run_lit1 wr (jee sz k);rw[<-a4]at E;have b8:v.size<=1000300:=by
      rw[hv];show (padZ l (zPad l.length)++(lenL sz).take k).length<=_;rw[bC,cI,jeO, <-a2.o];omega
     have b5:¬(9223372036854775807 < v.size+(⟨#[jee sz k]⟩:vB).size):=by show ¬(_ < v.size+1);omega
     have a5:(lenL sz).take (k+1)=(lenL sz).take k++[jee sz k]:=by
      rw[bW,bA (by rw[jeO];exact hlt)];simp[lenL]
     have b3:=Hd a5;rw[<-hv];clear hv a4 a5;go_wp2_with fail
     go_roundw
     case rel=>exact⟨k+1,by omega,by simp;omega,by rw[b3.o, <-cE, <-jhD, <-HV.o],a3.o.alloc _⟩
     case measure=>exact vJ
    ·have b4:k=8:=vO
     subst b4;have c1:¬(0:Int)<=7 - ((8:Nat):Int):=vO
     have HF:=Hd (show (⟨(padZ l (zPad l.length)++(lenL sz).take 8).toArray⟩:vB)=R by
      rw[a6.o, <-b1.o,bN (by rw[jeO];exact bL _)])
     rw[HF.o];clear hlt;go_wp2_with fail
     go_ret
     exact⟨rfl,a3.o⟩
end
def hBlk(V:W8)(P:vN):Nat->W8
 | 0=>V
 | j+1=>mixW (hBlk V P j) ((P.drop (64 * j)).take 64)
theorem jxR{B X:vN}(h:B.length=64)(hx:X.length=64):layB B 0 X=X:=by
 unfold layB;rw[jE,cT,gG vO,bZ]
theorem jge(s:HSt)(P:vN)(hs:s.Ok)(A:s.n=0):∀ j:Nat,64 * j<=P.length->∃ B,jbr s (P.take (64 * j))=⟨hBlk s.V P j,B,0⟩
 | 0,_=>⟨s.B,by
  obtain⟨V,B,n⟩:=s
  have A:n=0:=A;subst A;simp[jbr,hBlk]⟩
 | j+1,h=>by
  obtain⟨B,E⟩:=jge s P hs A j vO
  have o:(jbr s (P.take (64 * j))).Ok:=hs.all _;rw[E]at o;have H:((P.drop (64 * j)).take 64).length=64:=by rw[cI,dQ];omega
  have e:P.take (64 * (j+1))=P.take (64 * j)++(P.drop (64 * j)).take 64:=by
   rw[show 64 * (j+1)=64 * j+64 by omega,List.take_add]
  refine⟨(P.drop (64 * j)).take 64,?_⟩
  rw[e,jcI,E,jhH _ _ o (by rw[H])];show HSt.mk (mixW (hBlk s.V P j) (layB B 0 _)) (layB B 0 _) 0=_;rw[jxR o.1 H];rfl
theorem jAh(l:vN):(jbr jhM l).n=l.length % 64:=by
 obtain⟨B,A⟩:=jge jhM l jh0 rfl (l.length / 64) vO
 have o:(jbr jhM (l.take (64 * (l.length / 64)))).Ok:=jh0.all _;rw[A]at o;have e:l=l.take (64 * (l.length / 64))++l.drop (64 * (l.length / 64)):=(cV _ _).symm;have E:(l.drop (64 * (l.length / 64))).length=l.length % 64:=by rw[dQ];omega
 conv=>lhs;rw[e]
 rw[jcI,A,jhI _ _ o (by rw[E];show 0+_ < 64;omega)];show 0+_=_;rw[E];omega
def padL(l:vN):vN:=padZ l (zPad l.length)++lenL (UInt64.ofNat l.length)
theorem jkY(l:vN):(padL l).length=l.length+9+zPad l.length:=by
 unfold padL;rw[bC,jkZ,jeO];omega
theorem jtm(l:vN):(padL l).length % 64=0:=by
 rw[jkY];have:=jqa l.length;omega
theorem jyy(l:vN):shaL l=⟨(outL (hBlk jjV (padL l) ((padL l).length / 64)).words).toArray⟩:=by
 have A:jkl (jbr jhM l).n=zPad l.length:=by rw[jAh];unfold jkl zPad;omega
 have e:l++jne (zPad l.length) (UInt64.ofNat l.length)=padL l:=by unfold padL padZ jne;simp
 obtain⟨B,o⟩:=jge jhM (padL l) jh0 rfl ((padL l).length / 64) vO
 rw[bN (by have:=jtm l;omega)]at o;unfold shaL sumB;rw[A, <-jcI,e,o];rfl
