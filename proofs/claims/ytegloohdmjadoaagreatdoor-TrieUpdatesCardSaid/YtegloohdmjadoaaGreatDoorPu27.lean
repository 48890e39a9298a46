/- Lemmas; each is under no condition but those that it states. -/
import Derived.Test.YtegloohdmjadoaaGreatDoorPu26
namespace Go.Proofs.YtegloohdmjadoaaGreatDoor
set_option linter.unusedSimpArgs false
set_option linter.unusedVariables false
set_option maxRecDepth 100000
set_option maxHeartbeats 16000000
open Go Go.RowKit
section
attribute [local go_sem] Oper.semAt_some
def Row0(W:vW)(v:vV)(xs:vM):Prop:=∃ g c,v=.slice (some ⟨g,0,none⟩) xs.length c/\g < W.heap.size/\xs.length<=c/\∀ (j:Nat) x,xs[j]?=some x->W.cell? ⟨g,j,none⟩=some (.string x)
theorem Row0.ext{W W':vW}{v:vV}{xs:vM}(h:Row0 W v xs)(e:Ext W W'):Row0 W' v xs:=by
 obtain⟨g,c,m,o,A,E⟩:=h
 exact⟨g,c,m,bJ o e.size,A,fun j x H=>jaa (E j x H) e⟩
theorem Row0.rd{W:vW}{v:vV}{xs:vM}(h:Row0 W v xs):RdS W v xs:=by
 obtain⟨g,c,e,m,o,A⟩:=h
 exact .inr ⟨g,0,c,e,m,o,fun j x E=>by rw[cF];exact A j x E⟩
theorem Row0.of{w W:vW}{v:vV}{n:Nat}{xs:vM}(h:SRow w W v n xs)(h0:0 < n):Row0 W v xs:=by
 obtain⟨A,⟨m,E⟩ |⟨g,o,H,m,E,J,Z,h6⟩⟩:=h.own
 ·omega
 ·have K:xs.length=n:=by simpa using A
  have O:=m;subst m
  obtain⟨Q,e,X⟩:=joR (W:=W) (a:=some ⟨g,0,none⟩) h.own h0
  have e:g=Q:=congrArg Addr.block (bN e);subst e
  exact⟨g,o,by rw[K],(dH.1 J).1,by omega,X⟩
theorem jhg{w0 W:vW}{b:Nat}{T:TypeId}(hB:Blk W b (.cells #[] T))(hx:Ext w0 W)(hb:w0.heap.size<=b):ORow T 1 w0 W (.slice (some ⟨b,0,none⟩) 0 0) 0 []:=
 ⟨⟨_,_,rfl⟩,⟨rfl,.inr ⟨b,0,#[],rfl,cD _,hB,bM _,by unfold maxLen;omega,rfl,rfl⟩⟩,hx,fun c m=>by
  have e:some b=some c:=m;obtain rfl:=bN e;exact hb⟩
def upd8(T all:vM):vM:=all.take 1++(all.drop 1).filter fun x => !inB T x
def U8R(w:vW)(T all:vM)(ov iv:vV)(wr:vW):Prop:=∃ i:Nat,1<=i/\i<=all.length/\iv=.int .i64 i/\Ext w wr/\Row0 wr ov (upd8 T (all.take i))
theorem jvN(T all:vM):(upd8 T all).length<=all.length:=by
 unfold upd8
 have:=dE (fun x => !inB T x) (all.drop 1)
 rw[bF,cL];rw[fY]at this;omega
theorem jty{T all:vM}{i:Nat}{t:vB}(h1:1<=i)(ht:all[i]?=some t):upd8 T (all.take (i+1))=upd8 T (all.take i)++if inB T t then []else [t]:=by
 have e:=(bO.1 ht).1;unfold upd8;rw[iL,iL,iG vO,iG h1,cB]
 congr 1
 rw[bS,ht,iE (by rw[cL];omega),gS]
 congr 1
 cases h:inB T t <;> simp[h]
def RU8P(w:vW)(T:vM)(l:vL)(cs:List Chg)(e:Ending)(w':vW):Prop:=Ext w w'/\if jaY l cs=0 then ∃ r,e=.returned (.tuple #[r,.int .i64 0])/\Row0 w' r (upd8 T (jaU (jaB (jaF (jb2 (jbX l cs))))))else e=.returned (.tuple #[.slice none 0 0,.int .i64 (jaY l cs)])
theorem RU8P.bad{w w':vW}{T:vM}{l:vL}{cs:List Chg}{x:Int}(h:jaY l cs=x)(h0:x≠0)(he:Ext w w'):RU8P w T l cs (.returned (.tuple #[.slice none 0 0,.int .i64 x])) w':=by
 unfold RU8P;rw[h,if_neg h0];exact⟨he,rfl⟩
theorem RU8P.go{w w':vW}{T all:vM}{l:vL}{cs:List Chg}{r:vV}(h:jaY l cs=0)(ha:all=jaU (jaB (jaF (jb2 (jbX l cs)))))(hr:Row0 w' r (upd8 T all))(he:Ext w w'):RU8P w T l cs (.returned (.tuple #[r,.int .i64 0])) w':=by
 subst ha;unfold RU8P;rw[if_pos h];exact⟨he,r,rfl,hr⟩
theorem jxQ(w:vW)(v u tv:vV)(l:vL)(cs:List Chg)(T:vM)(hv:RdP w v l)(hu:RdC w u cs)(ht:RdS w tv T)(hn:l.length<=45)(hnc:cs.length<=45)(hs:jdH l)(hsc:jjo cs)(hT:T.length<=1000000)(c6:jaY l cs=0->jaD (jb2 (jbX l cs))=0) :
  vQ 16 #[v,u,tv] w (RU8P w T l cs):=by
 have f8:=Hd (joY w v u l cs hv hu hn hnc hs hsc);have f0:=Hd c6;have f9:=Hd ht;have g0:=Hd hT
 obtain⟨a0,c0,rfl⟩:=hv.sl
 obtain⟨a1,c1,rfl⟩:=hu.sl
 obtain⟨a2,c2,a6,_⟩:=ht.slice
 subst a6;clear hv hu ht hs hsc hT c6;go_enter Tryz.func16,Tryz.ntmps16;go_wp2_with fail
 refine f8.o.mono ?_;rintro e w1 ⟨hE,hA⟩;have f1:=Hd hE
 by_cases h0:jaY l cs=0
 case neg =>
  rw[if_neg h0]at hA;subst hA
  obtain⟨x,hx⟩:=vE (jaY l cs)
  have HX:=Hd hx;rw[<-hx]at h0 ⊢;have h6:(x != 0)=true:=by simpa using h0
  have HB:=Hd (RU8P.bad (T:=T) HX.o.symm h0 f1.o);clear h0 hx hE;go_wp2_with fail
  go_ret2;exact HB.o
 rw[if_pos h0]at hA
 obtain⟨r,rfl,hR⟩:=hA
 have c6:=f0.o h0
 obtain⟨m,hm⟩:=vE (jb2 (jbX l cs))
 rw[<-hm]at hR c6
 obtain⟨a3,c3,rfl⟩:=hR.sl;have HR:=Hd hR;have HC:=Hd c6;have H0:=Hd h0;have HM:=Hd hm;clear hR c6 hm hE h0 f0;go_wp2_with fail
 refine (jms w1 _ m HR.o HC.o).mono ?_;rintro e w2 ⟨u2,n2,rfl,hU⟩;have d7:0 < (jaU (jaB (jaF m))).length/\(jaU (jaB (jaF m))).length<=1000000:=by
  have h1:=jh4 (jaG HC.o);have h2:=(jaG HC.o).len;have h3:=jj6 (jaB (jaF m)) [];rw[dD]at h3;have h4:(jaF m).text∈jaU (jaB (jaF m)):=(jbb _ _).2 (jc2 _)
  refine⟨List.length_pos_of_mem h4,?_⟩
  unfold jaU;omega
 obtain⟨E,b6⟩:=vE (jaU (jaB (jaF m)))
 rw[<-b6]at hU d7;have e9:=Hd (show E=jaU (jaB (jaF (jb2 (jbX l cs)))) by rw[b6,HM.o]);have g1:n2=E.length:=by have:=hU.own.1;simp at this;omega
 subst g1;have f2:=Hd (f1.o.trans hU.ext);have g2:=Hd (Row0.of hU d7.1)
 obtain⟨g,cp,a6,hg,f3,b2⟩:=g2.o
 subst a6;have f4:=Hd b2;have h7:=Hd f3;have e2:=Hd d7;have HG:=Hd hg;have i1:(1:Int)<=(E.length:Int):=vO
 have i2:(1:Int)<=(cp:Int):=vO
 have i3:(E.length:Int)<=1000000:=vO
 clear b6 hU d7 hg b2 f3;go_wp2_with fail
 have g3:=Hd (f9.o.ext f2.o);go_loopw [11,12] (fun ov iv wr=>U8R w2 T E ov iv wr) (fun _ iv _=>E.length - (intOf iv).toNat)
 case atStart =>
  refine⟨1,bM _,by have:=e2.o.1;omega,rfl,ExtR w2,?_⟩
  have h1:upd8 T (E.take 1)=E.take 1:=by
   unfold upd8;rw[iL,List.drop_take];simp
  have h2:(E.take 1).length=1:=by rw[cL];have:=e2.o.1;omega
  rw[h1]
  refine⟨g,cp,by rw[h2],HG.o,by rw[h2];omega,fun j x hx=>f4.o j x ?_⟩
  rw[List.getElem?_take]at hx;split at hx
  ·exact hx
  ·cases hx
 case round =>
  obtain⟨i,g4,hi,rfl,hE,hO⟩:=hrel
  have HE:=Hd hE;have HO:=Hd hO
  obtain⟨go,co,a6,c8,d8,J⟩:=hO
  subst a6
  by_cases hlt:i < E.length
  ·have b1:(i:Int) < (E.length:Int):=vO
   obtain⟨t,ht⟩:∃ t,E[i]?=some t:=⟨_,bA hlt⟩
   have q1:=jaa (f4.o i t ht) hE;have d9:=Hd (jty (T:=T) g4 ht);clear hE c8 d8 J ht;go_wp2_with fail
   refine vC (in_c wr _ T t (g3.o.ext HE.o) g0.o) fun w3 hE=>?_;have d0:=Hd (HE.o.trans hE);have e4:=Hd (HO.o.ext hE);have q1:=jaa q1 hE;clear hE;cases hb:inB T t with
   | true =>
    rw[hb]at d9;have HN:=Hd (show upd8 T (E.take (i+1))=upd8 T (E.take i) by rw[d9.o];simp);clear hb;go_wp2_with fail
    go_roundw
    case rel=>exact⟨i+1,by omega,by omega,by go_num,d0.o,by rw[HN.o];exact e4.o⟩
    case measure=>exact vJ
   | false =>
    rw[hb]at d9;have HN:=Hd (show upd8 T (E.take (i+1))=upd8 T (E.take i)++[t] by rw[d9.o];simp);clear hb;go_wp2_with fail
    have g5:=Hd q1;have g6:Hid (g < w3.heap.size):=bJ HG.o d0.o.size
    obtain⟨xs,e5⟩:=vE (upd8 T (E.take i))
    rw[<-e5]at e4 HN ⊢;have f5:xs.length<=1000000:=by
     rw[e5];have h1:=jvN T (E.take i);rw[cL]at h1
     have:=e2.o.2
     omega
    have O:=Hd f5
    obtain⟨g7,h8,a6,c8,d8,J⟩:=e4.o
    obtain⟨e1,_,e3⟩:=cT a6
    have e1:go=g7:=congrArg Addr.block (bN e1);subst e1 e3;have f6:=Hd (bB c8 (show ∀ (j:Nat) u,(xs.map Value.string)[j]?=some u->w3.cell? ((⟨go,0,none⟩:Addr).add j)=some u from fun j u hu=>by
     rw[bV]at hu
     obtain⟨x,hx,rfl⟩:=dR.1 hu
     rw[Addr.add_lit,cF];exact J j x hx))
    have b7:=Hd (show ∀ W,jae (fun b=>w3.heap.size<=b) w3 W->∀ (j:Nat) u,(xs.map Value.string)[j]?=some u->W.cell? ((⟨go,0,none⟩:Addr).add j)=some u from fun W k j u hu=>by
     have h:=f6.o.2 j u hu;rw[Addr.add_lit]at h ⊢;exact jan h k (Nat.not_le.2 f6.o.1))
    have e6:Hid (∀ u∈xs.map Value.string,u.oneCell'=true):=(fun u hu=>by obtain⟨x,_,rfl⟩:=bI.1 hu;rfl);clear q1 c8 d8 J a6 e5 f5;refine jjn 10 [0,2,7,8] Ext (jae (fun b=>w3.heap.size<=b)) ExtR ExtT (fun x y z h k=>jae.trans h k) (fun x y h=>h.mono (fun _ _ h=>h.elim)) vY vY vY ?_;refine jgr 1 _ rfl vY rfl rfl (fun K H=>?_);go_big_quiet_op;refine H _ ?_;clear H K;refine jgr 3 _ rfl vY rfl rfl (fun K H=>?_);go_big_quiet_op;refine H _ ?_;clear H K;refine jgr 4 _ rfl vY rfl rfl (fun K H=>?_);go_big_quiet_op;refine H _ ?_;clear H K;refine jgr 5 _ rfl vY rfl rfl (fun K H=>?_);go_big_quiet_op;refine H _ ?_;clear H K;refine jsq 6 ⟨g,i,none⟩ (.string t) rfl vY rfl rfl (fun w2 h2=>jab Tryz.uStr rfl (jan (jaa g5.o (jai _)) h2 (Nat.not_le.2 g6.o))) ?_;refine vS ?_;refine joL 0 7 _ _ vY rfl rfl rfl rfl (fun w4 A K H=>?_) (fun w4 A K H=>?_)
    ·have b3:=Hd (show Ext w3 w4 from(jai _).trans A)
     clear A;go_simp;refine H _ _ ((jae.refl _ w4).alloc _) ?_;clear H K
     obtain⟨be,X⟩:=vE w4.heap.size
     have d1:=Hd (show Blk (w4.alloc (.cells #[] 9)) be (.cells #[] 9) by rw[X];exact Blk.new w4 _);have Z:=Hd (b3.o.trans ((ExtR w4).alloc (.cells #[] 9)));have e0:=Hd (show w3.heap.size<=be by rw[X];exact b3.o.size)
     obtain⟨w5,d2⟩:=vE (w4.alloc (.cells #[] 9))
     rw[<-d2]at d1 Z ⊢;rw[<-X];clear d2 X;refine joL 2 7 _ _ vY rfl rfl rfl rfl (fun w6 A K H=>?_) (fun w6 A K H=>?_)
     ·have Q:=jhg (w0:=w3) (d1.o.keeps A (fun h=>h)) (Z.o.trans A) e0.o
      have a7:=Hd (Z.o.trans A);refine jd1 Tryz.sStrs Q (.tmp 39) (.tmp 40) rfl rfl (b7.o _ (a7.o.mono fun _ _ h=>h.elim)) e6.o (by rw[bU,iC]) rfl (by have:=O.o;unfold maxLen;omega) (by have:=O.o;omega) (fun v7 w7 r1 r2 r3=>H _ _ (r2.mono fun x _ e=>Q.new x e) ?_);clear H K;refine vS ?_;have d3:=Hd (show ORow 9 1 w3 w7 v7 xs.length (xs.map Value.string) by have h:=r1;rw[cF,cM]at h;exact h);clear Q A r1 r2 r3 d1 Z b3 a7;refine jdk [7,8,9] _ _ _ ?_;refine qDH _ rfl (fun w8 A K H=>?_);have g8:=Hd (d3.o.mono (A.trans ((ExtR w8).alloc (.cells #[.string t] 9))));clear A;go_simp;refine H _ _ ((jae.refl _ w8).alloc _) ?_;clear H K;refine qDH _ rfl (fun w9 A K H=>?_);have f7:=g8.o.mono A;refine jd1 Tryz.sStrs f7 (.tmp 41) (.tmp 46) rfl rfl (jaH ((Blk.new w8 (.cells #[.string t] 9)).keeps A (fun h=>h))) (news:=[.string t]) (by intro u hu;simp at hu;rw[hu];rfl) rfl rfl (by have:=O.o;unfold maxLen;omega) (by have:=O.o;omega) (fun v9 h9 r1 r2 r3=>H _ _ (r2.mono fun x _ e=>f7.new x e) ?_);clear H K;refine vS ?_;refine vD ?_;refine qDE (fun d4 A=>?_)
      obtain⟨a9,c9,rfl⟩:=r1.sl
      have HF:=Hd (show SRow w3 d4 (.slice a9 (xs.length+1) c9) (xs.length+1) (xs++[t]) by unfold SRow;rw[bZ];exact ORow.mono r1 A);clear r1 r2 r3 A;go_wp2_with fail
      have a8:(xs++[t]).length=xs.length+1:=by simp
      rw[<-a8];go_roundw
      case rel=>exact⟨i+1,by omega,by omega,by go_num,d0.o.trans HF.o.ext,by rw[HN.o,a8];exact Row0.of HF.o (Nat.succ_pos _)⟩
      case measure=>exact vJ
     ·have c7:=Hd (Z.o.trans A)
      have b8:=Hd (d1.o.keeps A (fun h=>h));clear A d1 Z b3;go_simp;refine H _ _ ((jae.refl _ w6).alloc _) ?_;clear H K
      obtain⟨bt,b0⟩:=vE w6.heap.size
      have b4:=Hd (show Blk (w6.alloc (.cells #[.string t] 9)) bt (.cells [Value.string t].toArray 9) by rw[b0];exact Blk.new w6 _);have a5:=Hd (c7.o.trans ((ExtR w6).alloc (.cells #[.string t] 9)));have b5:=Hd (b8.o.keeps ((ExtR w6).alloc (.cells #[.string t] 9)) (fun h=>h));have e7:=Hd (show bt≠be by rw[b0];have:=b8.o.lt;omega)
      obtain⟨wa,d5⟩:=vE (w6.alloc (.cells #[.string t] 9))
      rw[<-d5]at b4 a5 b5 ⊢;rw[<-b0];clear d5 b0 c7 b8;refine jdk [2,8,9] _ _ _ ?_;refine qDH _ rfl (fun wb A K H=>?_);have Q:=jhg (w0:=w3) (b5.o.keeps A (fun h=>h)) (a5.o.trans A) e0.o;have a7:=Hd (a5.o.trans A);have a4:=Hd (b4.o.keeps A (fun h=>h));refine jd1 Tryz.sStrs Q (.tmp 39) (.tmp 40) rfl rfl (b7.o _ (a7.o.mono fun _ _ h=>h.elim)) e6.o (by rw[bU,iC]) rfl (by have:=O.o;unfold maxLen;omega) (by have:=O.o;omega) (fun v7 w7 r1 r2 r3=>H _ _ (r2.mono fun x _ e=>Q.new x e) ?_);clear H K;refine vS ?_;have d3:=Hd (show ORow 9 1 w3 w7 v7 xs.length (xs.map Value.string) by have h:=r1;rw[cF,cM]at h;exact h);have b9:=Hd (a4.o.keeps r2 (fun e=>by
       have e:some be=some bt:=e;exact e7.o (bN e).symm))
      clear Q A r1 r2 r3 b5 a5 a7 b4 a4;refine qDH _ rfl (fun w8 A K H=>?_);have d6:=d3.o.mono A;have e8:=b9.o.keeps A (fun h=>h);refine jd1 Tryz.sStrs d6 (.tmp 41) (.tmp 46) rfl rfl (jaH e8) (news:=[.string t]) (by intro u hu;simp at hu;rw[hu];rfl) rfl rfl (by have:=O.o;unfold maxLen;omega) (by have:=O.o;omega) (fun v9 w9 r1 r2 r3=>H _ _ (r2.mono fun x _ e=>d6.new x e) ?_);clear H K;refine vS ?_;refine vD ?_;refine qDE (fun d4 A=>?_)
      obtain⟨a9,c9,rfl⟩:=r1.sl
      have HF:=Hd (show SRow w3 d4 (.slice a9 (xs.length+1) c9) (xs.length+1) (xs++[t]) by unfold SRow;rw[bZ];exact ORow.mono r1 A);clear r1 r2 r3 A;go_wp2_with fail
      have a8:(xs++[t]).length=xs.length+1:=by simp
      rw[<-a8];go_roundw
      case rel=>exact⟨i+1,by omega,by omega,by go_num,d0.o.trans HF.o.ext,by rw[HN.o,a8];exact Row0.of HF.o (Nat.succ_pos _)⟩
      case measure=>exact vJ
    ·have b3:=Hd (show Ext w3 w4 from(jai _).trans A)
     clear A;go_simp;refine H _ _ ((jae.refl _ w4).alloc _) ?_;clear H K
     obtain⟨bt,b0⟩:=vE w4.heap.size
     have c4:=Hd (show Blk (w4.alloc (.cells #[.string t] 9)) bt (.cells [Value.string t].toArray 9) by rw[b0];exact Blk.new w4 _);have Z:=Hd (b3.o.trans ((ExtR w4).alloc (.cells #[.string t] 9)))
     obtain⟨w5,d2⟩:=vE (w4.alloc (.cells #[.string t] 9))
     rw[<-d2]at c4 Z ⊢;rw[<-b0];clear d2 b0 b3;refine jdk [0,2,8,9] _ _ _ ?_;refine qDH _ rfl (fun w6 A K H=>?_);have c7:=Hd (Z.o.trans A);have c5:=Hd (c4.o.keeps A (fun h=>h));clear A c4 Z;go_simp;refine H _ _ ((jae.refl _ w6).alloc _) ?_;clear H K
     obtain⟨be,X⟩:=vE w6.heap.size
     have b5:=Hd (show Blk (w6.alloc (.cells #[] 9)) be (.cells #[] 9) by rw[X];exact Blk.new w6 _);have a5:=Hd (c7.o.trans ((ExtR w6).alloc (.cells #[] 9)));have b4:=Hd (c5.o.keeps ((ExtR w6).alloc (.cells #[] 9)) (fun h=>h));have e7:=Hd (show bt≠be by rw[X];have:=c5.o.lt;omega);have e0:=Hd (show w3.heap.size<=be by rw[X];exact c7.o.size)
     obtain⟨wa,d5⟩:=vE (w6.alloc (.cells #[] 9))
     rw[<-d5]at b4 a5 b5 ⊢;rw[<-X];clear d5 X c7 c5;refine qDH _ rfl (fun wb A K H=>?_);have Q:=jhg (w0:=w3) (b5.o.keeps A (fun h=>h)) (a5.o.trans A) e0.o;have a7:=Hd (a5.o.trans A);have a4:=Hd (b4.o.keeps A (fun h=>h));refine jd1 Tryz.sStrs Q (.tmp 39) (.tmp 40) rfl rfl (b7.o _ (a7.o.mono fun _ _ h=>h.elim)) e6.o (by rw[bU,iC]) rfl (by have:=O.o;unfold maxLen;omega) (by have:=O.o;omega) (fun v7 w7 r1 r2 r3=>H _ _ (r2.mono fun x _ e=>Q.new x e) ?_);clear H K;refine vS ?_;have d3:=Hd (show ORow 9 1 w3 w7 v7 xs.length (xs.map Value.string) by have h:=r1;rw[cF,cM]at h;exact h);have b9:=Hd (a4.o.keeps r2 (fun e=>by
      have e:some be=some bt:=e;exact e7.o (bN e).symm))
     clear Q A r1 r2 r3 b5 a5 a7 b4 a4;refine qDH _ rfl (fun w8 A K H=>?_);have d6:=d3.o.mono A;have e8:=b9.o.keeps A (fun h=>h);refine jd1 Tryz.sStrs d6 (.tmp 41) (.tmp 46) rfl rfl (jaH e8) (news:=[.string t]) (by intro u hu;simp at hu;rw[hu];rfl) rfl rfl (by have:=O.o;unfold maxLen;omega) (by have:=O.o;omega) (fun v9 w9 r1 r2 r3=>H _ _ (r2.mono fun x _ e=>d6.new x e) ?_);clear H K;refine vS ?_;refine vD ?_;refine qDE (fun d4 A=>?_)
     obtain⟨a9,c9,rfl⟩:=r1.sl
     have HF:=Hd (show SRow w3 d4 (.slice a9 (xs.length+1) c9) (xs.length+1) (xs++[t]) by unfold SRow;rw[bZ];exact ORow.mono r1 A);clear r1 r2 r3 A;go_wp2_with fail
     have a8:(xs++[t]).length=xs.length+1:=by simp
     rw[<-a8];go_roundw
     case rel=>exact⟨i+1,by omega,by omega,by go_num,d0.o.trans HF.o.ext,by rw[HN.o,a8];exact Row0.of HF.o (Nat.succ_pos _)⟩
     case measure=>exact vJ
  ·have g9:i=E.length:=vO
   subst g9;have h5:=Hd (show Row0 wr (.slice (some ⟨go,0,none⟩) (upd8 T (E.take E.length)).length co) (upd8 T E) by have h:=HO.o;rw[cE]at h ⊢;exact h);clear c8 d8 J hE;go_wp2_with fail
   go_ret2;exact RU8P.go H0.o e9.o h5.o (f2.o.trans HE.o)
end
theorem jkS{f:Nat}{l:vL}(h:jax f l)(hn:l≠[]):(refB (jac (f+1) l).text).size≠0:=((good f l h).2.1 hn).may.1.pos
theorem jg5(g:Nat->vB){i n:Nat}(h:i < n):((List.range n).map g).getD i ⟨#[]⟩=g i:=by
 rw[bC,bV,dW h];rfl
theorem joh{f:Nat}{l m:vL}(hm:m≠[])(ho:jax f m)(hk:jbo (jac (f+1) m) ⊆ jar (jac (f+1)) l):∀ x∈jaB (jac (f+1) m),32<=x.size->x∈jaB (jac (f+1+1) l):=fun x e A=>by
 have E:jaB (jac (f+1+1) l)=jaO (jao (jac (f+1)) l) :: jaA (jar (jac (f+1)) l):=by
  show jaB (.mk (jaO (jao (jac (f+1)) l)) (jar (jac (f+1)) l))=_;rw[jaB]
 rw[E];have o:=(good f m ho).2.1 hm
 by_cases hs:(jac (f+1) m).text.size < 32
 ·rw[jg4 o hs,cG]at e
  subst e;omega
 ·refine bH _ (jbu.2 ⟨jac (f+1) m,hk ?_,e⟩)
  unfold jbo;rw[if_neg hs];exact cG.2 rfl
def jnS(xs ys:vM):Prop:=∀ x∈xs,∀ y∈ys,shaB x=shaB y->x=y
theorem jmF{f g:Nat}{T U:PT}{n m:jad}(hT:jdW f T n)(hU:jdW g U m)(hr:refB T.text=refB U.text)(H:jnS (jaA (jbo T)) (jaA (jbo U))):T.text=U.text/\jnS (jaB T) (jaB U):=by
 by_cases h1:T.text.size < 32
 ·by_cases h2:U.text.size < 32
  ·rw[jet h1,jet h2]at hr
   refine⟨hr,fun x e y o _=>?_⟩
   rw[jg4 hT h1,cG]at e;rw[jg4 hU h2,cG]at o;rw[e,o,hr]
  ·have:=jvl h2
   rw[<-hr,jet h1]at this;omega
 ·by_cases h2:U.text.size < 32
  ·have:=jvl h1
   rw[hr,jet h2]at this;omega
  ·rw[jgA h1,jgA h2]at hr
   rw[jhR h1,jhR h2]at H
   exact⟨H _ (jc2 T) _ (jc2 U) (jqu (jbA _) (jbA _) hr),H⟩
theorem jkE(B:vL->PT)(l:vL):(jao B l).kind=if l.length=0 then 0 else if l.length=1 then 1 else if 0 < comK l then 2 else 3:=by
 unfold jao;split
 ·rfl
 ·split
  ·rfl
  ·split <;> rfl
theorem jkl(k:Nat):∀ {a b:vL},(∀ p∈a,∀ q∈b,p.l.take k=q.l.take k)->jak k a=jak k b->a=b
 | [],[],_,_=>rfl
 | [],q :: b,_,h=>by simp[jak]at h
 | p :: a,[],_,h=>by simp[jak]at h
 | p :: a,q :: b,h1,h=>by
  unfold jak at h;rw[bT,bT]at h
  obtain⟨m,o⟩:=List.cons.inj h
  have A:p.2=q.2:=(Prod.mk.inj m).2;have E:p.1.extract k p.1.size=q.1.extract k q.1.size:=(Prod.mk.inj m).1;have e:=congrArg (fun b:vB=>b.data.toList) E;simp only[jcP _ _ _ (bM _)]at e;have H:=h1 p bK q bK;have J:p.l=q.l:=by
   rw[<-cQ k p.l, <-cQ k q.l,H];exact congrArg _ e
  rw[jh0 J A,jkl k (fun x K y O=>h1 x (bH _ K) y (bH _ O)) o]
theorem jkz(x:vU)(r:vN):∀ l:vL,look (cutL x.toNat l) (x :: r)=look l (x :: r)
 | []=>rfl
 | p :: l=>by
  have m:=jkz x r l;unfold cutL at *;rw[fZ]
  by_cases hp:jeM x.toNat p=true
  ·rw[if_pos hp,jaN,jaN,m]
  ·rw[if_neg hp,m,jaN,if_neg]
   intro e;exact hp (by unfold jeM;rw[show p.1.data.toList=x :: r from e.symm];simp)
theorem jn9{f:Nat}{l:vL}(h:jax f l){i:Nat}(hi:16<=i):cutL i l=[]:=by
 refine List.eq_nil_iff_forall_not_mem.2 fun p e=>?_
 obtain⟨m,a,r,o,A⟩:=jbB e
 have:=jcR (h.size p m).2.2.1 o
 omega
theorem jgq{a:Pair}{l:vL}(h:(a :: l).Pairwise fun p q=>Lt p.l q.l):look (a :: l) []=if a.1.size=0 then some a.2 else none:=by
 rw[jaN]
 by_cases hz:a.1.size=0
 ·rw[if_pos hz,if_pos]
  exact (bD (show a.1.data.toList.length=0 from hz)).symm
 ·rw[if_neg hz,if_neg]
  ·refine jdj fun m=>?_
   obtain⟨q,o,e⟩:=bI.1 m
   have:=(dY.1 h).1 q o
   rw[show q.l=[]from e]at this;exact not_lt_nil _ this
  ·intro e
   exact hz (by show a.1.data.toList.length=0;rw[show a.1.data.toList=[]from e.symm];rfl)
theorem jjN(B C:vL->PT)(l m:vL)(hn:jao B l=jao C m)(h:l.length<=1\/m.length<=1):l=m:=by
 have e:=congrArg jad.kind hn;rw[jkE,jkE]at e
 by_cases l0:l.length=0
 ·rw[if_pos l0]at e
  have o:m.length=0:=by
   by_cases o:m.length=0
   ·exact o
   ·rw[if_neg o]at e;split at e
    ·cases e
    ·split at e <;> cases e
  rw[bD l0,bD o]
 by_cases o:m.length=0
 ·rw[if_pos o,if_neg l0]at e;split at e
  ·cases e
  ·split at e <;> cases e
 rw[if_neg l0,if_neg o]at e;have E:l.length=1:=by
  by_cases E:l.length=1
  ·exact E
  ·have A:m.length=1:=vO
   rw[if_neg E,if_pos A]at e;split at e <;> cases e
 rw[if_pos E]at e;have A:m.length=1:=by
  by_cases A:m.length=1
  ·exact A
  ·rw[if_neg A]at e;split at e <;> cases e
 have K:jao B l=⟨1,(l.getD 0 pd).1,(l.getD 0 pd).2,jam 16⟩:=by unfold jao;rw[if_neg l0,if_pos E]
 have O:jao C m=⟨1,(m.getD 0 pd).1,(m.getD 0 pd).2,jam 16⟩:=by unfold jao;rw[if_neg o,if_pos A]
 rw[K,O]at hn
 obtain⟨_,H,J,_⟩:=jad.mk.inj hn
 obtain⟨p,rfl⟩:=fL.1 E
 obtain⟨q,rfl⟩:=fL.1 A
 have H:p.1=q.1:=H;have J:p.2=q.2:=J;rw[Prod.ext H J]
theorem jsH(w:vW):∀ (f:Nat) (l m:vL),jax f l->jax f m->jnS (jaB (jac (f+1) l)) (jaB (jac (f+1) m))->(jac (f+1) l).text=(jac (f+1) m).text->l=m:=by
 intro f;induction f with
 | zero =>
  intro l m E H _ ht;exact jjN _ _ l m (jgw w (good 0 l E).1 (good 0 m H).1 ht) (.inl (jbM E))
 | succ f ih =>
  intro l m E H hA ht;have hn:jao (jac (f+1)) l=jao (jac (f+1)) m:=jgw w (good (f+1) l E).1 (good (f+1) m H).1 ht
  by_cases hs:l.length<=1\/m.length<=1
  ·exact jjN _ _ l m hn hs
  have J:=congrArg jad.kind hn;rw[jkE,jkE,if_neg (show ¬ l.length=0 by omega),if_neg (show ¬ l.length=1 by omega),if_neg (show ¬ m.length=0 by omega),if_neg (show ¬ m.length=1 by omega)]at J;have X:2<=l.length:=vO
  have Z:2<=m.length:=vO
  have b0:=jbk E X;have b1:=jbk H Z;have eT:∀ l:vL,jaB (jac (f+1+1) l)=jaO (jao (jac (f+1)) l) :: jaA (jar (jac (f+1)) l):=fun l=>by
   show jaB (.mk (jaO (jao (jac (f+1)) l)) (jar (jac (f+1)) l))=_;rw[jaB]
  rw[eT,eT]at hA;have a1:jnS (jaA (jar (jac (f+1)) l)) (jaA (jar (jac (f+1)) m)):=fun x hx y hy=>hA x (bH _ hx) y (bH _ hy)
  by_cases kl:0 < comK l
  ·rw[if_pos kl]at J
   have K:0 < comK m:=by
    by_cases K:0 < comK m
    ·exact K
    ·rw[if_neg K]at J;cases J
   have a2:∀ {l:vL},jax (f+1) l->2<=l.length->0 < comK l->jax f (jak (comK l) l):=fun {l} h O J=>by
    have Q:=jbk h O;exact (jb8 (comK l) h (fun p hp q hq=>(Q p hp).1.trans (Q q hq).1.symm) (fun p hp=>(Q p hp).2)).mono vO
   have a6:∀ {l:vL},2<=l.length->jak (comK l) l≠[]:=fun {l} O e=>by have:=jaL (comK l) l;rw[e]at this;simp at this;omega
   have eN:∀ {l:vL},2<=l.length->0 < comK l->jao (jac (f+1)) l=⟨2,(l.getD 0 pd).1.extract 0 (comK l),⟨#[]⟩,refB (jac (f+1) (jak (comK l) l)).text :: jam 15⟩:=fun {l} O J=>by
    unfold jao;rw[if_neg vO,if_neg vO,if_pos J]
   have eB:∀ {l:vL},2<=l.length->0 < comK l->jar (jac (f+1)) l=jbo (jac (f+1) (jak (comK l) l)):=fun {l} O J=>by
    unfold jar;rw[if_neg vO,if_pos J]
   rw[eN X kl,eN Z K]at hn;rw[eB X kl,eB Z K]at a1
   obtain⟨_,hp,_,hr⟩:=jad.mk.inj hn
   obtain⟨hr,_⟩:=List.cons.inj hr
   have gm:∀ {l:vL},2<=l.length->l.getD 0 pd∈l:=fun {l} h=>by rw[bC,bA vO];exact cY _
   have a7:∀ {l:vL},jax (f+1) l->2<=l.length->((l.getD 0 pd).1.extract 0 (comK l)).size=comK l:=fun {l} h O=>by
    have:=(jbk h O _ (gm O)).2
    rw[cH];omega
   have a8:comK l=comK m:=by rw[<-a7 E X, <-a7 H Z,hp]
   have a9:∀ {l:vL},(l.getD 0 pd).l.take (comK l)=((l.getD 0 pd).1.extract 0 (comK l)).data.toList:=fun {l}=>by
    rw[cX,fF,dQ];simp
   obtain⟨e1,e2⟩:=jmF ((good f _ (a2 E X kl)).2.1 (a6 X)) ((good f _ (a2 H Z K)).2.1 (a6 Z)) hr a1
   have e3:=ih _ _ (a2 E X kl) (a2 H Z K) e2 e1;rw[<-a8]at e3;refine jkl (comK l) (fun p b2 q hq=>?_) e3;rw[(b0 p b2).1,a9,hp, <-a9, <-(b1 q hq).1,a8]
  ·rw[if_neg kl]at J
   have K:¬ 0 < comK m:=by
    by_cases K:0 < comK m
    ·rw[if_pos K]at J;cases J
    ·exact K
   have eN:∀ {l:vL},2<=l.length->¬ 0 < comK l->jao (jac (f+1)) l=⟨3,⟨#[]⟩,if (l.getD 0 pd).1.size=0 then (l.getD 0 pd).2 else ⟨#[]⟩,(List.range 16).map fun i=>if (cutL i l).length=0 then ⟨#[]⟩else refB (jac (f+1) (jak 1 (cutL i l))).text⟩:=fun {l} O J=>by
    unfold jao;rw[if_neg vO,if_neg vO,if_neg J]
   have eB:∀ {l:vL},2<=l.length->¬ 0 < comK l->jar (jac (f+1)) l=(List.range 16).flatMap fun i=>if (cutL i l).length=0 then []else jbo (jac (f+1) (jak 1 (cutL i l))):=fun {l} O J=>by
    unfold jar;rw[if_neg vO,if_neg J]
   rw[eN X kl,eN Z K]at hn;rw[eB X kl,eB Z K]at a1
   obtain⟨_,_,o,b3⟩:=jad.mk.inj hn
   have a4:∀ {l:vL} {i:Nat},(cutL i l).length≠0->jak 1 (cutL i l)≠[]:=fun {l i} hi e=>by have:=jaL 1 (cutL i l);rw[e]at this;simp at this;omega
   have a3:∀ {l:vL} {i:Nat},jax (f+1) l->(cutL i l).length≠0->jdW f (jac (f+1) (jak 1 (cutL i l))) (jao (jac f) (jak 1 (cutL i l))):=fun {l i} h hi=>(good f _ (jcU i h)).2.1 (a4 hi);have a5:∀ i,cutL i l=cutL i m:=by
    intro i
    by_cases hi:i < 16
    ·have A:=congrArg (fun L:vM=>L[i]?) b3
     simp only[bV,dW hi,gB,Option.some.injEq]at A;have hz:(⟨#[]⟩:vB).size=0:=rfl
     by_cases cl:(cutL i l).length=0
     ·rw[if_pos cl]at A
      by_cases cm:(cutL i m).length=0
      ·rw[bD cl,bD cm]
      ·rw[if_neg cm]at A
       have:=(a3 H cm).may.1.pos
       rw[<-A]at this;exact absurd hz this
     ·rw[if_neg cl]at A
      by_cases cm:(cutL i m).length=0
      ·rw[if_pos cm]at A
       have:=(a3 E cl).may.1.pos
       rw[A]at this;exact absurd hz this
      ·rw[if_neg cm]at A
       have a0:∀ {l:vL},(cutL i l).length≠0->∀ x∈jaA (jbo (jac (f+1) (jak 1 (cutL i l)))),x∈jaA ((List.range 16).flatMap fun i=>if (cutL i l).length=0 then []else jbo (jac (f+1) (jak 1 (cutL i l)))):=fun {l} hc x hx=>by
        obtain⟨T',b4,b5⟩:=jbu.1 hx
        refine jbu.2 ⟨T',fA.2 ⟨i,dZ.2 hi,?_⟩,b5⟩;rw[if_neg hc];exact b4
       obtain⟨e1,e2⟩:=jmF (a3 E cl) (a3 H cm) A (fun x hx y hy=>a1 x (a0 cl x hx) y (a0 cm y hy))
       have e3:=ih _ _ (jcU i E) (jcU i H) e2 e1;refine jkl 1 (fun p hp q hq=>?_) e3
       obtain⟨_,a,r,h1,O⟩:=jbB hp
       obtain⟨_,b,t,h3,h4⟩:=jbB hq
       rw[h1,h3,dM.1 (O.trans h4.symm)];rfl
    ·rw[jn9 E vO,jn9 H vO]
   refine jgC E.rise H.rise fun k=>?_;cases k with
   | cons x r=>rw[<-jkz x r l, <-jkz x r m,a5]
   | nil =>
    match l,m,X,Z,o,E,H with
    | a :: l',b :: m',_,_,o,E,H =>
     rw[jgq E.rise,jgq H.rise];have o:(if a.1.size=0 then a.2 else (⟨#[]⟩:vB))=if b.1.size=0 then b.2 else ⟨#[]⟩:=o
     have sa:=(E.size a bK).2.2.2.1;have sb:=(H.size b bK).2.2.2.1;have hz:(⟨#[]⟩:vB).size=0:=rfl
     by_cases za:a.1.size=0
     ·rw[if_pos za]at o ⊢
      by_cases zb:b.1.size=0
      ·rw[if_pos zb]at o ⊢;rw[o]
      ·rw[if_neg zb]at o;rw[o]at sa;omega
     ·rw[if_neg za]at o ⊢
      by_cases zb:b.1.size=0
      ·rw[if_pos zb]at o;rw[<-o]at sb;omega
      ·rw[if_neg zb]
theorem joV:∀ {a b:vN},jcA a=jcA b->a=b
 | [],[],_=>rfl
 | [],y :: b,h=>by simp[jcA]at h
 | x :: a,[],h=>by simp[jcA]at h
 | x :: a,y :: b,h=>by
  have h:(x >>> 4) ::(x &&& 15) :: jcA a=(y >>> 4) ::(y &&& 15) :: jcA b:=h;injection h with h1 h;injection h with h2 h;have e:=congrArg UInt8.toNat h1;have m:=congrArg UInt8.toNat h2;rw[jl3,jl3]at e;rw[jl4,jl4]at m;rw[joV h,show x=y from dM.1 vO]
def jeQ(n:jad)(p:vB):vB × vB:=
 if n.kind=3 then match p.data.toList with
  | []=>(⟨#[]⟩,p)
  | x :: _=>if (n.refs.getD x.toNat ⟨#[]⟩).size=0 then (⟨#[]⟩,p)else (n.refs.getD x.toNat ⟨#[]⟩,p.extract 1 p.size)
 else if n.kind=2 then if preB n.path p then (n.refs.getD 0 ⟨#[]⟩,p.extract n.path.size p.size)else (⟨#[]⟩,p)
 else (⟨#[]⟩,p)
def jc3(n:jad)(p:vB):Option vB:=
 if n.kind=1 then if n.path=p then some n.value else none
 else if n.kind=3 then if p.size=0/\n.value.size≠0 then some n.value else none
 else none
def valL:vL->vB->Option vB
 | [],_=>none
 | q :: l,p=>if q.1=p then some q.2 else valL l p
def goL(l:vL)(p:vB):Option (vL × vB):=
 if l.length<=1 then none
 else if 0 < comK l then if preB ((l.getD 0 pd).1.extract 0 (comK l)) p then some (jak (comK l) l,p.extract (comK l) p.size)else none
 else match p.data.toList with
  | []=>none
  | x :: _=>if (cutL x.toNat l).length=0 then none else some (jak 1 (cutL x.toNat l),p.extract 1 p.size)
def bigs(t:vB):vM:=if t.size < 32 then []else [t]
def wayL:Nat->vL->vB->vM
 | 0,_,_=>[]
 | f+1,l,p=>match goL l p with
  | none=>[]
  | some (m,q)=>bigs (jac (f+1) m).text++wayL f m q
def sumL:vL->Nat
 | []=>0
 | q :: l=>q.1.size+sumL l
theorem jk5:∀ {l:vL} {p v:vB},valL l p=some v->(p,v)∈l
 | q :: l,p,v,h=>by
  unfold valL at h;split at h
  ·rename_i e
   obtain rfl:=bN h;subst e;exact bK
  ·exact bH _ (jk5 h)
theorem jpm:∀ {l:vL} {p v:vB},(l.Pairwise fun p q=>Lt p.l q.l)->(p,v)∈l->valL l p=some v
 | q :: l,p,v,hl,h=>by
  rw[dY]at hl;unfold valL;rcases bX.1 h with h | h
  ·subst h;rw[if_pos rfl]
  ·rw[if_neg (fun e=>by have:=hl.1 _ h;rw[show q.l=p.data.toList from congrArg (fun x:vB=>x.data.toList) e]at this;exact lt_irrefl _ this),jpm hl.2 h]
theorem jgG{l:vL}{p:vB}(h:∀ q∈l,q.1≠p):valL l p=none:=by
 cases hv:valL l p with
 | none=>rfl
 | some v=>exact absurd rfl (h _ (jk5 hv))
theorem jpn{l m:vL}{p q:vB}(hl:l.Pairwise fun p q=>Lt p.l q.l)(hm:m.Pairwise fun p q=>Lt p.l q.l)(h:∀ v,(p,v)∈l↔(q,v)∈m):valL l p=valL m q:=by
 cases hv:valL l p with
 | some v=>exact (jpm hm ((h v).1 (jk5 hv))).symm
 | none =>
  cases hw:valL m q with
  | none=>rfl
  | some v=>rw[jpm hl ((h v).2 (jk5 hw))]at hv;cases hv
theorem jiU(a p:vB):preB a p=true↔∃ r,p.data.toList=a.data.toList++r:=by
 unfold preB;rw[List.isPrefixOf_iff_prefix]
 exact⟨fun ⟨r,h⟩=>⟨r,h.symm⟩,fun ⟨r,h⟩=>⟨r,h.symm⟩⟩
theorem jdL(b:vB)(k:Nat):(b.extract k b.size).data.toList=b.data.toList.drop k:=jcP b k b.size (bM _)
theorem jaI(b:vB):b.data.toList.length=b.size:=rfl
theorem jpd(k:Nat):∀ l:vL,sumL (jak k l)<=sumL l
 | []=>bM _
 | q :: l=>by
  have:=jpd k l
  show (q.1.extract k q.1.size).size+sumL (jak k l)<=q.1.size+sumL l;rw[jaX];omega
theorem jjb{k:Nat}(hk:0 < k):∀ {l:vL},l≠[]->(∀ q∈l,k<=q.1.size)->sumL (jak k l) < sumL l
 | q :: l,_,h=>by
  have:=jpd k l
  have:=h q bK
  show (q.1.extract k q.1.size).size+sumL (jak k l) < q.1.size+sumL l;rw[jaX];omega
theorem jj0(g:Pair->Bool):∀ l:vL,sumL (l.filter g)<=sumL l
 | []=>bM _
 | q :: l=>by
  have:=jj0 g l
  rw[fZ];show _<=q.1.size+sumL l;split
  ·show q.1.size+sumL _<=_;omega
  ·omega
structure KidP(f:Nat)(l:vL)(p:vB)(m:vL)(q:vB):Prop where
 rows:jax f m
 ne:m≠[]
 step:jeQ (jao (jac (f+1)) l) p=(refB (jac (f+1) m).text,q)
 less:q.size < p.size
 valid:jaz q=true
 flat:∀ x∈jaB (jac (f+1) m),32<=x.size->x∈jaB (jac (f+1+1) l)
 find:valL m q=valL l p
 sum:sumL m < sumL l
 no:jc3 (jao (jac (f+1)) l) p=none
theorem jdt{l:vL}(h:0 < l.length):l.getD 0 pd∈l:=by rw[bC,bA h];exact cY _
theorem jgn{l:vL}:((l.getD 0 pd).1.extract 0 (comK l)).data.toList=(l.getD 0 pd).l.take (comK l):=by
 rw[cX,fF,dQ];simp
theorem jdO{f:Nat}{l:vL}(h:jax f l)(h2:2<=l.length):((l.getD 0 pd).1.extract 0 (comK l)).size=comK l:=by
 have:=(jbk h h2 _ (jdt vO)).2
 rw[cH];omega
theorem jiB{f:Nat}{l:vL}{p:vB}{m:vL}{q:vB}(h:jax (f+1) l)(J:jaz p=true)(o:goL l p=some (m,q)):KidP f l p m q:=by
 unfold goL at o
 by_cases h1:l.length<=1
 ·rw[if_pos h1]at o;cases o
 rw[if_neg h1]at o;have K:2<=l.length:=vO
 have A:=jbk h K
 by_cases hk:0 < comK l
 ·rw[if_pos hk]at o
  by_cases hpre:preB ((l.getD 0 pd).1.extract 0 (comK l)) p=true
  case neg=>rw[if_neg hpre]at o;cases o
  rw[if_pos hpre]at o
  obtain⟨rfl,rfl⟩:=Prod.mk.inj (bN o)
  have E:jax f (jak (comK l) l):=(jb8 (comK l) h (fun p J q X=>(A p J).1.trans (A q X).1.symm) (fun p J=>(A p J).2)).mono vO;have H:jak (comK l) l≠[]:=fun e=>by have:=jaL (comK l) l;rw[e]at this;simp at this;omega
  have eB:jar (jac (f+1)) l=jbo (jac (f+1) (jak (comK l) l)):=by unfold jar;rw[if_neg vO,if_pos hk]
  have Z:jao (jac (f+1)) l=⟨2,(l.getD 0 pd).1.extract 0 (comK l),⟨#[]⟩,refB (jac (f+1) (jak (comK l) l)).text :: jam 15⟩:=by unfold jao;rw[if_neg vO,if_neg vO,if_pos hk]
  obtain⟨r,hr⟩:=(jiU _ _).1 hpre
  have a4:comK l<=p.size:=by
   rw[<-jaI p,hr,bF,jaI,jdO h K];omega
  refine⟨E,H,?_,by rw[jaX];omega,jbi J _ _,joh H E (by rw[eB];exact fun _ hh=>hh),?_,jjb hk (fun e=>by rw[e]at K;simp at K) (fun q X=>(A q X).2),by rw[Z];rfl⟩
  ·rw[Z]
   unfold jeQ;rw[if_neg (show ¬(2:Nat)=3 by decide),if_pos rfl,if_pos hpre];show (_,p.extract ((l.getD 0 pd).1.extract 0 (comK l)).size p.size)=_;rw[jdO h K];rfl
  ·refine jpn E.rise h.rise fun v=>⟨fun O=>?_,fun O=>?_⟩
   ·obtain⟨x,hx,e⟩:=bI.1 O
    obtain⟨e1,e2⟩:=Prod.mk.inj e
    have:x=(p,v):=by
     refine Prod.ext (jbE ?_) e2;have e3:x.1.data.toList.drop (comK l)=p.data.toList.drop (comK l):=by rw[<-jdL,e1,jdL]
     have e4:x.1.data.toList.take (comK l)=p.data.toList.take (comK l):=by
      rw[show x.1.data.toList=x.l from rfl,(A x hx).1, <-jgn,hr,List.take_append_of_le_length (by rw[jaI,jdO h K];exact bM _),bQ (by rw[jaI,jdO h K];exact bM _)]
     show x.1.data.toList=p.data.toList;rw[<-cQ (comK l) x.1.data.toList,e3,e4,cQ]
    rw[<-this];exact hx
   ·exact bI.2 ⟨_,O,rfl⟩
 ·rw[if_neg hk]at o
  cases hpl:p.data.toList with
  | nil=>rw[hpl]at o;cases o
  | cons x r =>
   rw[hpl]at o
   by_cases hc:(cutL x.toNat l).length=0
   ·have o:(if (cutL x.toNat l).length=0 then none else some (jak 1 (cutL x.toNat l),p.extract 1 p.size))=some (m,q):=o
    rw[if_pos hc]at o;cases o
   have o:(if (cutL x.toNat l).length=0 then none else some (jak 1 (cutL x.toNat l),p.extract 1 p.size))=some (m,q):=o;rw[if_neg hc]at o
   obtain⟨rfl,rfl⟩:=Prod.mk.inj (bN o)
   have E:jax f (jak 1 (cutL x.toNat l)):=jcU x.toNat h;have H:jak 1 (cutL x.toNat l)≠[]:=fun e=>by have:=jaL 1 (cutL x.toNat l);rw[e]at this;simp at this;exact hc this.symm
   have hx:x.toNat < 16:=jcR (p:=(p,p)) J hpl;have eB:jar (jac (f+1)) l=(List.range 16).flatMap fun i=>if (cutL i l).length=0 then []else jbo (jac (f+1) (jak 1 (cutL i l))):=by unfold jar;rw[if_neg vO,if_neg hk]
   obtain⟨rs,Q⟩:=vE ((List.range 16).map fun i=>if (cutL i l).length=0 then (⟨#[]⟩:vB)else refB (jac (f+1) (jak 1 (cutL i l))).text)
   obtain⟨va,a3⟩:=vE (if (l.getD 0 pd).1.size=0 then (l.getD 0 pd).2 else ⟨#[]⟩)
   have Z:jao (jac (f+1)) l=⟨3,⟨#[]⟩,va,rs⟩:=by rw[Q,a3];unfold jao;rw[if_neg vO,if_neg vO,if_neg hk]
   have a0:rs.getD x.toNat ⟨#[]⟩=refB (jac (f+1) (jak 1 (cutL x.toNat l))).text:=by rw[Q,jg5 _ hx,if_neg hc]
   clear Q a3;have a4:1<=p.size:=by rw[<-jaI p,hpl];simp
   have a1:∀ q∈cutL x.toNat l,1<=q.1.size:=fun q X=>by
    obtain⟨_,a,r,e,_⟩:=jbB X
    rw[<-jaI,show q.1.data.toList=a :: r from e];simp
   have a2:sumL (jak 1 (cutL x.toNat l)) < sumL l:=bJ (jjb (iY) (fun e=>hc (by rw[e];rfl)) a1) (jj0 _ _)
   refine⟨E,H,?_,by rw[jaX];omega,jbi J _ _,joh H E (fun y hy=>?_),?_,a2,?_⟩
   ·rw[Z]
    unfold jeQ;rw[if_pos rfl,hpl];show (if (rs.getD x.toNat ⟨#[]⟩).size=0 then _ else (rs.getD x.toNat ⟨#[]⟩,_))=_;rw[a0,if_neg (jkS E H)]
   ·rw[eB]
    exact fA.2 ⟨x.toNat,dZ.2 hx,by rw[if_neg hc];exact hy⟩
   ·refine jpn E.rise h.rise fun v=>⟨fun O=>?_,fun O=>?_⟩
    ·obtain⟨y,hy,e⟩:=bI.1 O
     obtain⟨a5,a,r',e3,e4⟩:=jbB hy
     obtain⟨e1,e2⟩:=Prod.mk.inj e
     have:y=(p,v):=by
      refine Prod.ext (jbE ?_) e2;have e5:y.1.data.toList.drop 1=p.data.toList.drop 1:=by rw[<-jdL,e1,jdL]
      have e3:y.1.data.toList=a :: r':=e3;show y.1.data.toList=p.data.toList;rw[e3,hpl]at e5 ⊢;simp at e5;rw[e5,dM.1 e4]
     rw[<-this];exact a5
    ·refine bI.2 ⟨(p,v),?_,rfl⟩
     refine cU.2 ⟨O,?_⟩;unfold jeM;show (match p.data.toList with | []=>false | a :: _=>a.toNat == x.toNat)=true;rw[hpl];simp
   ·rw[Z]
    unfold jc3;rw[if_neg (show ¬(3:Nat)=1 by decide),if_pos rfl,if_neg (fun e=>by have:=e.1;omega)]
theorem jiA{f:Nat}{l:vL}{p:vB}(h:jax f l)(hp:jaz p=true)(m:goL l p=none):jeQ (jao (jac f) l) p=(⟨#[]⟩,p)/\jc3 (jao (jac f) l) p=valL l p:=by
 by_cases h0:l.length=0
 ·have e:jao (jac f) l=jav:=by unfold jao;rw[if_pos h0]
  rw[e,bD h0]
  exact⟨rfl,rfl⟩
 by_cases h1:l.length=1
 ·have e:jao (jac f) l=⟨1,(l.getD 0 pd).1,(l.getD 0 pd).2,jam 16⟩:=by unfold jao;rw[if_neg h0,if_pos h1]
  rw[e]
  obtain⟨q,rfl⟩:=fL.1 h1
  exact⟨rfl,by unfold jc3 valL valL;rfl⟩
 have h2:2<=l.length:=vO
 have J:=jbk h h2;unfold goL at m;rw[if_neg vO]at m
 by_cases hk:0 < comK l
 ·rw[if_pos hk]at m
  have e:jao (jac f) l=⟨2,(l.getD 0 pd).1.extract 0 (comK l),⟨#[]⟩,refB (jac f (jak (comK l) l)).text :: jam 15⟩:=by unfold jao;rw[if_neg h0,if_neg h1,if_pos hk]
  have o:¬ preB ((l.getD 0 pd).1.extract 0 (comK l)) p=true:=fun hh=>by rw[if_pos hh]at m;cases m
  rw[e]
  refine⟨?_,?_⟩
  ·unfold jeQ
   rw[if_neg (show ¬(2:Nat)=3 by decide),if_pos rfl,if_neg o]
  ·refine (Eq.trans ?_ (jgG fun q K e=>?_).symm)
   ·rfl
   ·refine o ((jiU _ _).2 ⟨p.data.toList.drop (comK l),?_⟩)
    rw[jgn, <-(J q K).1,show q.l=p.data.toList from congrArg (fun x:vB=>x.data.toList) e,cQ]
 ·rw[if_neg hk]at m
  obtain⟨Z,A⟩:=vE ((List.range 16).map fun i=>if (cutL i l).length=0 then (⟨#[]⟩:vB)else refB (jac f (jak 1 (cutL i l))).text)
  have e:jao (jac f) l=⟨3,⟨#[]⟩,if (l.getD 0 pd).1.size=0 then (l.getD 0 pd).2 else ⟨#[]⟩,Z⟩:=by rw[A];unfold jao;rw[if_neg h0,if_neg h1,if_neg hk]
  have O:∀ i,i < 16->(cutL i l).length=0->Z.getD i ⟨#[]⟩=⟨#[]⟩:=fun i X E=>by rw[A,jg5 _ X,if_pos E]
  clear A;rw[e];cases hpl:p.data.toList with
  | nil =>
   have H:p.size=0:=by rw[<-jaI p,hpl];rfl
   refine⟨?_,?_⟩
   ·unfold jeQ
    rw[if_pos rfl,hpl]
   ·unfold jc3
    rw[if_neg (show ¬(3:Nat)=1 by decide),if_pos rfl];have a1:p=⟨#[]⟩:=jbE (by rw[hpl]);have hm:=jdt (l:=l) vO
    obtain⟨_,_,_,s4,_⟩:=h.size _ hm
    by_cases hz:(l.getD 0 pd).1.size=0
    ·simp only[hz,if_true]
     rw[if_pos ⟨H,by omega⟩];refine (jpm h.rise ?_).symm;have a0:(l.getD 0 pd).1.data.toList=[]:=bD hz
     have:(p,(l.getD 0 pd).2)=l.getD 0 pd:=Prod.ext (by
      show p=(l.getD 0 pd).1;exact jbE (by rw[hpl,a0])) rfl
     rw[this];exact hm
    ·simp only[if_neg hz]
     rw[if_neg (fun e=>e.2 rfl)];refine (jgG fun q K e=>?_).symm
     obtain⟨i,X⟩:=gK K
     cases i with
     | zero =>
      have:l.getD 0 pd=q:=by rw[bC,X];rfl
      rw[this,e]at hz;exact hz H
     | succ i =>
      obtain⟨a,ha⟩:∃ a,l[0]?=some a:=⟨_,bA vO⟩
      have:=jb9 h.rise vO ha X
      rw[show q.l=[]from(congrArg (fun x:vB=>x.data.toList) e).trans hpl]at this;exact not_lt_nil _ this
  | cons x r =>
   rw[hpl]at m;have m:(if (cutL x.toNat l).length=0 then none else some (jak 1 (cutL x.toNat l),p.extract 1 p.size))=none:=m;have E:(cutL x.toNat l).length=0:=by
    by_cases E:(cutL x.toNat l).length=0
    ·exact E
    ·rw[if_neg E]at m;cases m
   have hx:x.toNat < 16:=jcR (p:=(p,p)) hp hpl;have H:1<=p.size:=by rw[<-jaI p,hpl];simp
   refine⟨?_,?_⟩
   ·unfold jeQ
    rw[if_pos rfl,hpl];show (if (Z.getD x.toNat ⟨#[]⟩).size=0 then _ else _)=_;rw[O _ hx E,if_pos (show (⟨#[]⟩:vB).size=0 from rfl)]
   ·unfold jc3
    rw[if_neg (show ¬(3:Nat)=1 by decide),if_pos rfl,if_neg (fun e=>by have:=e.1;omega)];refine (jgG fun q K e=>?_).symm;have Q:q∈cutL x.toNat l:=cU.2 ⟨K,by
     unfold jeM;rw[show q.1.data.toList=x :: r from(congrArg (fun x:vB=>x.data.toList) e).trans hpl];simp⟩
    rw[bD E]at Q;cases Q
theorem jpC:∀ (f g:Nat) (l:vL),jax f l->f<=g->jao (jac f) l=jao (jac g) l/\jac (f+1) l=jac (g+1) l:=by
 have A:∀ (f g:Nat) (l:vL),jao (jac f) l=jao (jac g) l->jar (jac f) l=jar (jac g) l->jao (jac f) l=jao (jac g) l/\jac (f+1) l=jac (g+1) l:=fun f g l o E=>⟨o,by
  show PT.mk (jaO (jao (jac f) l)) (jar (jac f) l)=PT.mk (jaO (jao (jac g) l)) (jar (jac g) l);rw[o,E]⟩
 intro f;induction f with
 | zero =>
  intro g l h O;have o:=jbM h;refine A _ _ _ ?_ ?_
  ·unfold jao
   by_cases h0:l.length=0
   ·rw[if_pos h0,if_pos h0]
   ·rw[if_neg h0,if_neg h0,if_pos vO,if_pos vO]
  ·unfold jar;rw[if_pos o,if_pos o]
 | succ f ih =>
  intro g l h O
  obtain⟨g,rfl⟩:∃ k,g=k+1:=⟨g - 1,by omega⟩
  by_cases o:l.length<=1
  ·refine A _ _ _ ?_ ?_
   ·unfold jao
    by_cases h0:l.length=0
    ·rw[if_pos h0,if_pos h0]
    ·rw[if_neg h0,if_neg h0,if_pos vO,if_pos vO]
   ·unfold jar;rw[if_pos o,if_pos o]
  have E:2<=l.length:=vO
  have m:=jbk h E;have J:0 < comK l->jac (f+1) (jak (comK l) l)=jac (g+1) (jak (comK l) l):=fun e =>
   (ih g _ ((jb8 (comK l) h (fun p H q Q=>(m p H).1.trans (m q Q).1.symm) (fun p H=>(m p H).2)).mono vO) vO).2
  have K:∀ i,jac (f+1) (jak 1 (cutL i l))=jac (g+1) (jak 1 (cutL i l)):=fun i=>(ih g _ (jcU i h) vO).2;refine A _ _ _ ?_ ?_
  ·have X:¬ l.length=0:=vO
   have Z:¬ l.length=1:=vO
   unfold jao;simp only[if_neg X,if_neg Z]
   by_cases e:0 < comK l
   ·rw[if_pos e,if_pos e,J e]
   ·rw[if_neg e,if_neg e]
    simp only[K]
  ·unfold jar
   simp only[if_neg o]
   by_cases e:0 < comK l
   ·rw[if_pos e,if_pos e,J e]
   ·rw[if_neg e,if_neg e]
    simp only[K]
theorem jhH(t:vB):(bigs t).length<=1:=by unfold bigs;split <;> simp
theorem jpq{f:Nat}{l:vL}{p:vB}(hg:goL l p=none):wayL (f+1) l p=[]:=by rw[wayL,hg]
theorem jpr{f:Nat}{l m:vL}{p q:vB}(hg:goL l p=some (m,q)):wayL (f+1) l p=bigs (jac (f+1) m).text++wayL f m q:=by rw[wayL,hg]
theorem jps{l:vL}{p:vB}(h:jax 0 l):goL l p=none:=by unfold goL;rw[if_pos (jbM h)]
theorem jtB:∀ (f:Nat) (l:vL) (p:vB),(wayL f l p).length<=f
 | 0,_,_=>bM _
 | f+1,l,p=>by
  cases hg:goL l p with
  | none=>rw[jpq hg];simp
  | some mq =>
   obtain⟨m,q⟩:=mq
   rw[jpr hg,bF]
   have:=jhH (jac (f+1) m).text
   have:=jtB f m q
   omega
structure jAw(f:Nat)(l:vL)(t:vB)(g:Nat)(m:vL):Prop where
 lt:g < f
 rows:jax g m
 ne:m≠[]
 text:t=(jac (g+1) m).text
 big:32<=t.size
 sum:sumL m < sumL l
 flat:∀ x∈jaB (jac (g+1) m),32<=x.size->x∈jaB (jac (f+1) l)
theorem juy{f:Nat}{l:vL}(h:jax f l){x:vB}(hx:x∈jaB (jac (f+1) l)):x=(jac (f+1) l).text\/32<=x.size:=by
 have m:jaB (jac (f+1) l)=jaO (jao (jac f) l) :: jaA (jar (jac f) l):=by
  show jaB (.mk (jaO (jao (jac f) l)) (jar (jac f) l))=_;rw[jaB]
 rw[m]at hx;rcases bX.1 hx with e | hx
 ·exact .inl e
 ·exact .inr ((jv0 f l h).told x hx).1
theorem jpl{l:vL}(k:vB):valL (jaM l) (jbf k)=valL l k:=by
 have m:∀ {a b:vB},jbf a=jbf b->a=b:=fun {a b} e=>jbE (joV (by
  have:=congrArg (fun x:vB=>x.data.toList) e
  simpa [jbf]using this))
 induction l with
 | nil=>rfl
 | cons q l ih =>
  show (if jbf q.1=jbf k then some q.2 else valL (jaM l) (jbf k))=if q.1=k then some q.2 else valL l k
  by_cases e:q.1=k
  ·rw[if_pos (by rw[e]),if_pos e]
  ·rw[if_neg (fun h=>e (m h)),if_neg e,ih]
def jwy(k:Nat)(pa:vB)(rs:vM)(p r q:vB):Prop:=
 (k=2/\preB pa p=true/\rs[0]?=some r/\q=p.extract pa.size p.size/\pa.size<=p.size) \/
 (k=3/\∃ x t,p.data.toList=x :: t/\rs[x.toNat]?=some r/\q=p.extract 1 p.size)
def jyH(k:Nat)(pa va:vB)(rs:vM)(p:vB):Prop:=
 k=0\/(k=1/\pa≠p)\/(k=2/\preB pa p=false)\/(k=3/\p=⟨#[]⟩/\va=⟨#[]⟩)\/(k=3/\∃ x t,p.data.toList=x :: t/\rs[x.toNat]?=some ⟨#[]⟩)
def jyG(k:Nat)(pa va:vB)(p u:vB):Prop:=(k=1/\pa=p/\va=u)\/(k=3/\p=⟨#[]⟩/\va=u/\va.size≠0)
theorem jni{rs:vM}{i:Nat}(h:i < rs.length):rs[i]?=some (rs.getD i ⟨#[]⟩):=by
 rw[bC,bA h];rfl
theorem jk1{d:Nat}{k:Nat}{pa va:vB}{rs:vM}(hg:jbI (InlD d) ⟨k,pa,va,rs⟩){p r q:vB}(hp:jaz p=true)(e:jeQ ⟨k,pa,va,rs⟩ p=(r,q))(hr:r.size≠0):jwy k pa rs p r q:=by
 have o:=hg.one (inlP d);have m:rs.length=16:=o.refs;unfold jeQ at e
 by_cases h3:k=3
 ·subst h3
  rw[if_pos rfl]at e;cases hpl:p.data.toList with
  | nil=>rw[hpl]at e;exact absurd (congrArg ByteArray.size (Prod.mk.inj e).1.symm) hr
  | cons x t =>
   rw[hpl]at e;have e:(if (rs.getD x.toNat ⟨#[]⟩).size=0 then (⟨#[]⟩,p)else (rs.getD x.toNat ⟨#[]⟩,p.extract 1 p.size))=(r,q):=e
   by_cases h0:(rs.getD x.toNat ⟨#[]⟩).size=0
   ·rw[if_pos h0]at e;exact absurd (congrArg ByteArray.size (Prod.mk.inj e).1.symm) hr
   ·rw[if_neg h0]at e
    obtain⟨rfl,rfl⟩:=Prod.mk.inj e
    exact .inr ⟨rfl,x,t,hpl,jni (by rw[m];exact jcR (p:=(p,p)) hp hpl),rfl⟩
 ·rw[if_neg (show ¬(jad.mk k pa va rs).kind=3 from h3)]at e
  by_cases h2:k=2
  ·subst h2
   rw[if_pos rfl]at e
   by_cases hpre:preB pa p=true
   ·rw[if_pos (show preB (jad.mk 2 pa va rs).path p=true from hpre)]at e
    obtain⟨rfl,rfl⟩:=Prod.mk.inj e
    refine .inl ⟨rfl,hpre,jni (by rw[m];omega),rfl,?_⟩
    obtain⟨s,e⟩:=(jiU _ _).1 hpre
    rw[<-jaI p,e,bF,jaI];omega
   ·rw[if_neg (show ¬ preB (jad.mk 2 pa va rs).path p=true from hpre)]at e;exact absurd (congrArg ByteArray.size (Prod.mk.inj e).1.symm) hr
  ·rw[if_neg (show ¬(jad.mk k pa va rs).kind=2 from h2)]at e;exact absurd (congrArg ByteArray.size (Prod.mk.inj e).1.symm) hr
theorem jto{d:Nat}{k:Nat}{pa va:vB}{rs:vM}(hg:jbI (InlD d) ⟨k,pa,va,rs⟩){p q:vB}(hp:jaz p=true)(m:jeQ ⟨k,pa,va,rs⟩ p=(⟨#[]⟩,q))(o:jc3 ⟨k,pa,va,rs⟩ p=none):jyH k pa va rs p:=by
 have E:=hg.one (inlP d);have J:rs.length=16:=E.refs;have K:k<=3:=E.kind;unfold jeQ at m;unfold jc3 at o
 by_cases h3:k=3
 ·subst h3
  rw[if_pos rfl]at m;rw[if_neg (show ¬(3:Nat)=1 by decide),if_pos rfl]at o;cases hpl:p.data.toList with
  | nil =>
   have A:p.size=0:=by rw[<-jaI p,hpl];rfl
   refine .inr (.inr (.inr (.inl ⟨rfl,jbj A,jbj ?_⟩)))
   by_cases hv:va.size=0
   ·exact hv
   ·have o:(if p.size=0/\va.size≠0 then some va else none)=none:=o
    rw[if_pos ⟨A,hv⟩]at o;cases o
  | cons x t =>
   rw[hpl]at m;have m:(if (rs.getD x.toNat ⟨#[]⟩).size=0 then (⟨#[]⟩,p)else (rs.getD x.toNat ⟨#[]⟩,p.extract 1 p.size))=(⟨#[]⟩,q):=m;have H:(rs.getD x.toNat ⟨#[]⟩).size=0:=by
    by_cases H:(rs.getD x.toNat ⟨#[]⟩).size=0
    ·exact H
    ·rw[if_neg H]at m;exact congrArg ByteArray.size (Prod.mk.inj m).1
   exact .inr (.inr (.inr (.inr ⟨rfl,x,t,hpl,by rw[jni (by rw[J];exact jcR (p:=(p,p)) hp hpl),jbj H]⟩)))
 ·rw[if_neg (show ¬(jad.mk k pa va rs).kind=3 from h3)]at m
  by_cases h2:k=2
  ·subst h2
   rw[if_pos rfl]at m
   by_cases hpre:preB pa p=true
   ·rw[if_pos (show preB (jad.mk 2 pa va rs).path p=true from hpre)]at m
    have e:=(Prod.mk.inj m).1;cases hg with
    | ext p r a1 a2 a3=>exact absurd (congrArg ByteArray.size e) a2
   ·exact .inr (.inr (.inl ⟨rfl,by simpa using hpre⟩))
  ·by_cases E:k=1
   ·subst E
    rw[if_pos rfl]at o
    by_cases he:pa=p
    ·have o:(if pa=p then some va else none)=none:=o
     rw[if_pos he]at o;cases o
    ·exact .inr (.inl ⟨rfl,he⟩)
   ·exact .inl vO
theorem jtn{k:Nat}{pa va:vB}{rs:vM}{p u:vB}(e:jc3 ⟨k,pa,va,rs⟩ p=some u):jyG k pa va p u:=by
 unfold jc3 at e
 by_cases h1:k=1
 ·subst h1
  rw[if_pos rfl]at e;have e:(if pa=p then some va else none)=some u:=e
  by_cases he:pa=p
  ·rw[if_pos he]at e;exact .inl ⟨rfl,he,bN e⟩
  ·rw[if_neg he]at e;cases e
 ·rw[if_neg (show ¬(jad.mk k pa va rs).kind=1 from h1)]at e
  by_cases h3:k=3
  ·subst h3
   rw[if_pos rfl]at e;have e:(if p.size=0/\va.size≠0 then some va else none)=some u:=e
   by_cases he:p.size=0/\va.size≠0
   ·rw[if_pos he]at e;exact .inr ⟨rfl,jbj he.1,bN e,he.2⟩
   ·rw[if_neg he]at e;cases e
  ·rw[if_neg (show ¬(jad.mk k pa va rs).kind=3 from h3)]at e;cases e
theorem jve{a p:vB}(h:preB a p=true):a.size<=p.size:=by
 obtain⟨s,e⟩:=(jiU _ _).1 h
 rw[<-jaI p,e,bF,jaI];omega
theorem jcF{p:vB}{x:vU}{t:vN}(h:p.data.toList=x :: t):∃ h0:0 < p.size,p[0]=x:=by
 obtain⟨⟨l⟩⟩:=p
 have h:l=x :: t:=h;subst h
 exact⟨Nat.succ_pos _,rfl⟩
inductive PA where
 | nil
 | no
 | leaf (path value:vB)
 | ext (path:vB) (next:PA)
 | br (value:vB) (kids:Nat->PA)
def PA.isNil:PA->Bool | .nil=>true | _=>false
def PA.isNo:PA->Bool | .no=>true | _=>false
def PA.isBr:PA->Bool | .br _ _=>true | _=>false
def jcf(a:vB)(P:PA):PA:=if a.size=0 then P else match P with
 | .leaf q v=>.leaf (a++q) v
 | .ext q n=>.ext (a++q) n
 | .br v ks=>.ext a (.br v ks)
 | _=>.no
def setK(ks:Nat->PA)(i:Nat)(P:PA):Nat->PA:=fun j=>if j=i then P else ks j
def jau(p:vB):Nat:=(p.data.toList.headD 0).toNat
def jbs(p:vB):vB:=p.extract 1 p.size
def addK:PA->vB->vB->PA
 | .br v ks,p,u=>if p.size=0 then .br u ks else .br v (setK ks (jau p) (.leaf (jbs p) u))
 | P,_,_=>P
theorem jcW(v:vB)(ks:Nat->PA)(p u:vB):addK (.br v ks) p u=if p.size=0 then .br u ks else .br v (setK ks (jau p) (.leaf (jbs p) u)):=rfl
theorem ff:¬(false=true):=by decide
def putP:PA->vB->vB->PA
 | .nil,p,u=>.leaf p u
 | .no,p,u=>.leaf p u
 | .leaf q v,p,u=>if p=q then .leaf p u else
   jcf (p.extract 0 (jal q p)) (addK (addK (.br ⟨#[]⟩ fun _=>.nil) (q.extract (jal q p) q.size) v) (p.extract (jal q p) p.size) u)
 | .ext q n,p,u=>if jal q p=q.size then jcf q (putP n (p.extract (jal q p) p.size) u)else
   jcf (p.extract 0 (jal q p)) (addK (.br ⟨#[]⟩ (setK (fun _=>.nil) (jau (q.extract (jal q p) q.size)) (jcf (q.extract (jal q p+1) q.size) n))) (p.extract (jal q p) p.size) u)
 | .br v ks,p,u=>if p.size=0 then .br u ks else .br v (setK ks (jau p) (putP (ks (jau p)) (jbs p) u))
def idxK(ks:Nat->PA):List Nat:=(List.range 16).filter fun i => !(ks i).isNil
def jdq(v:vB)(ks:Nat->PA):PA:=match idxK ks with
 | []=>if v.size=0 then .no else .leaf ⟨#[]⟩ v
 | [i]=>if v.size=0 then jcf ⟨#[UInt8.ofNat i]⟩ (ks i)else .br v ks
 | _=>.br v ks
def unNo(P:PA):PA:=if P.isNo then .nil else P
def jbS:PA->vB->PA
 | .nil,_=>.no
 | .no,_=>.no
 | .leaf q v,p=>if p=q then .no else .leaf q v
 | .ext q n,p=>if preB q p then jcf q (jbS n (p.extract q.size p.size))else .ext q n
 | .br v ks,p=>if p.size=0 then jdq ⟨#[]⟩ ks else if (ks (jau p)).isNil then .br v ks else jdq v (setK ks (jau p) (unNo (jbS (ks (jau p)) (jbs p))))
def getL:PA->vN->Option vB
 | .nil,_=>none
 | .no,_=>none
 | .leaf q v,p=>if q.data.toList=p then some v else none
 | .ext q n,p=>if q.data.toList.isPrefixOf p then getL n (p.drop q.data.toList.length)else none
 | .br v _,[]=>if v.size=0 then none else some v
 | .br _ ks,x :: t=>getL (ks x.toNat) t
def TwoK(v:vB)(ks:Nat->PA):Prop:=(∃ i j,i≠j/\(ks i).isNil=false/\(ks j).isNil=false)\/(v.size≠0/\∃ i,(ks i).isNil=false)
def CanP:PA->Prop
 | .nil=>False
 | .no=>False
 | .leaf q v=>jaz q=true/\v.size≠0
 | .ext q n=>q.size≠0/\jaz q=true/\n.isBr=true/\CanP n
 | .br v ks=>(∀ i,(ks i).isNil=false->i < 16)/\(∀ i,(ks i).isNil=false->CanP (ks i))/\TwoK v ks
theorem jln(a b:vB):(a++b).data.toList=a.data.toList++b.data.toList:=by
 simp[cW]
theorem jbv{P:PA}(h:P.isNil=true):P=.nil:=by cases P <;> first | rfl | cases h
theorem jr2{P:PA}(h:P.isNo=true):P=.no:=by cases P <;> first | rfl | cases h
theorem jm3{P:PA}(h:CanP P):P.isNil=false:=by cases P <;> first | rfl | exact h.elim
theorem jyV{P:PA}(h:CanP P):P.isNo=false:=by cases P <;> first | rfl | exact h.elim
theorem jcj{a p:vN}:a.isPrefixOf p=true↔∃ r,p=a++r:=by
 rw[List.isPrefixOf_iff_prefix]
 exact⟨fun ⟨r,h⟩=>⟨r,h.symm⟩,fun ⟨r,h⟩=>⟨r,h.symm⟩⟩
theorem jmc{a p:vN}(h:a.isPrefixOf p=false):∀ r,p≠a++r:=fun r e=>by
 rw[jcj.2 ⟨r,e⟩]at h;cases h
theorem jfG{a:vB}(h:a.size=0):a.data.toList=[]:=bD (by rw[jaI];exact h)
theorem jcm{a:vB}(h:a.size≠0):∃ x t,a.data.toList=x :: t:=by
 cases e:a.data.toList with
 | nil=>rw[<-jaI,e]at h;exact (h rfl).elim
 | cons x t=>exact⟨x,t,rfl⟩
theorem jbH{p:vB}{x:vU}{t:vN}(h:p.data.toList=x :: t):jau p=x.toNat/\(jbs p).data.toList=t:=by
 refine⟨by unfold jau;rw[h];rfl,?_⟩
 unfold jbs;rw[jdL,h];rfl
theorem jde{x y:vU}(h:x≠y):x.toNat≠y.toNat:=fun e=>h (dM.1 e)
theorem jfA(a:vB)(P:PA)(p:vN):getL (jcf a P) p=if a.data.toList.isPrefixOf p then getL P (p.drop a.data.toList.length)else none:=by
 unfold jcf
 by_cases h0:a.size=0
 ·rw[if_pos h0,jfG h0];simp
 rw[if_neg h0];cases hp:a.data.toList.isPrefixOf p with
 | true =>
  obtain⟨r,rfl⟩:=jcj.1 hp
  rw[if_pos rfl,fM];cases P with
  | nil=>rfl
  | no=>rfl
  | leaf q v=>simp only[getL,jln,gL]
  | ext q n =>
   simp only[getL,jln];have e:(a.data.toList++q.data.toList).isPrefixOf (a.data.toList++r)=q.data.toList.isPrefixOf r:=by
    rw[Bool.eq_iff_iff,jcj,jcj]
    exact⟨fun ⟨s,e⟩=>⟨s,by rw[cB]at e;exact iT e⟩,fun ⟨s,e⟩=>⟨s,by rw[e,cB]⟩⟩
   rw[e,bF, <-List.drop_drop,fM]
  | br v ks =>
   show (if a.data.toList.isPrefixOf (a.data.toList++r)=true then getL (.br v ks) ((a.data.toList++r).drop _)else none)=_;rw[hp,if_pos rfl,fM]
 | false =>
  have m:=jmc hp;rw[if_neg ff];cases P with
  | nil=>rfl
  | no=>rfl
  | leaf q v =>
   simp only[getL,jln];rw[if_neg (fun e=>m _ e.symm)]
  | ext q n =>
   simp only[getL,jln];rw[if_neg];intro e
   obtain⟨s,e⟩:=jcj.1 e
   rw[cB]at e;exact m _ e
  | br v ks =>
   show (if a.data.toList.isPrefixOf p=true then _ else none)=_;rw[hp];rfl
theorem jhQ(v:vB)(ks:Nat->PA)(i:Nat)(P:PA)(x:vU)(t:vN):getL (.br v (setK ks i P)) (x :: t)=if x.toNat=i then getL P t else getL (.br v ks) (x :: t):=by
 show getL (setK ks i P x.toNat) t=if x.toNat=i then _ else getL (ks x.toNat) t
 unfold setK
 by_cases h:x.toNat=i
 ·rw[if_pos h,if_pos h]
 ·rw[if_neg h,if_neg h]
theorem jnj(v:vB)(ks:Nat->PA)(p u:vB)(hu:u.size≠0)(hk:∀ x t,p.data.toList=x :: t->(ks x.toNat).isNil=true)(q:vN) :
  getL (addK (.br v ks) p u) q=if q=p.data.toList then some u else getL (.br v ks) q:=by
 rw[jcW]
 by_cases h0:p.size=0
 ·rw[if_pos h0,jfG h0]
  cases q with
  | nil=>simp[getL,hu]
  | cons x t=>rfl
 ·rw[if_neg h0]
  obtain⟨x,t,m⟩:=jcm h0
  obtain⟨A,E⟩:=jbH m
  have o:=jbv (hk x t m);rw[A,m];cases q with
  | nil=>simp[getL]
  | cons y s =>
   rw[jhQ]
   by_cases hy:y=x
   ·subst hy
    rw[if_pos rfl];simp only[getL,E,o,List.cons.injEq,true_and]
    by_cases e:t=s
    ·rw[if_pos e,if_pos e.symm]
    ·rw[if_neg e,if_neg (fun h=>e h.symm)]
   ·rw[if_neg (jde hy),if_neg (fun e=>hy (List.cons.inj e).1)]
theorem jcN(a b:vN):∃ a' b',a=a.take (ja0 a b)++a'/\b=a.take (ja0 a b)++b'/\a'=a.drop (ja0 a b)/\b'=b.drop (ja0 a b)/\(∀ x s y t,a'=x :: s->b'=y :: t->x≠y):=by
 obtain⟨m,E,H⟩:=jbg a b
 refine⟨_,_,(cQ _ _).symm,?_,rfl,rfl,?_⟩
 ·rw[m,cQ]
 ·intro x s y t o A e
  have h:=jib a b;rw[o,A,e]at h;simp[ja0]at h
theorem jm8{a b:vN}(h:ja0 a b=a.length):b=a++b.drop a.length:=by
 obtain⟨e,m,o⟩:=jbg a b
 rw[h,cE]at e
 have:=(cQ a.length b).symm
 rw[<-e]at this;exact this
theorem jtu(p:vB)(k:Nat):(p.extract 0 k).data.toList=p.data.toList.take k:=by
 simp[cX]
theorem jnk:∀ (P:PA),(CanP P\/P=.no\/P=.nil)->∀ (p u:vB),u.size≠0->∀ q,getL (putP P p u) q=if q=p.data.toList then some u else getL P q
 | .nil,_,p,u,_,q=>by
  show (if p.data.toList=q then some u else none)=if q=p.data.toList then some u else none
  by_cases e:q=p.data.toList
  ·rw[if_pos e,if_pos e.symm]
  ·rw[if_neg e,if_neg (fun h=>e h.symm)]
 | .no,_,p,u,_,q=>by
  show (if p.data.toList=q then some u else none)=if q=p.data.toList then some u else none
  by_cases e:q=p.data.toList
  ·rw[if_pos e,if_pos e.symm]
  ·rw[if_neg e,if_neg (fun h=>e h.symm)]
 | .leaf a v,h,p,u,hu,q=>by
  have hc:v.size≠0:=by
   rcases h with h | h | h
   ·exact h.2
   ·cases h
   ·cases h
  unfold putP
  by_cases hpa:p=a
  ·rw[if_pos hpa]
   subst hpa;simp only[getL]
   by_cases e:q=p.data.toList
   ·rw[if_pos e,if_pos e.symm]
   ·rw[if_neg e,if_neg (fun h=>e h.symm),if_neg (fun h=>e h.symm)]
  rw[if_neg hpa,jfA,jtu]
  obtain⟨X,H,J,hb,A,o,a2⟩:=jcN a.data.toList p.data.toList
  obtain⟨O,Z,a3⟩:=jbg a.data.toList p.data.toList
  obtain⟨n,hn⟩:=vE (jal a p)
  have a6:ja0 a.data.toList p.data.toList=n:=hn.symm;rw[a6]at J hb A o O Z a3;rw[<-hn, <-O]
  obtain⟨c,a0⟩:=vE (a.data.toList.take n)
  rw[<-a0]at J hb ⊢;have b1:c.length=n:=by rw[a0,cL];omega
  have b2:¬(X=[]/\H=[]):=by
   rintro⟨rfl,rfl⟩
   exact hpa (jbE (by rw[hb,J]))
  have Q:(a.extract n a.size).data.toList=X:=by rw[jdL,A]
  have E:(p.extract n p.size).data.toList=H:=by rw[jdL,o]
  obtain⟨x1,e1⟩:∃ x,x=a.extract n a.size:=⟨_,rfl⟩
  obtain⟨x2,e2⟩:∃ x,x=p.extract n p.size:=⟨_,rfl⟩
  rw[<-e1]at Q ⊢;rw[<-e2]at E ⊢;have a4:∀ r,getL (addK (addK (.br ⟨#[]⟩ fun _=>.nil) x1 v) x2 u) r=if r=H then some u else if r=X then some v else none:=by
   intro r;have a5:∃ v1 a1,addK (.br ⟨#[]⟩ fun _=>.nil) x1 v=.br v1 a1/\∀ x t,x2.data.toList=x :: t->(a1 x.toNat).isNil=true:=by
    rw[jcW]
    by_cases h0:x1.size=0
    ·rw[if_pos h0];exact⟨_,_,rfl,fun _ _ _=>rfl⟩
    ·rw[if_neg h0]
     refine⟨_,_,rfl,fun y t hy=>?_⟩
     obtain⟨x,s,hx⟩:=jcm h0
     unfold setK;rw[(jbH hx).1,if_neg (jde (Ne.symm (a2 x s y t (by rw[<-Q,hx]) (by rw[<-E,hy]))))];rfl
   obtain⟨v1,a1,h1,h2⟩:=a5
   rw[h1,jnj v1 a1 x2 u hu h2, <-h1,jnj _ _ x1 v hc (fun _ _ _=>rfl),Q,E]
   congr 1
   congr 1
   cases r <;> rfl
  cases hp:c.isPrefixOf q with
  | false =>
   have K:=jmc hp;rw[if_neg ff,if_neg (fun e=>K H (e.trans hb))];show none=if a.data.toList=q then some v else none
   rw[if_neg (fun e=>K X (e.symm.trans J))]
  | true =>
   obtain⟨r,rfl⟩:=jcj.1 hp
   rw[if_pos rfl,fM,a4];show _=if c++r=p.data.toList then some u else if a.data.toList=c++r then some v else none
   rw[hb,J];simp only[gL]
   congr 1
   by_cases e:r=X
   ·rw[if_pos e,if_pos e.symm]
   ·rw[if_neg e,if_neg (fun h=>e h.symm)]
 | .ext a n,h,p,u,hu,q=>by
  have hc:CanP (.ext a n):=by
   rcases h with h | h | h
   ·exact h
   ·cases h
   ·cases h
  have ih:=jnk n (.inl hc.2.2.2);unfold putP
  by_cases hf:jal a p=a.size
  ·rw[if_pos hf,jfA]
   have hb:=jm8 (a:=a.data.toList) (b:=p.data.toList) (by rw[jaI];exact hf)
   obtain⟨H,o⟩:∃ H,H=p.data.toList.drop a.data.toList.length:=⟨_,rfl⟩
   rw[<-o]at hb;have hx:(p.extract (jal a p) p.size).data.toList=H:=by rw[jdL,hf,o,jaI]
   show _=if q=p.data.toList then some u else if a.data.toList.isPrefixOf q then getL n (q.drop a.data.toList.length)else none
   cases hp:a.data.toList.isPrefixOf q with
   | false =>
    rw[if_neg ff,if_neg ff,if_neg (fun e=>jmc hp H (e.trans hb))]
   | true =>
    obtain⟨r,rfl⟩:=jcj.1 hp
    rw[if_pos rfl,if_pos rfl,fM,ih _ u hu,hx,hb];simp only[gL]
  ·rw[if_neg hf,jfA,jtu]
   obtain⟨X,H,J,hb,A,o,a2⟩:=jcN a.data.toList p.data.toList
   obtain⟨O,Z,a3⟩:=jbg a.data.toList p.data.toList
   obtain⟨m,hm⟩:=vE (jal a p)
   have a7:ja0 a.data.toList p.data.toList=m:=hm.symm;rw[a7]at J hb A o O Z a3;rw[<-hm]at hf ⊢;rw[<-O]
   obtain⟨c,a0⟩:=vE (a.data.toList.take m)
   rw[<-a0]at J hb ⊢;have Q:(a.extract m a.size).data.toList=X:=by rw[jdL,A]
   have E:(p.extract m p.size).data.toList=H:=by rw[jdL,o]
   have a8:X.length=a.size - m:=by rw[A,fY,jaI]
   rw[jaI]at Z;cases X with
   | nil=>simp at a8;omega
   | cons x s =>
    have a9:(a.extract (m+1) a.size).data.toList=s:=by
     rw[jdL, <-List.drop_drop, <-A];rfl
    rw[(jbH Q).1]
    obtain⟨x2,e2⟩:∃ x,x=p.extract m p.size:=⟨_,rfl⟩
    rw[<-e2]at E ⊢;have a4:∀ r,getL (addK (.br ⟨#[]⟩ (setK (fun _=>.nil) x.toNat (jcf (a.extract (m+1) a.size) n))) x2 u) r=if r=H then some u else if (x :: s).isPrefixOf r then getL n (r.drop (s.length+1))else none:=by
     intro r;rw[jnj _ _ _ u hu,E]
     ·congr 1
      cases r with
      | nil=>rfl
      | cons y t =>
       rw[jhQ,jfA,a9]
       by_cases e:y=x
       ·subst e;simp
       ·rw[if_neg (jde e),if_neg]
        ·rfl
        ·intro K
         obtain⟨r,K⟩:=jcj.1 K
         exact e (List.cons.inj K).1
     ·intro y t hy
      unfold setK;rw[if_neg (jde (Ne.symm (a2 x s y t rfl (by rw[<-E,hy]))))];rfl
    have b0:a.data.toList.length=c.length+(s.length+1):=by
     have K:=congrArg List.length J;rw[bF]at K;exact K
    show _=if q=p.data.toList then some u else if a.data.toList.isPrefixOf q then getL n (q.drop a.data.toList.length)else none
    cases hp:c.isPrefixOf q with
    | false =>
     have K:=jmc hp;rw[if_neg ff,if_neg (fun e=>K H (e.trans hb)),if_neg];intro e
     obtain⟨r,e⟩:=jcj.1 e
     rw[J,cB]at e;exact K _ e
    | true =>
     obtain⟨r,rfl⟩:=jcj.1 hp
     have e2:(c++r).drop (c.length+(s.length+1))=r.drop (s.length+1):=by rw[<-List.drop_drop,fM]
     rw[if_pos rfl,fM,a4,b0,e2];have e1:a.data.toList.isPrefixOf (c++r)=(x :: s).isPrefixOf r:=by
      rw[Bool.eq_iff_iff,jcj,jcj];constructor
      ·rintro⟨z,e⟩
       rw[J,cB]at e
       exact⟨z,iT e⟩
      ·rintro⟨z,rfl⟩
       exact⟨z,by rw[J,cB]⟩
     rw[e1,hb];simp only[gL]
 | .br v ks,h,p,u,hu,q=>by
  have hc:CanP (.br v ks):=by
   rcases h with h | h | h
   ·exact h
   ·cases h
   ·cases h
  unfold putP
  by_cases h0:p.size=0
  ·rw[if_pos h0,jfG h0]
   cases q with
   | nil=>simp[getL,hu]
   | cons x t=>rfl
  ·rw[if_neg h0]
   obtain⟨x,t,hx⟩:=jcm h0
   obtain⟨h1,h2⟩:=jbH hx
   have ih:=jnk (ks (jau p)) (by
    cases hn:(ks (jau p)).isNil with
    | true=>exact .inr (.inr (jbv hn))
    | false=>exact .inl (hc.2.1 _ hn)) (jbs p) u hu
   rw[h1]at ih ⊢;rw[hx];cases q with
   | nil=>simp[getL]
   | cons y s =>
    rw[jhQ]
    by_cases hy:y=x
    ·subst hy
     rw[if_pos rfl,ih,h2];simp only[List.cons.injEq,true_and];rfl
    ·rw[if_neg (jde hy),if_neg (fun e=>hy (List.cons.inj e).1)]
theorem jco{s:vB}:jaz s=true↔∀ x∈s.data.toList,x.toNat < 16:=by
 unfold jaz;rw[fG];constructor
 ·intro h x e
  have m:=h x e;simp only[decide_eq_true_eq,dS]at m
  have:(15:vU).toNat=15:=rfl
  omega
 ·intro h x e
  have m:=h x e;simp only[decide_eq_true_eq,dS]
  have:(15:vU).toNat=15:=rfl
  omega
theorem jmM{a b:vB}(h:jaz a=true)(k:jaz b=true):jaz (a++b)=true:=by
 rw[jco]at *;intro x m;rw[jln]at m;rcases bW.1 m with e | e
 ·exact h x e
 ·exact k x e
theorem jht{a:vB}(h:jaz a=true)(k:Nat):jaz (a.extract 0 k)=true:=by
 rw[jco]at *;intro x e;rw[jtu]at e;exact h x (gC e)
theorem jct{a:vB}(h:jaz a=true):jaz (jbs a)=true:=jbi h 1 _
theorem jdN{p:vB}(h:jaz p=true)(h0:p.size≠0):jau p < 16:=by
 obtain⟨x,t,e⟩:=jcm h0
 rw[(jbH e).1];exact jco.1 h x (by rw[e];exact bK)
theorem jc8(a b:vB):(a++b).size=a.size+b.size:=by
 rw[<-jaI,jln,bF,jaI,jaI]
theorem jft{a:vB}{P:PA}(ha:jaz a=true)(h:CanP P):CanP (jcf a P):=by
 unfold jcf
 by_cases h0:a.size=0
 ·rw[if_pos h0];exact h
 rw[if_neg h0];cases P with
 | nil=>exact h.elim
 | no=>exact h.elim
 | leaf q v=>exact⟨jmM ha h.1,h.2⟩
 | ext q n=>exact⟨by rw[jc8];omega,jmM ha h.2.1,h.2.2⟩
 | br v ks=>exact⟨h0,ha,rfl,h⟩
theorem jcl(ks:Nat->PA)(i:Nat)(P:PA):setK ks i P i=P:=if_pos rfl
theorem jeP(ks:Nat->PA){i j:Nat}(P:PA)(h:j≠i):setK ks i P j=ks j:=if_neg h
def OneB(ks:Nat->PA):Prop:=(∀ i,(ks i).isNil=false->i < 16)/\(∀ i,(ks i).isNil=false->CanP (ks i))
theorem OneB.set{ks:Nat->PA}(h:OneB ks){i:Nat}{P:PA}(hi:i < 16)(hP:CanP P):OneB (setK ks i P):=by
 refine⟨fun j m=>?_,fun j m=>?_⟩
 ·by_cases e:j=i
  ·rw[e];exact hi
  ·rw[jeP _ _ e]at m;exact h.1 j m
 ·by_cases e:j=i
  ·rw[e,jcl];exact hP
  ·rw[jeP _ _ e]at m ⊢;exact h.2 j m
theorem OneB.cut{ks:Nat->PA}(h:OneB ks)(i:Nat):OneB (setK ks i .nil):=by
 refine⟨fun j m=>?_,fun j m=>?_⟩
 ·by_cases e:j=i
  ·rw[e,jcl]at m;cases m
  ·rw[jeP _ _ e]at m;exact h.1 j m
 ·by_cases e:j=i
  ·rw[e,jcl]at m;cases m
  ·rw[jeP _ _ e]at m ⊢;exact h.2 j m
theorem jkF:OneB (fun _=>.nil):=⟨fun _ h=>Bool.noConfusion h,fun _ h=>Bool.noConfusion h⟩
theorem TwoK.set{v:vB}{ks:Nat->PA}(h:TwoK v ks)(i:Nat){P:PA}(hP:P.isNil=false):TwoK v (setK ks i P):=by
 have m:∀ j,(ks j).isNil=false->(setK ks i P j).isNil=false:=by
  intro j o
  by_cases e:j=i
  ·rw[e,jcl];exact hP
  ·rw[jeP _ _ e];exact o
 rcases h with⟨a,b,h1,h2,h3⟩ |⟨h1,a,h2⟩
 ·exact .inl ⟨a,b,h1,m a h2,m b h3⟩
 ·exact .inr ⟨h1,a,m a h2⟩
theorem jmS{ks:Nat->PA}(v p u:vB)(h:OneB ks)(hp:jaz p=true)(hu:u.size≠0)(h2:(v.size≠0/\p.size≠0)\/∃ i,(ks i).isNil=false/\(p.size=0\/jau p≠i)):CanP (addK (.br v ks) p u):=by
 rw[jcW]
 by_cases h0:p.size=0
 ·rw[if_pos h0]
  rcases h2 with⟨_,e⟩ |⟨i,hi,_⟩
  ·exact (e h0).elim
  ·exact⟨h.1,h.2,.inr ⟨hu,i,hi⟩⟩
 ·rw[if_neg h0]
  have m:=h.set (jdN hp h0) (P:=.leaf (jbs p) u) ⟨jct hp,hu⟩
  refine⟨m.1,m.2,?_⟩
  rcases h2 with⟨e,_⟩ |⟨i,hi,e | e⟩
  ·exact .inr ⟨e,jau p,by rw[jcl];rfl⟩
  ·exact (h0 e).elim
  ·exact .inl ⟨jau p,i,e,by rw[jcl];rfl,by rw[jeP _ _ (Ne.symm e)];exact hi⟩
theorem jm4:∀ (P:PA),(CanP P\/P=.no\/P=.nil)->∀ (p u:vB),jaz p=true->u.size≠0->CanP (putP P p u)
 | .nil,_,p,u,hp,hu=>⟨hp,hu⟩
 | .no,_,p,u,hp,hu=>⟨hp,hu⟩
 | .leaf a v,h,p,u,hp,hu=>by
  have m:jaz a=true/\v.size≠0:=by
   rcases h with h | h | h
   ·exact h
   ·cases h
   ·cases h
  unfold putP
  by_cases hpa:p=a
  ·rw[if_pos hpa];exact⟨hp,hu⟩
  rw[if_neg hpa];refine jft (jht hp _) ?_
  obtain⟨a',b',ha,hb,Q,X,Z⟩:=jcN a.data.toList p.data.toList
  have H:(a.extract (jal a p) a.size).data.toList=a':=by rw[jdL,Q];rfl
  have o:(p.extract (jal a p) p.size).data.toList=b':=by rw[jdL,X];rfl
  have K:=jbi m.1 (jal a p) a.size;have A:=jbi hp (jal a p) p.size;have a0:¬(a'=[]/\b'=[]):=by
   rintro⟨rfl,rfl⟩
   exact hpa (jbE (hb.trans ha.symm))
  obtain⟨x1,e1⟩:∃ x,x=a.extract (jal a p) a.size:=⟨_,rfl⟩
  obtain⟨x2,e2⟩:∃ x,x=p.extract (jal a p) p.size:=⟨_,rfl⟩
  rw[<-e1]at H K ⊢;rw[<-e2]at o A ⊢;rw[jcW]
  by_cases E:x1.size=0
  ·rw[if_pos E]
   refine jmS v x2 u jkF A hu (.inl ⟨m.2,fun e=>a0 ⟨?_,?_⟩⟩)
   ·rw[<-H];exact jfG E
   ·rw[<-o];exact jfG e
  ·rw[if_neg E]
   refine jmS _ x2 u (jkF.set (jdN K E) ⟨jct K,m.2⟩) A hu (.inr ⟨jau x1,by rw[jcl];rfl,?_⟩)
   by_cases h9:x2.size=0
   ·exact .inl h9
   ·obtain⟨x,s,hx⟩:=jcm E
    obtain⟨y,t,hy⟩:=jcm h9
    rw[(jbH hx).1,(jbH hy).1];exact .inr (jde (Ne.symm (Z x s y t (by rw[<-H,hx]) (by rw[<-o,hy]))))
 | .ext a n,h,p,u,hp,hu=>by
  have m:CanP (.ext a n):=by
   rcases h with h | h | h
   ·exact h
   ·cases h
   ·cases h
  unfold putP
  by_cases hf:jal a p=a.size
  ·rw[if_pos hf]
   exact jft m.2.1 (jm4 n (.inl m.2.2.2) _ u (jbi hp _ _) hu)
  ·rw[if_neg hf]
   refine jft (jht hp _) ?_
   obtain⟨a',b',ha,hb,Q,X,Z⟩:=jcN a.data.toList p.data.toList
   have H:(a.extract (jal a p) a.size).data.toList=a':=by rw[jdL,Q];rfl
   have o:(p.extract (jal a p) p.size).data.toList=b':=by rw[jdL,X];rfl
   have K:=jbi m.2.1 (jal a p) a.size;have A:=jbi hp (jal a p) p.size;have E:(a.extract (jal a p) a.size).size≠0:=by
    have h3:=(jbg a.data.toList p.data.toList).2.1;have h4:jal a p<=a.size:=by rw[<-jaI];exact h3
    rw[jaX];omega
   obtain⟨x2,e2⟩:∃ x,x=p.extract (jal a p) p.size:=⟨_,rfl⟩
   rw[<-e2]at o A ⊢;have hj:=jft (jbi m.2.1 (jal a p+1) a.size) m.2.2.2;have hO:=jkF.set (jdN K E) hj
   obtain⟨J,hJ⟩:=vE (jcf (a.extract (jal a p+1) a.size) n)
   rw[<-hJ]at hO hj ⊢;have hz:=jcl (fun _=>PA.nil) (jau (a.extract (jal a p) a.size)) J;have O:=jm3 hj;rw[<-hz]at O
   obtain⟨KS,a1⟩:=vE (setK (fun _=>PA.nil) (jau (a.extract (jal a p) a.size)) J)
   rw[<-a1]at hO O ⊢;refine jmS ⟨#[]⟩ x2 u hO A hu (.inr ⟨jau (a.extract (jal a p) a.size),O,?_⟩)
   by_cases h9:x2.size=0
   ·exact .inl h9
   ·obtain⟨x,s,hx⟩:=jcm E
    obtain⟨y,t,hy⟩:=jcm h9
    rw[(jbH hx).1,(jbH hy).1];exact .inr (jde (Ne.symm (Z x s y t (by rw[<-H,hx]) (by rw[<-o,hy]))))
 | .br v ks,h,p,u,hp,hu=>by
  have m:CanP (.br v ks):=by
   rcases h with h | h | h
   ·exact h
   ·cases h
   ·cases h
  unfold putP
  by_cases E:p.size=0
  ·rw[if_pos E]
   refine⟨m.1,m.2.1,?_⟩
   rcases m.2.2 with h1 |⟨_,h2⟩
   ·exact .inl h1
   ·exact .inr ⟨hu,h2⟩
  ·rw[if_neg E]
   have hk:=jm4 (ks (jau p)) (by
    cases hn:(ks (jau p)).isNil with
    | true=>exact .inr (.inr (jbv hn))
    | false=>exact .inl (m.2.1 _ hn)) (jbs p) u (jct hp) hu
   have hs:=OneB.set ⟨m.1,m.2.1⟩ (jdN hp E) hk
   exact⟨hs.1,hs.2,m.2.2.set _ (jm3 hk)⟩
theorem jrX{ks:Nat->PA}{i:Nat}(h:OneB ks):i∈idxK ks↔(ks i).isNil=false:=by
 unfold idxK;rw[cU,dZ,gX]
 exact⟨fun e=>e.2,fun e=>⟨h.1 i e,e⟩⟩
theorem jrY(ks:Nat->PA):(idxK ks).Nodup:=List.Nodup.sublist jF List.nodup_range
theorem jlX{v:vB}{ks:Nat->PA}(h:OneB ks):jdq v ks=.no\/CanP (jdq v ks):=by
 have o:=fun i=>jrX (i:=i) h;have E:=jrY ks;unfold jdq;cases e:idxK ks with
 | nil =>
  show (if v.size=0 then PA.no else .leaf ⟨#[]⟩ v)=.no\/CanP (if v.size=0 then PA.no else .leaf ⟨#[]⟩ v)
  by_cases h0:v.size=0
  ·rw[if_pos h0];exact .inl rfl
  ·rw[if_neg h0];exact .inr ⟨rfl,h0⟩
 | cons i r =>
  rw[e]at o E;have m:=(o i).1 bK;cases r with
  | nil =>
   show (if v.size=0 then jcf ⟨#[UInt8.ofNat i]⟩ (ks i)else .br v ks)=.no\/CanP (if v.size=0 then jcf ⟨#[UInt8.ofNat i]⟩ (ks i)else .br v ks);right
   by_cases h0:v.size=0
   ·rw[if_pos h0]
    have H:=h.1 i m;refine jft ?_ (h.2 i m);rw[jco];intro x A;have A:x=UInt8.ofNat i:=by simpa using A
    rw[A,fJ];omega
   ·rw[if_neg h0]
    exact⟨h.1,h.2,.inr ⟨h0,i,m⟩⟩
  | cons j r =>
   right
   refine⟨h.1,h.2,.inl ⟨i,j,?_,m,(o j).1 (by simp)⟩⟩
   rintro rfl;simp at E
theorem jlO{v:vB}{ks:Nat->PA}(h:OneB ks)(q:vN):getL (jdq v ks) q=getL (.br v ks) q:=by
 have m:=fun i=>jrX (i:=i) h;unfold jdq;cases e:idxK ks with
 | nil =>
  rw[e]at m;have K:∀ i,ks i=.nil:=fun i=>jbv (by
   cases hb:(ks i).isNil with
   | true=>rfl
   | false=>exact ((List.mem_nil_iff i).1 ((m i).2 hb)).elim)
  show getL (if v.size=0 then PA.no else .leaf ⟨#[]⟩ v) q=_;cases q with
  | nil =>
   show _=if v.size=0 then none else some v
   by_cases h0:v.size=0
   ·rw[if_pos h0,if_pos h0];rfl
   ·rw[if_neg h0,if_neg h0];rfl
  | cons x t =>
   show _=getL (ks x.toNat) t;rw[K]
   by_cases h0:v.size=0
   ·rw[if_pos h0];rfl
   ·rw[if_neg h0];rfl
 | cons i r =>
  cases r with
  | nil =>
   show getL (if v.size=0 then jcf ⟨#[UInt8.ofNat i]⟩ (ks i)else .br v ks) q=_
   by_cases h0:v.size=0
   ·rw[if_pos h0,jfA]
    rw[e]at m;have J:=h.1 i ((m i).1 bK);have o:(UInt8.ofNat i).toNat=i:=by rw[fJ];omega
    cases q with
    | nil=>show (if false=true then _ else none)=if v.size=0 then none else some v;rw[if_pos h0,if_neg ff]
    | cons x t =>
     show (if ([UInt8.ofNat i].isPrefixOf (x :: t))=true then getL (ks i) ((x :: t).drop 1)else none)=getL (ks x.toNat) t
     by_cases hx:x=UInt8.ofNat i
     ·subst hx;simp[o]
     ·have A:x.toNat≠i:=fun e=>hx (dM.1 (by rw[o];exact e))
      have E:ks x.toNat=.nil:=jbv (by
       cases hb:(ks x.toNat).isNil with
       | true=>rfl
       | false=>exact (A (by simpa using (m _).2 hb)).elim)
      rw[E,if_neg]
      ·rfl
      ·intro H
       obtain⟨r,H⟩:=jcj.1 H
       exact hx (List.cons.inj H).1
   ·rw[if_neg h0]
  | cons j r=>rfl
theorem juE(P:PA)(q:vN):getL (unNo P) q=getL P q:=by
 unfold unNo;cases h:P.isNo with
 | true=>rw[if_pos rfl,jr2 h];rfl
 | false=>rw[if_neg ff]
theorem jna:∀ (P:PA),CanP P->∀ (p:vB),jaz p=true->(jbS P p=.no\/CanP (jbS P p))/\∀ q,getL (jbS P p) q=if q=p.data.toList then none else getL P q
 | .nil,h,_,_=>h.elim
 | .no,h,_,_=>h.elim
 | .leaf a v,h,p,hp=>by
  unfold jbS
  by_cases e:p=a
  ·rw[if_pos e]
   refine⟨.inl rfl,fun q=>?_⟩
   subst e;show none=if q=p.data.toList then none else if p.data.toList=q then some v else none
   by_cases h9:q=p.data.toList
   ·rw[if_pos h9]
   ·rw[if_neg h9,if_neg (fun e=>h9 e.symm)]
  ·rw[if_neg e]
   refine⟨.inr h,fun q=>?_⟩
   by_cases h9:q=p.data.toList
   ·rw[if_pos h9]
    show (if a.data.toList=q then some v else none)=none;rw[if_neg (fun Q=>e (jbE (h9.symm.trans Q.symm)))]
   ·rw[if_neg h9]
 | .ext a n,h,p,hp=>by
  unfold jbS
  obtain⟨m,J⟩:=jna n h.2.2.2 (p.extract a.size p.size) (jbi hp _ _)
  cases hb:preB a p with
  | false =>
   rw[if_neg ff]
   refine⟨.inr h,fun q=>?_⟩
   by_cases h9:q=p.data.toList
   ·rw[if_pos h9,h9]
    show (if a.data.toList.isPrefixOf p.data.toList=true then _ else none)=none;unfold preB at hb;rw[hb];rfl
   ·rw[if_neg h9]
  | true =>
   rw[if_pos rfl]
   obtain⟨K,o⟩:=jcj.1 hb
   have A:(p.extract a.size p.size).data.toList=K:=by rw[jdL,o, <-jaI,fM]
   refine⟨?_,fun q=>?_⟩
   ·rcases m with m | m
    ·rw[m]
     left;unfold jcf
     by_cases h0:a.size=0
     ·rw[if_pos h0]
     ·rw[if_neg h0]
    ·exact .inr (jft h.2.1 m)
   ·rw[jfA]
    show _=if q=p.data.toList then none else if a.data.toList.isPrefixOf q then getL n (q.drop a.data.toList.length)else none
    cases hq:a.data.toList.isPrefixOf q with
    | false =>
     rw[if_neg ff,if_neg ff,if_neg (fun e=>jmc hq K (e.trans o))]
    | true =>
     obtain⟨r,rfl⟩:=jcj.1 hq
     rw[if_pos rfl,if_pos rfl,fM,J,A,o];simp only[gL]
 | .br v ks,h,p,hp=>by
  unfold jbS;have E:OneB ks:=⟨h.1,h.2.1⟩
  by_cases h0:p.size=0
  ·rw[if_pos h0]
   refine⟨jlX E,fun q=>?_⟩
   rw[jlO E,jfG h0];cases q with
   | nil=>rfl
   | cons x t=>rfl
  ·rw[if_neg h0]
   obtain⟨x,t,A⟩:=jcm h0
   obtain⟨H,X⟩:=jbH A
   cases hn:(ks (jau p)).isNil with
   | true =>
    rw[if_pos rfl]
    refine⟨.inr h,fun q=>?_⟩
    by_cases h9:q=p.data.toList
    ·rw[if_pos h9,h9,A]
     show getL (ks x.toNat) t=none;rw[<-H,jbv hn];rfl
    ·rw[if_neg h9]
   | false =>
    rw[if_neg ff]
    obtain⟨m,J⟩:=jna (ks (jau p)) (h.2.1 _ hn) (jbs p) (jct hp)
    have O:OneB (setK ks (jau p) (unNo (jbS (ks (jau p)) (jbs p)))):=by
     unfold unNo;rcases m with m | m
     ·rw[m];exact E.cut _
     ·rw[jyV m,if_neg ff]
      exact E.set (jdN hp h0) m
    refine⟨jlX O,fun q=>?_⟩
    rw[jlO O,A];cases q with
    | nil=>rfl
    | cons y s =>
     rw[jhQ,H]
     by_cases hy:y=x
     ·subst hy
      rw[if_pos rfl,juE, <-H,J,X];simp only[List.cons.injEq,true_and];show _=if s=t then none else getL (ks y.toNat) s
      rw[H]
     ·rw[if_neg (jde hy),if_neg (fun e=>hy (List.cons.inj e).1)]
theorem jgv{i:Nat}(h:i < 16):(UInt8.ofNat i).toNat=i:=by rw[fJ];omega
theorem jeF:∀ (P:PA),CanP P->∃ p v,getL P p=some v
 | .nil,h=>h.elim
 | .no,h=>h.elim
 | .leaf a v,_=>⟨a.data.toList,v,if_pos rfl⟩
 | .ext a n,h=>by
  obtain⟨p,v,e⟩:=jeF n h.2.2.2
  refine⟨a.data.toList++p,v,?_⟩
  show (if a.data.toList.isPrefixOf (a.data.toList++p)=true then getL n ((a.data.toList++p).drop a.data.toList.length)else none)=some v;rw[if_pos (jcj.2 ⟨p,rfl⟩),fM,e]
 | .br v ks,h=>by
  have m:∃ i,(ks i).isNil=false:=by
   rcases h.2.2 with⟨i,_,_,e,_⟩ |⟨_,i,e⟩
   ·exact⟨i,e⟩
   ·exact⟨i,e⟩
  obtain⟨i,m⟩:=m
  obtain⟨p,u,e⟩:=jeF (ks i) (h.2.1 i m)
  refine⟨UInt8.ofNat i :: p,u,?_⟩
  show getL (ks (UInt8.ofNat i).toNat) p=some u;rw[jgv (h.1 i m),e]
theorem jia{v:vB}{ks:Nat->PA}(h:CanP (.br v ks)):∃ p q a b,p.head?≠q.head?/\getL (.br v ks) p=some a/\getL (.br v ks) q=some b:=by
 have m:∀ i,(ks i).isNil=false->∃ t u,getL (.br v ks) (UInt8.ofNat i :: t)=some u:=by
  intro i o
  obtain⟨p,u,e⟩:=jeF (ks i) (h.2.1 i o)
  refine⟨p,u,?_⟩
  show getL (ks (UInt8.ofNat i).toNat) p=some u;rw[jgv (h.1 i o),e]
 rcases h.2.2 with⟨i,j,hij,o,hj⟩ |⟨hv,i,o⟩
 ·obtain⟨t,a,A⟩:=m i o
  obtain⟨s,b,E⟩:=m j hj
  refine⟨_,_,a,b,?_,A,E⟩
  intro e;have e:UInt8.ofNat i=UInt8.ofNat j:=by simpa using e
  have:=congrArg UInt8.toNat e
  rw[jgv (h.1 i o),jgv (h.1 j hj)]at this;exact hij this
 ·obtain⟨t,a,A⟩:=m i o
  refine⟨[],_,v,a,?_,?_,A⟩
  ·simp
  ·show (if v.size=0 then none else some v)=some v
   rw[if_neg hv]
theorem jiV:∀ (a r p q:vN),p.head?≠q.head?->r <+: a++p->r <+: a++q->r <+: a
 | [],r,p,q,h,m,o=>by
  cases r with
  | nil=>exact List.nil_prefix
  | cons x s =>
   obtain⟨H,A⟩:=m
   obtain⟨J,E⟩:=o
   rw[cM]at A E;exfalso;apply h;rw[<-A, <-E];rfl
 | y :: a,r,p,q,h,m,o=>by
  cases r with
  | nil=>exact List.nil_prefix
  | cons x s =>
   rw[cZ]at m o
   obtain⟨e,m⟩:=List.cons_prefix_cons.1 m
   obtain⟨_,o⟩:=List.cons_prefix_cons.1 o
   rw[e];exact List.cons_prefix_cons.2 ⟨rfl,jiV a s p q h m o⟩
theorem jiu(a:vB)(n:PA)(t:vN):getL (.ext a n) (a.data.toList++t)=getL n t:=by
 show (if a.data.toList.isPrefixOf (a.data.toList++t)=true then getL n ((a.data.toList++t).drop a.data.toList.length)else none)=getL n t;rw[if_pos (jcj.2 ⟨t,rfl⟩),fM]
theorem jeG{a:vB}{n:PA}{p:vN}{v:vB}(h:getL (.ext a n) p=some v):a.data.toList <+: p:=by
 have h:(if a.data.toList.isPrefixOf p=true then getL n (p.drop a.data.toList.length)else none)=some v:=h
 by_cases e:a.data.toList.isPrefixOf p=true
 ·exact List.isPrefixOf_iff_prefix.1 e
 ·rw[if_neg e]at h;cases h
theorem jm2{a:vB}{n:PA}(h:CanP (.ext a n)):∃ p q x y,p.head?≠q.head?/\getL (.ext a n) (a.data.toList++p)=some x/\getL (.ext a n) (a.data.toList++q)=some y:=by
 cases n with
 | br v ks =>
  obtain⟨p,q,x,y,e,m,o⟩:=jia h.2.2.2
  exact⟨p,q,x,y,e,by rw[jiu,m],by rw[jiu,o]⟩
 | nil=>cases h.2.2.1
 | no=>cases h.2.2.1
 | leaf _ _=>cases h.2.2.1
 | ext _ _=>cases h.2.2.1
theorem jda{a v:vB}{p:vN}{u:vB}(h:getL (.leaf a v) p=some u):a.data.toList=p/\v=u:=by
 have h:(if a.data.toList=p then some v else none)=some u:=h
 by_cases e:a.data.toList=p
 ·rw[if_pos e]at h;exact⟨e,bN h⟩
 ·rw[if_neg e]at h;cases h
theorem jkv{p q:vN}(h:p.head?≠q.head?):p≠q:=fun e=>h (by rw[e])
theorem uniq:∀ (P Q:PA),CanP P->CanP Q->(∀ p,getL P p=getL Q p)->P=Q
 | .nil,_,h,_,_=>h.elim
 | .no,_,h,_,_=>h.elim
 | .leaf a v,Q,h,k,e=>by
  cases Q with
  | nil=>exact k.elim
  | no=>exact k.elim
  | leaf b u =>
   have A:getL (.leaf b u) a.data.toList=some v:=by rw[<-e];exact if_pos rfl
   obtain⟨o,E⟩:=jda A
   rw[jbE o,E]
  | ext b n =>
   obtain⟨p,q,x,y,A,o,E⟩:=jm2 k
   rw[<-e]at o E;exact absurd (iT ((jda o).1.symm.trans (jda E).1)) (jkv A)
  | br u ks =>
   obtain⟨p,q,x,y,A,o,E⟩:=jia k
   rw[<-e]at o E;exact absurd ((jda o).1.symm.trans (jda E).1) (jkv A)
 | .ext a n,Q,h,k,e=>by
  obtain⟨p,q,x,y,A,o,E⟩:=jm2 h
  cases Q with
  | nil=>exact k.elim
  | no=>exact k.elim
  | leaf b u =>
   rw[e]at o E;exact absurd (iT ((jda o).1.symm.trans (jda E).1)) (jkv A)
  | ext b m =>
   have g2:=o;have g3:=E;rw[e]at g2 g3;have a1:=jiV _ _ p q A (jeG g2) (jeG g3)
   obtain⟨p',q',x',y',k1,K,O⟩:=jm2 k
   have f2:=K;have f3:=O;rw[<-e]at f2 f3;have a0:=jiV _ _ p' q' k1 (jeG f2) (jeG f3);have X:a.data.toList=b.data.toList:=a0.eq_of_length (Nat.le_antisymm a0.length_le a1.length_le);have X:=jbE X;subst X;rw[uniq n m h.2.2.2 k.2.2.2 (fun t=>by rw[<-jiu a n t, <-jiu a m t,e])]
  | br u ks =>
   exfalso
   obtain⟨p',q',x',y',k1,K,O⟩:=jia k
   rw[<-e]at K O;have Z:=jiV [] _ p' q' k1 (by simpa using jeG K) (by simpa using jeG O);have Z:=List.prefix_nil.1 Z;apply h.1;rw[<-jaI,Z];rfl
 | .br v ks,Q,h,k,e=>by
  cases Q with
  | nil=>exact k.elim
  | no=>exact k.elim
  | leaf b u =>
   obtain⟨p,q,x,y,A,o,E⟩:=jia h
   rw[e]at o E;exact absurd ((jda o).1.symm.trans (jda E).1) (jkv A)
  | ext b m =>
   exfalso
   obtain⟨p',q',x',y',k1,K,O⟩:=jia h
   rw[e]at K O;have Z:=jiV [] _ p' q' k1 (by simpa using jeG K) (by simpa using jeG O);have Z:=List.prefix_nil.1 Z;apply k.1;rw[<-jaI,Z];rfl
  | br u js =>
   have ev:v=u:=by
    have J:=e [];have J:(if v.size=0 then none else some v)=if u.size=0 then none else some u:=J
    by_cases hv:v.size=0
    ·by_cases hu:u.size=0
     ·rw[jbj hv,jbj hu]
     ·rw[if_pos hv,if_neg hu]at J;cases J
    ·by_cases hu:u.size=0
     ·rw[if_neg hv,if_pos hu]at J;cases J
     ·rw[if_neg hv,if_neg hu]at J;exact bN J
   have ek:ks=js:=by
    funext i
    have H:i < 16->∀ t,getL (ks i) t=getL (js i) t:=by
     intro hi t
     have:=e (UInt8.ofNat i :: t)
     have:getL (ks (UInt8.ofNat i).toNat) t=getL (js (UInt8.ofNat i).toNat) t:=this
     rw[jgv hi]at this;exact this
    cases A:(ks i).isNil with
    | true =>
     cases o:(js i).isNil with
     | true=>rw[jbv A,jbv o]
     | false =>
      obtain⟨t,z,hz⟩:=jeF (js i) (k.2.1 i o)
      rw[<-H (k.1 i o),jbv A]at hz;cases hz
    | false =>
     cases o:(js i).isNil with
     | true =>
      obtain⟨t,z,hz⟩:=jeF (ks i) (h.2.1 i A)
      rw[H (h.1 i A),jbv o]at hz;cases hz
     | false=>exact uniq (ks i) (js i) (h.2.1 i A) (k.2.1 i o) (H (h.1 i A))
   rw[ev,ek]
section
attribute [local go_sem] Oper.semAt_some
def jem(p:vB):Bool:=p.size % 2 == 0 && jaz p
def nib1(i:Nat):vB:=⟨#[UInt8.ofNat i]⟩
def keyV(p:vB):vV:=.tuple #[.string (if jem p=true then jbD p else ⟨#[]⟩),.bool (jem p)]
theorem juN(w:vW)(p:vB)(hs:p.size<=1000000):vR 226 #[.string p] w (keyV p):=by
 by_cases h2:p.size % 2=0
 ·have A:(p.size:Int) % 2=0:=vO
  cases hv:jaz p with
  | true =>
   have m:jem p=true:=by unfold jem;rw[hv,h2];rfl
   have o:keyV p=.tuple #[.string (jbD p),.bool true]:=by unfold keyV;rw[m];rfl
   rw[o];clear m o;go_enter Tryz.func226,Tryz.ntmps226;go_wp2_with fail
   refine (jk6 w p vO).mono ?_;rintro e w1 ⟨rfl,rfl⟩;rw[hv];go_wp2_with fail
   refine vC (jnx w1 p hs) fun H E=>?_;go_wp2_with fail
   go_ret2
   exact⟨rfl,E⟩
  | false =>
   have m:jem p=false:=by unfold jem;rw[hv,h2];rfl
   have o:keyV p=.tuple #[.string ⟨#[]⟩,.bool false]:=by unfold keyV;rw[m];rfl
   rw[o];clear m o;go_enter Tryz.func226,Tryz.ntmps226;go_wp2_with fail
   refine (jk6 w p vO).mono ?_;rintro e w1 ⟨rfl,rfl⟩;rw[hv];go_wp2_with fail
   go_ret2
   exact⟨rfl,ExtR w1⟩
 ·have A:¬(p.size:Int) % 2=0:=vO
  have m:jem p=false:=by unfold jem;rw[show (p.size % 2 == 0)=false by simpa using h2];rfl
  have o:keyV p=.tuple #[.string ⟨#[]⟩,.bool false]:=by unfold keyV;rw[m];rfl
  have J:((p.size:Int) % 2 != 0)=true:=by simpa using A
  rw[o];clear m o;go_enter Tryz.func226,Tryz.ntmps226;go_wp2_with fail
  go_ret2
  exact⟨rfl,ExtR w⟩
end
def sumF(g:Nat->Nat):Nat->Nat
 | 0=>0
 | n+1=>sumF g n+g n
def cntT:Nat->vL->Nat
 | 0,_=>1
 | f+1,l=>1+(if l.length<=1 then 0 else if 0 < comK l then cntT f (jak (comK l) l)else sumF (fun i=>if (cutL i l).length=0 then 0 else cntT f (jak 1 (cutL i l))) 16)
theorem jpe(g:Nat->Nat)(l:vL)(h0:∀ i,(cutL i l).length=0->g i=0)(hg:∀ i,(cutL i l).length≠0->g i+2<=3 * (cutL i l).length):∀ n,sumF g n+2 * jdr l n<=3 * jdh l n
 | 0=>by simp[sumF,jdh,jdr]
 | n+1=>by
  have e:=jpe g l h0 hg n;rw[sumF,jdh,jdr]
  by_cases hz:(cutL n l).length=0
  ·rw[if_pos hz,h0 n hz];omega
  ·have:=hg n hz
   rw[if_neg hz];omega
structure CntP(c:Nat)(l:vL):Prop where
 all:c+2<=3 * l.length
 two:2<=l.length->comK l=0->c+3<=3 * l.length
theorem jyX:∀ (f:Nat) (l:vL),jax f l->l≠[]->CntP (cntT f l) l:=by
 intro f;induction f with
 | zero =>
  intro l h Z;have h0:l.length≠0:=fun e=>Z (bD e);have hl:=jbM h
  exact⟨by show 1+2<=_;omega,fun h2=>by omega⟩
 | succ f ih =>
  intro l h Z;have h0:l.length≠0:=fun e=>Z (bD e)
  by_cases h1:l.length=1
  ·have e:cntT (f+1) l=1:=by unfold cntT;rw[if_pos vO]
   exact⟨by omega,fun h2=>by omega⟩
  have h2:2<=l.length:=vO
  have m:=jbk h h2
  by_cases hk:0 < comK l
  ·have a0:jax f (jak (comK l) l):=(jb8 (comK l) h (fun p hp q hq=>(m p hp).1.trans (m q hq).1.symm) (fun p hp=>(m p hp).2)).mono vO
   have H:jak (comK l) l≠[]:=fun e=>by have:=jaL (comK l) l;rw[e]at this;simp at this;omega
   have o:=(ih _ a0 H).two (by rw[jaL];omega) (jgf vO);rw[jaL]at o;have e:cntT (f+1) l=1+cntT f (jak (comK l) l):=by rw[cntT,if_neg vO,if_pos hk]
   exact⟨by omega,fun _ hz=>by omega⟩
  ·have J:∀ i,(cutL i l).length≠0->jak 1 (cutL i l)≠[]:=fun i K e=>by have:=jaL 1 (cutL i l);rw[e]at this;simp at this;omega
   obtain⟨a,ha⟩:∃ a,l[0]?=some a:=⟨_,bA vO⟩
   obtain⟨b,hb⟩:∃ b,l[l.length - 1]?=some b:=⟨_,bA vO⟩
   have ga:l.getD 0 pd=a:=by rw[bC,ha];rfl
   have gb:l.getD (l.length - 1) pd=b:=by rw[bC,hb];rfl
   have A:=bE ha;have O:=bE hb;have Q:=jb9 h.rise vO ha hb
   obtain⟨g,E⟩:=vE (fun i=>if (cutL i l).length=0 then 0 else cntT f (jak 1 (cutL i l)))
   have e:cntT (f+1) l=1+sumF g 16:=by rw[cntT,if_neg vO,if_neg hk,E]
   have o:sumF g 16+4<=3 * l.length:=by
    have a2:=jpe g l (fun i K=>by rw[E];simp only[K,if_true]) (fun i K=>by
     have:=(ih _ (jcU i h) (J i K)).all
     rw[jaL]at this;rw[E];simp only[if_neg K];exact this) 16
    have X:ja0 a.l b.l=0:=by
     have:comK l=ja0 a.l b.l:=by unfold comK jal;rw[ga,gb]
     omega
    cases hbl:b.l with
    | nil=>rw[hbl]at Q;exact absurd Q (not_lt_nil _)
    | cons y t =>
     have hy:=jcR (h.size b O).2.2.1 hbl;have cb:=jfU O hbl;cases hal:a.l with
     | nil =>
      have:=jlD ⟨a,A,hal⟩ 16
      have:=jiR cb hy
      omega
     | cons x r =>
      have hx:=jcR (h.size a A).2.2.1 hal;have ca:=jfU A hal;have a1:x≠y:=by
       intro e;rw[hal,hbl,e]at X;simp[ja0]at X
      have H:x.toNat≠y.toNat:=fun e=>a1 (dM.1 e)
      have:=je6 l 16
      have:2<=jdr l 16:=by
       rcases fH x.toNat y.toNat with e | e
       ·exact jgy ca cb e hy
       ·exact jgy cb ca vO hx
      omega
   exact⟨by omega,fun _ _=>by omega⟩
theorem jtb{α:Type}{R:α->α->Prop}(hi:∀ x,¬ R x x)(ht:∀ x y,R x y->¬ R y x):∀ {a b:List α},a.Pairwise R->b.Pairwise R->(∀ x,x∈a↔x∈b)->a=b
 | [],[],_,_,_=>rfl
 | [],y :: b,_,_,h=>absurd ((h y).2 bK) (by simp)
 | x :: a,[],_,_,h=>absurd ((h x).1 bK) (by simp)
 | x :: a,y :: b,ha,hb,h=>by
  rw[dY]at ha hb;have e:x=y:=by
   rcases bX.1 ((h x).1 bK)with e | h1
   ·exact e
   rcases bX.1 ((h y).2 bK)with e | h2
   ·exact e.symm
   exact absurd (ha.1 y h2) (ht _ _ (hb.1 x h1))
  subst e;rw[jtb hi ht ha.2 hb.2 fun z=>?_];constructor
  ·intro m
   rcases bX.1 ((h z).1 (bH _ m))with e | h1
   ·subst e;exact absurd (ha.1 z m) (hi z)
   ·exact h1
  ·intro m
   rcases bX.1 ((h z).2 (bH _ m))with e | h1
   ·subst e;exact absurd (hb.1 z m) (hi z)
   ·exact h1
def jrF(l:vL):vL:=l.filter fun q=>q.1.size=0
theorem jtj(p:Pair):p.1.size=0↔p.l=[]:=by
 show p.1.data.toList.length=0↔_;exact List.length_eq_zero_iff
theorem jsb(x y:vN)(h:Lt x y):¬ Lt y x:=fun k=>lt_irrefl _ (jdQ _ _ _ h k)
theorem jqm{f:Nat}{l:vL}(h:jax f l):l=jrF l++(List.range 16).flatMap fun i=>cutL i l:=by
 refine jtb (R:=fun p q:Pair=>Lt p.l q.l) (fun x=>lt_irrefl _) (fun x y=>jsb _ _) h.rise ?_ fun p=>?_
 ·rw[List.pairwise_append]
  refine⟨h.rise.filter _,?_,fun p e q m=>?_⟩
  ·have:∀ n,((List.range n).flatMap fun i=>cutL i l).Pairwise fun p q:Pair=>Lt p.l q.l:=fun n=>by
    induction n with
    | zero=>simp
    | succ n ih =>
     rw[fT,fN,List.pairwise_append]
     refine⟨ih,?_,fun p e q m=>?_⟩
     ·simpa using (jrx n h).rise
     ·obtain⟨i,A,e⟩:=fA.1 e
      simp only[dI,List.flatMap_nil,cC]at m
      obtain⟨_,a,r,E,K⟩:=jbB e
      obtain⟨_,b,t,o,O⟩:=jbB m
      rw[E,o]
      have:=dZ.1 A
      exact jbw.2 (.inl (dA.2 vO))
   exact this 16
  ·obtain⟨_,H⟩:=cU.1 e
   obtain⟨i,_,m⟩:=fA.1 m
   obtain⟨_,b,t,o,_⟩:=jbB m
   rw[(jtj p).1 (by simpa using H),o];exact joM
 ·rw[bW]
  constructor
  ·intro e
   cases hl:p.l with
   | nil=>exact .inl (cU.2 ⟨e,by simpa using (jtj p).2 hl⟩)
   | cons x r =>
    have J:=jcR (h.size p e).2.2.1 hl;exact .inr (fA.2 ⟨x.toNat,dZ.2 J,jrz e hl⟩)
  ·rintro (e | e)
   ·exact (cU.1 e).1
   ·obtain⟨i,_,e⟩:=fA.1 e
    exact (jbB e).1
theorem jpQ{f:Nat}{l:vL}(h:jax f l)(hn:l≠[]):jrF l=if (l.getD 0 pd).1.size=0 then [l.getD 0 pd]else []:=by
 cases l with
 | nil=>exact absurd rfl hn
 | cons p r =>
  have o:∀ q∈r,¬ q.1.size=0:=fun q m e=>by
   have:=(dY.1 h.rise).1 q m
   rw[(jtj q).1 e]at this;exact not_lt_nil _ this
  have A:r.filter (fun q:Pair=>q.1.size=0)=[]:=by
   rw[List.filter_eq_nil_iff];intro q m;simpa using o q m
  show (p :: r).filter _=if p.1.size=0 then [p]else []
  rw[fZ,A]
  by_cases e:p.1.size=0
  ·rw[if_pos e,if_pos (by simpa using e)]
  ·rw[if_neg e,if_neg (by simpa using e)]
theorem jdx(a b:vB):(a++b).data.toList=a.data.toList++b.data.toList:=by rw[cW,fO]
theorem jzo{x:vU}{i:Nat}(h:x.toNat=i):UInt8.ofNat i=x:=by subst h;exact iN
theorem jwE{p:vB}{i k:Nat}{q:Pair}{x:vU}{r:vN}(h:q.l=x :: r)(hx:x.toNat=i):p++q.1=(p++nib1 i)++q.1.extract 1 q.1.size:=by
 refine jbE ?_;rw[jdx,jdx,jdx,jcP _ _ _ (bM _)];have h:q.1.data.toList=x :: r:=h;rw[h];unfold nib1;rw[jzo hx];simp
theorem jwF{p:vB}{k:Nat}{q:Pair}{a:vB}(h:q.l.take k=a.data.toList):p++q.1=(p++a)++q.1.extract k q.1.size:=by
 refine jbE ?_;rw[jdx,jdx,jdx,jcP _ _ _ (bM _), <-h,cB];show _++q.l=_++(q.l.take k++q.l.drop k);rw[cQ]
section
attribute [local go_sem] Oper.semAt_some
end
end Go.Proofs.YtegloohdmjadoaaGreatDoor
