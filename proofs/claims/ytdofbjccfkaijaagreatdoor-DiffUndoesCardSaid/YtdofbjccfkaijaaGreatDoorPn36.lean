/- Lemmas; each is under no condition but those that it states. -/
import Derived.Test.YtdofbjccfkaijaaGreatDoorPn35
import Derived.Lib.SmallJoins
import Derived.Test.YtdofbjccfkaijaaGreatDoorCards
import Derived.Test.YtdofbjccfkaijaaGreatDoorTie
import Derived.Deep.DeepHandedRow
import Derived.Lay
namespace Go.Proofs.YtdofbjccfkaijaaGreatDoor
set_option linter.unusedSimpArgs false
set_option linter.unusedVariables false
set_option maxRecDepth 100000
set_option maxHeartbeats 16000000
section
open Go Go.RowKit
attribute [local go_sem] Oper.semAt_some
theorem jwz(w:vW)(hc:jbY w)(he:ErrT w)(u z v:vV)(a:vL)(cs:List Chg)(b:vL)(root:vB)(ha:RdP w u a)(hz:RdC w z cs)(hb:RdP w v b)(hna:a.length<=9223372036854775807)(hnb:b.length<=9223372036854775807)(hnc:cs.length<=9223372036854775807)(hsa:jb7 a)(hsb:jb7 b)(hsc:∀ c∈cs,c.key.size<=9223372036854775807/\c.value.size<=9223372036854775807)(hro:root.size<=9223372036854775807) :
  vR 3 #[u,z,v,.string root] w (.bool true):=by
 have HC:=Hd hc;have c2:=Hd he;have HA:=Hd ha;have HB:=Hd hb;have HZ:=Hd hz;have HN:=Hd (bB (bB hna hnb) (bB hsa hsb));have J:=Hd (bB hnc hsc)
 obtain⟨ua,uc,rfl⟩:=ha.sl
 obtain⟨va,vc,rfl⟩:=hb.sl
 obtain⟨za,zc,rfl⟩:=hz.sl
 clear hc he ha hb hna hnb hsa hsb hz hnc hsc;go_enter Tryz.func3,Tryz.ntmps3;go_wp2_with fail
 refine vH (jun w HC.o c2.o) fun w1 c3=>?_;go_wp2_with fail
 refine (jrB w1 _ _ a cs (HA.o.ext c3.o) (HZ.o.ext c3.o) HN.o.1.1 J.o.1 HN.o.2.1 J.o.2).mono ?_;rintro e w2 ⟨ma,mc,mk,m,rfl,e5,a7,e6,e7,e8⟩;have e9:=Hd (c3.o.trans e5);have f0:=Hd a7;have c4:=Hd (bB e6 (bB e7 e8));clear e5 a7 e6 e7 e8;go_wp2_with fail
 refine (jiR w2 (HC.o.ext e9.o) _ m f0.o (by have:=c4.o.1;omega) c4.o.2.1).mono ?_;rintro e w3 ⟨xa,xn,xc,xk,X,rfl,hX,g5,a3,f1,f2⟩;have HX:=Hd hX;have a8:=Hd (e9.o.trans hX.ext);have g6:=Hd (bB a3 (bB f1 f2));clear hX g5 a3 f1 f2;go_wp2_with fail
 refine (jzI w3 (HC.o.ext a8.o) (c2.o.ext a8.o) _ _ _ a b X (HA.o.ext a8.o) (HB.o.ext a8.o) HN.o.1.1 HN.o.1.2 HN.o.2.1 HN.o.2.2 HX.o.own (by have:=g6.o.1;omega)).mono ?_;rintro e w4 (⟨rfl,A⟩ |⟨s,bm,S,rfl,hY⟩)
 ·have a9:=Hd (a8.o.trans A)
  clear A;go_wp2_with fail
  refine vH (jwQ w4 _ cs (HZ.o.ext a9.o) J.o.1 J.o.2) fun w5 A=>?_;have E:=Hd (a9.o.trans A);go_wp2_with fail
  go_ret
  exact⟨rfl,E.o⟩
 have HY:=Hd hY;have a9:=Hd (a8.o.trans hY.tst.ext)
 obtain⟨ra,c5⟩:=vE (rootM a)
 obtain⟨rb,c6⟩:=vE (rootM b)
 have f3:=Hd (bB c5 c6);rw[<-c5, <-c6];clear c5 c6 hY;go_wp2_with fail
 refine vH (jwQ w4 _ cs (HZ.o.ext a9.o) J.o.1 J.o.2) fun w5 c7=>?_;have E:=Hd (a9.o.trans c7)
 obtain⟨fc,c8⟩:=vE (fewC cs)
 have g7:=Hd c8;rw[<-c8];clear c8;cases fc with
 | false =>
  go_wp2_with fail
  go_ret
  exact⟨rfl,E.o⟩
 | true =>
 by_cases hlr:root.size<=50
 case neg =>
  have d1:(root.size:Int) > 50:=vO
  go_wp2_with fail
  go_ret
  exact⟨rfl,E.o⟩
 have d1:¬(root.size:Int) > 50:=vO
 have h3:=Hd (show InjL (ja5 a++ja5 b)from fun x hx y hy e=>HY.o.inj x (fE _ hx) y (fE _ hy) e);have g8:=Hd (show jnc (ja5 a++ja5 b)from jte (jdZ HY.o.ha.ok) (jdZ HY.o.hb.ok));have b0:=Hd (HY.o.tst.grow c7.o);have f4:Hid (AllN S):=b0.o.kp.nodes g8.o;have b2:S.length<=1000000:=by have:=b0.o.len;omega
 have O:=Hd b2;have a4:cs.length<=45:=by
  have h:=g7.o.symm;unfold fewC at h;simp at h;omega
 have b6:=Hd a4
 obtain⟨ks,c9⟩:=vE (baL (jdD (S.map (·.1))))
 have d0:=Hd (fun(W:vW) (k:Ext w5 W)=>(show vQ 9 #[.pointer (some ⟨s,0,none⟩)] W fun e w'=>∃ v,e=.returned v/\SRow W w' v S.length ks by rw[c9];exact jt3 W s bm 2000 S (b0.o.st.ext k) O.o));have b7:=Hd (show ks.length=S.length by rw[c9];unfold baL;rw[cC,jfs,cC]);clear b2 a4 c9;go_wp2_with fail
 refine (d0.o w5 (ExtR w5)).mono ?_;rintro e w6 ⟨v6,rfl,b8⟩;have d2:=Hd (b8.ext);have f5:=Hd (SRow.rd b8)
 obtain⟨h4,h5,rfl⟩:=b8.sl
 clear b8;go_wp2_with fail
 have H:=jwy w6 s bm 2000 S (b0.o.st.ext d2.o) f4.o HY.o.ha _ cs (HZ.o.ext (E.o.trans d2.o)) J.o.1 J.o.2;rw[<-f3.o.1]at H;refine H.mono ?_;rintro e w7 ⟨ga,gc,rfl,A,f6⟩;have d3:=Hd (d2.o.trans A);have e4:=Hd A;have f7:=Hd f6
 obtain⟨ul,d4⟩:=vE (jli a cs)
 obtain⟨ex,d5⟩:=vE (jaW a cs)
 rw[<-d4]at f7 ⊢;rw[<-d5];have Q:=Hd (bB d4 d5);clear A f6 H d4 d5;go_wp2_with fail
 have H:=jyE w7 (.slice ua a.length uc) (.slice za cs.length zc) a cs (HA.o.ext (E.o.trans d3.o)) (HZ.o.ext (E.o.trans d3.o)) HY.o.ha.ok b6.o J.o.2;unfold juy at H;rw[<-Q.o.1, <-Q.o.2]at H;refine H.mono ?_;rintro e w8 ⟨ja,jc,rfl,A,f8⟩;have K:=Hd (d3.o.trans A);have b3:=Hd (e4.o.trans A);have f9:=Hd f8;have b4:=Hd (f7.o.ext A);clear A f8 H;have g0:=Hd (show ul.length<=1000000 by rw[Q.o.1];have:=jui a cs HY.o.ha.ok;omega);have b1:=Hd (fun(W:vW) (k:Ext w5 W) (t:vB)=>jiN W (HC.o.ext (E.o.trans k)) (c2.o.ext (E.o.trans k)) s bm 2000 S (b0.o.st.ext k) f4.o HY.o.ha (.slice za cs.length zc) cs (HZ.o.ext (E.o.trans k)) J.o.1 J.o.2 t);rw[<-f3.o.1]at b1;have h6:(ex == ex)=true:=by simp
 by_cases h0:ex=0
 case neg =>
  have c1:(ex == 0)=false:=by simpa using h0
  have b9:=Hd (show makesN a cs rb=ex by unfold makesN;rw[if_neg (by rw[<-Q.o.2];exact h0),Q.o.2]);have c0:=Hd (show makesN a cs root=ex by unfold makesN;rw[if_neg (by rw[<-Q.o.2];exact h0),Q.o.2]);have a5:=Hd (ExtR w8);clear h0;go_wp2_with fail
  refine vH (joc _ _ _ ul (b4.o.ext a5.o) (f9.o.ext a5.o) g0.o) fun d6 A=>?_;have Z:=Hd (a5.o.trans A);go_wp2_with fail
  have H:=b1.o d6 (K.o.trans Z.o) rb;rw[b9.o]at H;refine H.mono ?_;rintro e d7 ⟨rfl,A⟩;have a0:=Hd (Z.o.trans A);clear A H;go_wp2_with fail
  have H:=b1.o d7 (K.o.trans a0.o) root;rw[c0.o]at H;refine H.mono ?_;rintro e d8 ⟨rfl,A⟩;have a1:=Hd (a0.o.trans A);clear A H;go_wp2_with fail
  refine (d0.o d8 (K.o.trans a1.o)).mono ?_;rintro e d9 ⟨g9,rfl,hR⟩;have a2:=Hd (a1.o.trans hR.ext);have e0:=Hd (SRow.rd hR)
  obtain⟨ta,tc,rfl⟩:=hR.sl
  clear hR;go_wp2_with fail
  refine vH (jtY d9 _ _ ks ks e0.o (f5.o.ext (b3.o.trans a2.o)) (by rw[b7.o];exact O.o) (by rw[b7.o];exact O.o)) fun h2 A=>?_;have a6:=Hd (a2.o.trans A);rw[show decide (ks=ks)=true by simp];go_wp2_with fail
  go_ret
  exact⟨rfl,E.o.trans (K.o.trans a6.o)⟩
 have e1:=Hd (Q.o.2.symm.trans h0);subst h0;have hm:m=ja6 a cs:=c4.o.2.2 e1.o;have g1:jaw m=0:=by rw[hm];exact jbZ e1.o
 obtain⟨rm,a7⟩:=vE (rootM m)
 have g2:=Hd (fun(W:vW) (k:Ext w2 W)=>(show vQ 12 #[.slice ma m.length mc] W fun e w'=>e=.returned (.string rm)/\Ext W w' by rw[a7];exact jwh W _ m (f0.o.ext k) g1));have g3:=Hd (fun(t:vB)=>(show makesN a cs t=if rm=t then 0 else 9 by unfold makesN;rw[if_pos e1.o, <-hm, <-a7]));have b5:Hid (Ext w2 w8):=HX.o.ext.trans (HY.o.tst.ext.trans (c7.o.trans K.o));clear hm g1 a7
 obtain⟨q1,e2⟩:∃ q,q=decide (rm=rb):=⟨_,rfl⟩
 obtain⟨q2,e3⟩:∃ q,q=decide (rm=root):=⟨_,rfl⟩
 have b9:=Hd (show makesN a cs rb=cond q1 0 9 by rw[g3.o,e2];by_cases e:rm=rb <;> simp[e]);have c0:=Hd (show makesN a cs root=cond q2 0 9 by rw[g3.o,e3];by_cases e:rm=root <;> simp[e]);have h7:(rm.toList == rb.toList)=q1:=by rw[jd6,e2]
 have h8:(rm.toList == root.toList)=q2:=by rw[jd6,e3]
 clear e2 e3;cases q1 with
 | _ =>
  cases q2 with
  | _ =>
   simp only[cond_true,cond_false]at b9 c0;go_wp2_with fail
   refine vH (g2.o w8 b5.o) fun w9 g4=>?_;go_wp2_with fail
   refine vH (g2.o w9 (b5.o.trans g4.o)) fun h9 A=>?_;have a5:=Hd (g4.o.trans A);go_wp2_with fail
   refine vH (joc _ _ _ ul (b4.o.ext a5.o) (f9.o.ext a5.o) g0.o) fun d6 A=>?_;have Z:=Hd (a5.o.trans A);go_wp2_with fail
   have H:=b1.o d6 (K.o.trans Z.o) rb;rw[b9.o]at H;refine H.mono ?_;rintro e d7 ⟨rfl,A⟩;have a0:=Hd (Z.o.trans A);clear A H;go_wp2_with fail
   have H:=b1.o d7 (K.o.trans a0.o) root;rw[c0.o]at H;refine H.mono ?_;rintro e d8 ⟨rfl,A⟩;have a1:=Hd (a0.o.trans A);clear A H;go_wp2_with fail
   refine (d0.o d8 (K.o.trans a1.o)).mono ?_;rintro e d9 ⟨g9,rfl,hR⟩;have a2:=Hd (a1.o.trans hR.ext);have e0:=Hd (SRow.rd hR)
   obtain⟨ta,tc,rfl⟩:=hR.sl
   clear hR;go_wp2_with fail
   refine vH (jtY d9 _ _ ks ks e0.o (f5.o.ext (b3.o.trans a2.o)) (by rw[b7.o];exact O.o) (by rw[b7.o];exact O.o)) fun h2 A=>?_;have a6:=Hd (a2.o.trans A);rw[show decide (ks=ks)=true by simp];go_wp2_with fail
   go_ret
   exact⟨rfl,E.o.trans (K.o.trans a6.o)⟩
end
section
open Go Go.ChangeShapes Go.WideShapes Go.ChangeAt Go.RowKit Go.Deep
theorem Tryz.ownK:ownKnob Tryz.prog.godebug=none:=vY
theorem Tryz.laidOutK:laidOutB Tryz.prog=true:=vY
theorem Tryz.cellsEnt:Tryz.prog.cellsOf 47=2:=vY
theorem Tryz.cellsStr:Tryz.prog.cellsOf 9=1:=vY
theorem Tryz.cellsBool:Tryz.prog.cellsOf 4=1:=vY
theorem jc3:maxLen<=9223372036854775807:=by unfold maxLen;omega
section
variable {H:Type} {enc:TypeId × vV->H} {w:vW} {base:Nat} {spare:Nat->Bool} {held:Bool}
theorem jvQ{n:Nat}{a:Addr}{cs:List vV}{x:DataW H × List MemPlace}(hc:w.cells? base a 2=some cs)(h:DataW.trod enc Tryz.prog w base spare held n 47 cs=some x) :
  ∃ p:Pair,w.cell? (a.add 0)=some (.string p.1)/\w.cell? (a.add 1)=some (.string p.2)/\p.1.size<=9223372036854775807/\p.2.size<=9223372036854775807:=by
 obtain⟨_,Q,A⟩:=World.cells?_some hc
 obtain⟨xs,m,_,_,_,z,E⟩:=DataW.trod_struct Tryz.underlying47 h
 match cs,Q with
 | [c0,c1],_ =>
  have e:DataW.trod enc Tryz.prog w base spare held m 9 (([c0,c1].drop 0).take (Tryz.prog.cellsOf 9))=xs[0]?:=E 0 _ rfl;have o:DataW.trod enc Tryz.prog w base spare held m 9 (([c0,c1].drop 1).take (Tryz.prog.cellsOf 9))=xs[1]?:=E 1 _ rfl;rw[Tryz.cellsStr]at e o;dsimp only[List.drop,List.take]at e o;have J:∀ i,i < 2->∃ y,xs[i]?=some y:=fun i X=>⟨_,bA (by rw[z];exact X)⟩
  obtain⟨y0,Z⟩:=J 0 vO
  obtain⟨y1,e1⟩:=J 1 vO
  rw[Z]at e;rw[e1]at o
  obtain⟨r,K,_,w0⟩:=DataW.trod_string Tryz.underlying9 e
  obtain⟨s,O,_,w1⟩:=DataW.trod_string Tryz.underlying9 o
  simp only[List.cons.injEq,and_true]at K O;subst K O
  exact⟨(r,s),A 0 vO,A 1 vO,bK w0 jc3,bK w1 jc3⟩
theorem jsN{α:Type}(n:Nat)(d:α)(P:Nat->α->Prop)(h:∀ i,i < n->∃ x,P i x):∃ l:List α,l.length=n/\∀ i x,l[i]?=some x->P i x:=by
 induction n with
 | zero=>exact⟨[],rfl,fun i x o=>by simp at o⟩
 | succ n ih =>
  obtain⟨l,z,A⟩:=ih fun i E=>h i vO
  obtain⟨x,o⟩:=h n vO
  refine⟨l++[x],by simp[z],fun i y e=>?_⟩
  by_cases E:i < n
  ·rw[dB vO]at e;exact A i y e
  ·rw[cV vO]at e
   have:i - l.length=0:=by
    have:=(bP.1 e).1
    simp at this;omega
   rw[this]at e;simp at e;subst e;rw[show i=n by omega];exact o
theorem jhL{v:vV}{d:DataW H}{p:List MemPlace}(hv:∃ a n c,v=.slice a n c)(h:DataW.Trod enc Tryz.prog w 0 spare held 22 v d p) :
  ∃ l:vL,RdP w v l/\l.length<=9223372036854775807/\∀ p∈l,p.1.size<=9223372036854775807/\p.2.size<=9223372036854775807:=by
 obtain⟨X,Z,c0,rfl⟩:=hv
 obtain⟨a1,hf⟩:=h
 rcases open_slice Tryz.underlying22 hf with⟨hcs,_⟩ |⟨a,len,cap,m,n,D,Pl,hcs,_,hl,hm,hmm,_,O⟩
 ·simp only[Value.cells]at hcs
  have e:Value.slice X Z c0=.slice none 0 0:=by simpa using hcs
  rw[e]
  exact⟨[],.inl ⟨none,0,rfl,rfl⟩,by simp,by simp⟩
 ·have e:Value.slice X Z c0=.slice (some a) len cap:=by simpa [Value.cells]using hcs
  rw[e];have a2:len<=m:=by rw[hmm];split <;> omega
  obtain⟨l,E,A⟩:=jsN len pd (fun i p=>w.cell? ((a.add (i * 2)).add 0)=some (.string p.1)/\w.cell? ((a.add (i * 2)).add 1)=some (.string p.2)/\p.1.size<=9223372036854775807/\p.2.size<=9223372036854775807) (fun i a3=>by
   obtain⟨a4,h1,h2⟩:=O i vO
   rw[Tryz.cellsEnt]at h1;exact jvQ h1 h2)
  have Q:∀ p∈l,p.1.size<=9223372036854775807/\p.2.size<=9223372036854775807:=fun p hp=>by
   obtain⟨i,O⟩:=gR hp
   exact (A i p O).2.2
  have J:l.length<=9223372036854775807:=by have:=jc3;omega
  refine⟨l,?_,J,Q⟩
  by_cases h0:len=0
  ·subst h0
   exact .inl ⟨some a,cap,rfl,bD E⟩
  ·obtain⟨p0,K⟩:∃ p,l[0]?=some p:=⟨_,bA vO⟩
   have z:a.spot=none:=by simpa [Addr.add]using World.cell?_spot (A 0 p0 K).1
   obtain⟨b,o,sp⟩:=a
   dsimp only at z;subst z;refine .inr ⟨b,o,cap,by rw[E],fK w _ (A 0 p0 K).1,by omega,fun j x hx=>?_⟩
   obtain⟨q1,q2,_⟩:=A j x hx
   rw[Go.Deep.add_add,Go.WideShapes.add_plain]at q1 q2
   exact⟨q1,q2⟩
end
end
section
open Go Go.ChangeShapes Go.WideShapes Go.ChangeAt Go.RowKit Go.Deep
theorem Tryz.cellsChg:Tryz.prog.cellsOf 49=3:=vY
section
variable {H:Type} {enc:TypeId × vV->H} {w:vW} {base:Nat} {spare:Nat->Bool} {held:Bool}
theorem jvP{n:Nat}{a:Addr}{cs:List vV}{x:DataW H × List MemPlace}(hc:w.cells? base a 3=some cs)(h:DataW.trod enc Tryz.prog w base spare held n 49 cs=some x) :
  ∃ p:Chg,w.cell? (a.add 0)=some (.string p.key)/\w.cell? (a.add 1)=some (.string p.value)/\w.cell? (a.add 2)=some (.bool p.gone)/\p.key.size<=9223372036854775807/\p.value.size<=9223372036854775807:=by
 obtain⟨_,Z,A⟩:=World.cells?_some hc
 obtain⟨xs,m,_,_,_,E,J⟩:=DataW.trod_struct Tryz.underlying49 h
 match cs,Z with
 | [c0,c1,c2],_ =>
  have e:DataW.trod enc Tryz.prog w base spare held m 9 (([c0,c1,c2].drop 0).take (Tryz.prog.cellsOf 9))=xs[0]?:=J 0 _ rfl;have o:DataW.trod enc Tryz.prog w base spare held m 9 (([c0,c1,c2].drop 1).take (Tryz.prog.cellsOf 9))=xs[1]?:=J 1 _ rfl;have z:DataW.trod enc Tryz.prog w base spare held m 4 (([c0,c1,c2].drop 2).take (Tryz.prog.cellsOf 4))=xs[2]?:=J 2 _ rfl;rw[Tryz.cellsStr]at e o;rw[Tryz.cellsBool]at z;dsimp only[List.drop,List.take]at e o z;have K:∀ i,i < 3->∃ y,xs[i]?=some y:=fun i hi=>⟨_,bA (by rw[E];exact hi)⟩
  obtain⟨y0,e0⟩:=K 0 vO
  obtain⟨y1,e1⟩:=K 1 vO
  obtain⟨y2,e2⟩:=K 2 vO
  rw[e0]at e;rw[e1]at o;rw[e2]at z
  obtain⟨r,O,_,w0⟩:=DataW.trod_string Tryz.underlying9 e
  obtain⟨s,Q,_,w1⟩:=DataW.trod_string Tryz.underlying9 o
  obtain⟨b,X,_⟩:=DataW.trod_bool Tryz.underlying4 z
  simp only[List.cons.injEq,and_true]at O Q X;subst O Q X
  exact⟨⟨r,s,b⟩,A 0 vO,A 1 vO,A 2 vO,bK w0 jc3,bK w1 jc3⟩
theorem jmt{v:vV}{d:DataW H}{p:List MemPlace}(hv:∃ a n c,v=.slice a n c)(h:DataW.Trod enc Tryz.prog w 0 spare held 23 v d p) :
  ∃ l:List Chg,RdC w v l/\l.length<=9223372036854775807/\∀ p∈l,p.key.size<=9223372036854775807/\p.value.size<=9223372036854775807:=by
 obtain⟨X,Z,c0,rfl⟩:=hv
 obtain⟨a1,hf⟩:=h
 rcases open_slice Tryz.underlying23 hf with⟨hcs,_⟩ |⟨a,len,cap,m,n,D,Pl,hcs,_,hl,hm,hmm,_,O⟩
 ·simp only[Value.cells]at hcs
  have e:Value.slice X Z c0=.slice none 0 0:=by simpa using hcs
  rw[e]
  exact⟨[],.inl ⟨none,0,rfl,rfl⟩,by simp,by simp⟩
 ·have e:Value.slice X Z c0=.slice (some a) len cap:=by simpa [Value.cells]using hcs
  rw[e];have a2:len<=m:=by rw[hmm];split <;> omega
  obtain⟨l,E,A⟩:=jsN len (⟨⟨#[]⟩,⟨#[]⟩,false⟩:Chg) (fun i p=>w.cell? ((a.add (i * 3)).add 0)=some (.string p.key)/\w.cell? ((a.add (i * 3)).add 1)=some (.string p.value)/\w.cell? ((a.add (i * 3)).add 2)=some (.bool p.gone)/\p.key.size<=9223372036854775807/\p.value.size<=9223372036854775807) (fun i a3=>by
   obtain⟨a4,h1,h2⟩:=O i vO
   rw[Tryz.cellsChg]at h1;exact jvP h1 h2)
  have Q:∀ p∈l,p.key.size<=9223372036854775807/\p.value.size<=9223372036854775807:=fun p hp=>by
   obtain⟨i,O⟩:=gR hp
   exact (A i p O).2.2.2
  have J:l.length<=9223372036854775807:=by have:=jc3;omega
  refine⟨l,?_,J,Q⟩
  by_cases h0:len=0
  ·subst h0
   exact .inl ⟨some a,cap,rfl,bD E⟩
  ·obtain⟨p0,K⟩:∃ p,l[0]?=some p:=⟨_,bA vO⟩
   have z:a.spot=none:=by simpa [Addr.add]using World.cell?_spot (A 0 p0 K).1
   obtain⟨b,o,sp⟩:=a
   dsimp only at z;subst z;refine .inr ⟨b,o,cap,by rw[E],fK w _ (A 0 p0 K).1,by omega,fun j x hx=>?_⟩
   obtain⟨q1,q2,q3,_⟩:=A j x hx
   rw[Go.Deep.add_add,Go.WideShapes.add_plain]at q1 q2 q3
   exact⟨q1,q2,q3⟩
end
end
section
open Go Go.RowKit
def jr1:List Int:=jeZ.map fun x=>(x.toNat:Int)
theorem jr2:(Rows.laid_guilloche_sha_cubes:DataW Unit)=Lib.tabData .u32 jr1:=vY
theorem Tryz.gCubes:Tryz.prog.globalNamed "guilloche/sha.cubes"=some 0:=vY
theorem Tryz.gCubesType:(Tryz.prog.globals[0]?).map (·.type)=some 214:=vY
theorem Tryz.uCubes:Tryz.prog.underlying 214=some (.array 64 131):=vY
theorem Tryz.cellsU32:Tryz.prog.cellsOf 131=1:=vY
theorem Tryz.cellsCubes:Tryz.prog.cellsOf 214=64:=vY
theorem juX{W:vW}(h:laidMetH Tryz.prog [("errors.errorType",Rows.laid_errors_errorType),("guilloche/sha.cubes",Rows.laid_guilloche_sha_cubes)] W):jbY W:=by
 have e:laidMet Tryz.prog [("guilloche/sha.cubes",Rows.laid_guilloche_sha_cubes)] W:=(laidMetH_iff.1 h).1;rw[jr2]at e;have o:=Lib.tabIs_of_head Tryz.gCubes Tryz.gCubesType Tryz.uCubes Tryz.uU32 Tryz.cellsU32 Tryz.cellsCubes e;intro i z
 have:=o.cell Tryz.gCubes i (by unfold jr1;rw[cC];exact z)
 rw[this];unfold jr1 wv;simp only[bG,cA];cases jeZ[i]? <;> rfl
theorem Tryz.gErr:Tryz.prog.globalNamed "errors.errorType"=some 1:=vY
theorem Tryz.rtypeCut:(Tryz.prog.cutTypes.find? (·.1 == "internal/reflectlite.rtype")).map (·.2)=some 169:=vY
theorem Tryz.errRow:(List.range Tryz.prog.types.size).all (fun t => !(Tryz.prog.rowNamed t [101,114,114,111,114]) || t == 76)=true:=vY
theorem Tryz.errHandle:typeHandle Tryz.prog 76=.pointer (some ⟨3,76,none⟩):=vY
theorem jz1{W:vW}(h:laidMetH Tryz.prog [("errors.errorType",Rows.laid_errors_errorType),("guilloche/sha.cubes",Rows.laid_guilloche_sha_cubes)] W):ErrT W:=by
 have A:=(laidMetH_iff.1 h).2 ("errors.errorType",Rows.laid_errors_errorType) (by simp[Rows.laid_errors_errorType,DataW.handleName?]);have E:∃ e u ty,(Rows.laid_errors_errorType:DataW Unit).handleName?=some e/\(Tryz.prog.cutTypes.find? (·.1 == "internal/reflectlite.rtype")).map (·.2)=some u/\ty < Tryz.prog.types.size/\Tryz.prog.rowNamed ty e=true/\W.var? Tryz.prog "errors.errorType"=some #[.iface u (.agg #[typeHandle Tryz.prog ty])]:=A
 obtain⟨e,u,ty,H,J,K,O,o⟩:=E
 obtain rfl:u=169:=bS (J.symm.trans Tryz.rtypeCut);obtain rfl:e=[101,114,114,111,114]:=(bS (show some [101,114,114,111,114]=some e from H)).symm;have z:=fB.1 Tryz.errRow ty (dW.2 K);rw[O]at z;obtain rfl:ty=76:=by simpa using z
 rw[Tryz.errHandle]at o
 have:=World.var?_cell Tryz.gErr o 0
 exact this
end
section
open Go Go.ChangeShapes Go.WideShapes Go.ChangeAt Go.RowKit
def jwn:Obj->Obj
 | .cells _ t frozen=>.cells (jeZ.map wv).toArray t frozen
 | o=>o
def jAI:Obj->Obj
 | .cells _ t frozen=>.cells #[.iface 169 (.agg #[.pointer (some ⟨3,76,none⟩)])] t frozen
 | o=>o
noncomputable def laidWorld(os:Os):vW:=
 { World.holding Tryz.prog os ⟨#[],#[],[]⟩with heap:=((World.holding Tryz.prog os ⟨#[],#[],[]⟩).heap.modify 0 jwn).modify 1 jAI }
theorem jvA(os:Os)(args:Array vV):laidMetH Tryz.prog [("errors.errorType",Rows.laid_errors_errorType),("guilloche/sha.cubes",Rows.laid_guilloche_sha_cubes)] ((laidWorld os).forCall (fun _ _=>0) ⟨#[],args,[]⟩).memory:=
 laidMetH_of_parts (laidMet_of_run' 8 vY vY) vY
end
