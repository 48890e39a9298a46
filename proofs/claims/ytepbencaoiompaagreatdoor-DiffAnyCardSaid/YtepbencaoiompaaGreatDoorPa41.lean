/- Lemmas; each is under no condition but those that it states. -/
import Derived.Test.YtepbencaoiompaaGreatDoorPa40
namespace Go.Proofs.YtepbencaoiompaaGreatDoor
set_option linter.unusedSimpArgs false
set_option linter.unusedVariables false
set_option maxRecDepth 100000
set_option maxHeartbeats 16000000
open Go Go.RowKit
section
attribute [local go_sem] Oper.semAt_some
theorem jve{W0 W:vW}(hc:jbN W)(he:ErrT W){s bm:Nat}{room:Int}{U:vM}{S:vT}{n:Nat}(h:Tst W0 W s bm room U S n)(hn:n<=5000)(hU:InjL U)(hN:juP U){l:vL}(hM:HasM S l)(u:vV)(cs:List Chg)(hu:RdC W u cs)(hnc:cs.length<=9223372036854775807)(hsc:∀ c∈cs,c.key.size<=9223372036854775807/\c.value.size<=9223372036854775807)(hr0:0<=room)(hr1:room<=9223372036854775807)(h0:ja8 l cs=0)(hs:∀ t∈jbr (ja0 l cs),t∈U){k:Nat}(hk:(newM S (ja0 l cs)).length<=k)(hroom:(n:Int)+k<=room)(hk1:1<=k) :
  vQ 14 #[.pointer (some ⟨s,0,none⟩),.string (rootM l),u] W fun e A=>e=.returned (.tuple #[.string (rootM (ja0 l cs)),.int .i64 0])/\∃ o,Tst W0 A s bm room U o (n+k)/\HasM o (ja0 l cs)/\AddK W U S (ja0 l cs) (newM S (ja0 l cs)) o/\jag (fun z=>z=bm\/z∈S.map (·.2.1)) W A:=by
 have hb:=h.bds hn;refine (jkJ W hc he s bm room S h.st (h.kp.nodes hN) l hM u cs hu hnc hsc hr0 hr1 hb.1 hb.2.1 hb.2.2).mono ?_;intro e A E
 obtain⟨o,q⟩:=jkI W hU h.kp h0 hs E (by have:=h.len;omega)
 exact⟨q.res,o,h.add hk hk1 q,q.add.has hU (jcP h0) hs,q.add,q.kp⟩
theorem Tst.o{W0 W:vW}{s bm:Nat}{room:Int}{U:vM}{S:vT}{n:Nat}(h:Tst W0 W s bm room U S n){z:Nat}(hz:W.heap.size<=z):¬(z=bm\/z∈S.map (·.2.1)):=by
 rintro (rfl | e)
 ·obtain⟨A,E,hb,_⟩:=h.st.mp.mp
  have:=hb.lt;omega
 ·obtain⟨x,q,rfl⟩:=bI.1 e
  obtain⟨H,hb,_⟩:=(h.st.mp.items x q).cells
  have:=hb.lt;omega
theorem jor{W:vW}{b:Nat}(xs:List Chg){T:TypeId}(hB:Blk W b (.cells (jdD xs).toArray T)):RdC W (.slice (some ⟨b,0,none⟩) xs.length xs.length) xs:=
 .inr ⟨b,0,xs.length,rfl,hB.lt,bL _,fun j x e=>by
  obtain⟨o,q,z⟩:=jeT xs j x e
  exact⟨by rw[cR];exact hB.cellL o,by rw[cR];exact hB.cellL q,by rw[cR];exact hB.cellL z⟩⟩
theorem jBN:makesN twP dwC (rootM dwQ)=0:=by unfold makesN;rw[if_pos dw_e,dw_a,if_pos rfl]
theorem jBO:makesN twP [] (rootM dwQ)=9:=by unfold makesN;rw[if_pos jBL,jBH,if_neg (fun e=>jAh e.symm)]
theorem jA0(x:vB):(x.toList == x.toList)=true:=by rw[jej];exact decide_eq_true rfl
theorem juA(w:vW)(hc:jbN w)(he:ErrT w):vR 15 #[] w (.bool true):=by
 have HC:=Hd hc;have X:=Hd he;clear hc he;go_enter Tryz.func15,Tryz.ntmps15;go_wp2_with fail
 have Z:=(ExtR w).alloc (.cells (jcl twP).toArray 53);refine (jvM _ (HC.o.ext Z) (X.o.ext Z) _ twP (jpQ w twP 53) (by show 2<=9223372036854775807;omega) jAi).mono ?_;rintro e w2 (⟨rfl,hE,d8⟩ |⟨s,bm,S,rfl,hH⟩)
 ·exact absurd ⟨jAd,tw_p,jyd⟩ d8
 rw[show shaB (jay twP).text=rootM twP from rfl];have b1:=Hd Z;have b2:=Hd (hH.tst.more jsx);have HM:=Hd hH.has;clear hH Z;go_wp2_with fail
 have c2:=(ExtR w2).alloc (.cells (jdD dwC).toArray 50);have b3:=Hd (b2.o.grow c2);have c3:=Hd (jlq w2 dwC 50);have b4:Ext w (w2.alloc (.cells (jdD dwC).toArray 50)):=b1.o.trans b3.o.ext;have hn:(newM S (ja0 twP dwC)).length<=1:=by rw[dw_a,jhw dw_b];exact bL _
 have b5:=jve (HC.o.ext b4) (X.o.ext b4) b3.o vI jjS jpb HM.o _ dwC c3.o (by show 2<=9223372036854775807;omega) jsw vI vI dw_e (by rw[dw_a];exact jAe) hn vI (bL _);rw[dw_a]at b5;clear c2 hn;refine b5.mono ?_;rintro e w4 ⟨rfl,S4,a2,c4,c5,c9⟩;have a3:=Hd ((Blk.new w2 (.cells (jdD dwC).toArray 50)).keeps c9 (b2.o.o (bL _)));have z:=Hd a2;have d0:=Hd c4;have E:=Hd (c5.more jjS jsx HM.o);have hK:jbA S4 ⟨#[63]⟩=false:=by unfold jbA;rw[jAx z.o.kp vI];rfl
 have HK:=Hd hK;have a4:Hid (AllN S4):=a2.kp.nodes jpb;have a5:Hid (∀ x∈jau (jay twP),x∈dwU):=fun x hx=>jsx x (jfM.1 hx);have d1:Hid (∀ x∈jau (jay dwQ),x∈dwU):=fun x hx=>jAe x (jfM.1 hx);have O:Hid (Ext w w4):=b1.o.trans a2.ext;clear a2 c4 c5 c9 b5 hK b3 b2 HM c3 b4 b1
 obtain⟨cb,d2⟩:=vE w2.heap.size
 rw[<-d2]at a3 ⊢;clear d2;go_wp2_with fail
 have hO:=jxu w4 s bm 2000 S4 z.o.st E.o d0.o jjS a5.o d1.o;unfold OfP at hO;rw[jBI]at hO;refine hO.mono ?_;rintro e w5 ⟨v5,rfl,b6⟩;have d3:=Hd b6.rdT;have b7:=Hd b6.ext;clear b6 hO;go_wp2_with fail
 have hO:=jxu w5 s bm 2000 S4 (z.o.st.ext b7.o) E.o E.o jjS a5.o a5.o;unfold OfP at hO;rw[jBK]at hO;refine hO.mono ?_;rintro e w6 ⟨v6,rfl,a9⟩;have b8:=Hd (b7.o.trans a9.ext);have d4:=Hd (d3.o.ext a9.ext)
 obtain⟨a6,c6,rfl⟩:=a9.sl
 clear a9 hO b7 d3;go_wp2_with fail
 obtain⟨B,hB,hF⟩:=jsF w6 s bm 2000 S4 (z.o.st.ext b8.o) a4.o (by have:=z.o.len;omega) E.o d0.o jjS a5.o d1.o
 obtain rfl:=dw_f hB;unfold jrz at hF;rw[dw_s]at hF;refine hF.mono ?_;rintro e w7 ⟨v7,rfl,K⟩;have b0:=Hd (b8.o.trans K.ext);have d5:=Hd (d4.o.ext K.ext)
 obtain⟨a7,c7,rfl⟩:=K.sl
 obtain⟨g7,rfl⟩:=jfW K vI
 have q7:=jdf K.own (j:=0) (u:=.string (rootM dwQ)) vF;have Q7:=Hd q7;clear K hF hB b8 d4 q7;go_wp2_with fail
 have d6:=jwT w7 s bm 2000 S4 (z.o.st.ext b0.o) a4.o E.o (.slice (some ⟨cb,0,none⟩) 2 2) dwC (jor dwC (a3.o.keeps b0.o (fun h=>h))) (by show 2<=9223372036854775807;omega) jsw;refine d6.mono ?_;intro e w8 hU;unfold juR at hU;rw[if_pos dw_e]at hU;unfold OfP at hU;rw[dw_a,jBJ]at hU
 obtain⟨v8,rfl,H⟩:=hU
 have b9:=Hd (b0.o.trans H.ext);have d7:=Hd (d5.o.ext H.ext);have Q8:=Hd (jaa Q7.o H.ext)
 obtain⟨a8,c8,rfl⟩:=H.sl
 obtain⟨g8,rfl⟩:=jfW H vI
 have q9:=H.own.cellAt 5 vI;have Q9:=Hd (show w8.cell? ⟨g8,5,none⟩=some (.bool true)from q9);clear H d6 b0 d5 Q7 q9;go_wp2_with fail
 refine vC (jAK w8 s bm 2000 S4 (z.o.st.ext b9.o) (rootM twP) ⟨#[63]⟩ (by rw[HK.o,iY])) fun w9 Q=>?_;have c0:=Hd (b9.o.trans Q);have d9:=Hd (d7.o.ext Q);have Q8:=Hd (jaa Q8.o Q);have Q9:=Hd (jaa Q9.o Q);clear Q b9 d7;go_wp2_with fail
 refine vC (jy7 w9 v5 (.slice (some ⟨cb,0,none⟩) 2 2) dwC d9.o (jor dwC (a3.o.keeps c0.o (fun h=>h))) (by show 2<=1000000;omega)) fun e0 J=>?_;have q:=Hd (c0.o.trans J);have q8:=jaa Q8.o J;have q9:=jaa Q9.o J;have hq:=jA0 (rootM dwQ);clear J c0;go_wp2_with fail
 have hM:=jmM e0 (HC.o.ext (O.o.trans q.o)) (X.o.ext (O.o.trans q.o)) s bm 2000 S4 (z.o.st.ext q.o) a4.o E.o (.slice (some ⟨cb,0,none⟩) 2 2) dwC (jor dwC (a3.o.keeps q.o (fun h=>h))) (by show 2<=9223372036854775807;omega) jsw (rootM dwQ);rw[jBN]at hM;refine hM.mono ?_;rintro e e1 ⟨rfl,a0⟩;have A:=Hd (q.o.trans a0);clear a0 hM q q8 q9 hq;go_wp2_with fail
 have hM:=jmM e1 (HC.o.ext (O.o.trans A.o)) (X.o.ext (O.o.trans A.o)) s bm 2000 S4 (z.o.st.ext A.o) a4.o E.o (.slice none 0 0) [] (.inl ⟨_,_,rfl,rfl⟩) (bY _) (fun c hc=>(cH hc).elim) (rootM dwQ);rw[jBO]at hM;refine hM.mono ?_;rintro e e2 ⟨rfl,a1⟩;have c1:=Hd (A.o.trans a1);clear a1 hM A;go_wp2_with fail
 go_ret
 exact⟨rfl,O.o.trans c1.o⟩
end
end Go.Proofs.YtepbencaoiompaaGreatDoor
