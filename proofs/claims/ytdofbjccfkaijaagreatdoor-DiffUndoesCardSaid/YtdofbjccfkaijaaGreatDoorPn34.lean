/- Lemmas; each is under no condition but those that it states. -/
import Derived.Test.YtdofbjccfkaijaaGreatDoorPn32
import Derived.Test.YtdofbjccfkaijaaGreatDoorPn33
namespace Go.Proofs.YtdofbjccfkaijaaGreatDoor
set_option linter.unusedSimpArgs false
set_option linter.unusedVariables false
set_option maxRecDepth 100000
set_option maxHeartbeats 16000000
section
open Go Go.RowKit
attribute [local go_sem] Oper.semAt_some
theorem jl8(b:vU)(n:Nat):0 < (jb6 b n).size:=by
 unfold jb6;split
 ·exact iZ
 ·rw[bU]
  exact bQ iZ (Nat.le_add_right 1 _)
theorem jeB(b:vB):0 < (jan b).size:=by
 unfold jan;split
 ·rename_i h;omega
 ·rw[bU];have:=jl8 128 b.size;omega
theorem jsL(xs:vM):0 < (jbb xs).size:=by
 unfold jbb;rw[bU];have:=jl8 192 (catB xs).size;omega
theorem jdK(b:vB)(hb:b.size<=100000)(h0:0 < (jan b).size):jrk (jan b):=⟨h0,fun w y h=>(jgi w b y hb h).mono fun e w' ⟨o,z⟩=>⟨_,_,o,z⟩⟩
theorem jq1(xs:vM)(hb:(catB xs).size<=100000)(h0:0 < (jbb xs).size):jrk (jbb xs):=⟨h0,fun w y h=>(ji8 w xs y hb h).mono fun e w' ⟨o,z⟩=>⟨_,_,o,z⟩⟩
theorem jiS{W0 W:vW}{v:vV}{n:Nat}{xs:vM}(h:ORow 9 1 W0 W v n (xs.map Value.string))(hn:0 < n):∃ g c,v=.slice (some ⟨g,0,none⟩) n c/\∀ (j:Nat) t,xs[j]?=some t->W.cell? ⟨g,j,none⟩=some (.string t):=by
 have A:=h.own
 obtain⟨K,⟨o,E⟩ |⟨g,z,H,o,E⟩⟩:=h.own
 ·obtain⟨a,c,e⟩:=h.sl
  rw[e]at o
  have:=(cW o).2.1
  omega
 ·subst o
  refine⟨g,z,rfl,fun j t J=>?_⟩
  have q:=A.cells (g:=g) rfl j (.string t) (by rw[cA,J];rfl)
  rwa [Addr.add_lit,cG]at q
theorem jhA(w:vW)(xs:vM)(hb:(catB xs).size<=100000)(hs:(jbb xs).size<=1000000):vR 187 #[.string (jbb xs)] w (.tuple #[.bool true,.string (catB xs),.string ⟨#[]⟩,.int .i64 0]):=by
 have e:jbb xs++(⟨#[]⟩:vB)=jbb xs:=iD;have h:=ji8 w xs ⟨#[]⟩ hb (by rw[e];exact hs)
 rwa [e]at h
section
variable {I:vB->jad->Prop} (HP:InlP I)
include HP
theorem jpD{r:vB}(h:MayP I r):r.size<=33:=by
 rcases h with h |⟨m,h⟩
 ·exact Nat.le_of_eq h.size
 ·have:=HP.small r m h;omega
theorem jpC{r:vB}(h:MayP I r):jrk r:=by
 rcases h with⟨h,hs,rfl⟩ |⟨m,h⟩
 ·exact jdK h vO (jeB h)
 ·have e:=HP.small r m h
  obtain⟨xs,rfl,_⟩:=HP.list r m h
  exact jq1 xs (by unfold jbb at e;rw[bU]at e;omega) (jsL xs)
end
section
variable {I:vB->jad->Prop} (HP:InlP I) (HI:InlR I)
include HP HI
theorem jn9(w:vW)(p v:vB)(h2:(⟨1,p,v,jam 16⟩:jad).pathOk 0=true)(h3:0 < v.size)(h4:v.size<=80):vR 175 #[.string (jaP ⟨1,p,v,jam 16⟩)] w (.tuple #[jad.V ⟨1,p,v,jam 16⟩,.bool true]):=by
 have hG:jbT I ⟨1,p,v,jam 16⟩:=.leaf p v h2 h3 h4
 obtain⟨z1,z2,z3⟩:=jbR h2
 have c6:=jbn p true;have c7:=jaN (putB p true);have e4:=jaN v;have z2:p.size<=12:=z2;have J:=Hd (fun w1=>ji7 HP HI w1 _ hG);have a0:=Hd (fun w1=>jwY w1 p true vO z3)
 obtain⟨E,O⟩:=vE (putB p true)
 have c8:jaP ⟨1,p,v,jam 16⟩=jbb [jan E,jan v]:=by rw[O];rfl
 rw[<-O]at c6 c7 a0;have hc:(catB [jan E,jan v]).size<=200:=by rw[ja8,ja8,jcJ];omega
 have e5:=jcP [jan E,jan v];rw[c8]at J ⊢;have c9:=Hd (fun w1=>jhA w1 [jan E,jan v] vO vO);have d0:=jeB E;have d1:=jeB v;have d2:=Hd (fun w1=>jh9 w1 [jan E,jan v] (fun x hx=>by
  simp only[bM,cN,or_false]at hx;rcases hx with rfl | rfl
  ·exact jdK E vO d0
  ·exact jdK v vO d1) (by simp) vO)
 have d3:=Hd (fun w1=>jia w1 E vO);have d4:=Hd (fun w1=>jia w1 v vO)
 obtain⟨s,hs⟩:=vE (jbb [jan E,jan v])
 obtain⟨b,hb⟩:=vE (catB [jan E,jan v])
 obtain⟨t1,a7⟩:=vE (jan E)
 obtain⟨t2,a8⟩:=vE (jan v)
 have c0:¬(1000:Int) < (s.size:Int):=by rw[hs];omega
 rw[<-hs, <-hb]at c9;rw[<-hb, <-a7, <-a8]at d2;rw[<-a7]at d3;rw[<-a8]at d4;rw[<-hs]at J ⊢;clear hG h2 z1 z2 z3 c6 c7 e4 O c8 hc e5 d0 d1 hs hb a7 a8;unfold jad.V at J ⊢;unfold vR vQ;go_in;go_wp2_with (first |(refine jaj Tryz.allocNode rfl rfl ?_;have e6:=Q.o;intro W2 d5 a9) |(refine jaj Tryz.allocNode rfl rfl ?_;intro W1 d6 a5;have Q:=Hd d6) |(refine jai (vs:=jaG.cells) rfl rfl rfl rfl d5 rfl Tryz.szNode jaG.one ?_;intro W3 d7 b0))
 have b1:=Hd d7;have d8:=Hd ((Q.o.keeps a9 (fun h=>h)).keeps b0 (by have:=Q.o.lt;omega));have d9:Ext w W3:=(a5.trans a9).trans' b0 (fun x hx e=>by have e:x=W1.heap.size:=e;have:=a5.size;omega);have e7:=Hd d9
 obtain⟨gr,e0⟩:=vE w.heap.size
 obtain⟨A,e1⟩:=vE W1.heap.size
 have b2:=Hd (show gr≠A/\w.heap.size<=gr/\w.heap.size<=A from by have:=Q.o.lt;have:=a5.size;omega);rw[<-e0]at d8 ⊢;rw[<-e1]at b1 ⊢;clear d6 a5 Q e6 d5 a9 d7 b0 d9 e0 e1;refine vH (c9.o W3) fun w4 e2=>?_;go_wp2_with fail
 refine (d2.o w4).mono ?_;rintro e w5 ⟨lv,rfl,hL⟩
 obtain⟨g,c,rfl,H⟩:=jiS hL (Nat.zero_lt_succ _)
 rw[show [t1,t2].length=2 from rfl];have q1:=H 0 t1 rfl;have q2:=H 1 t2 rfl;have HQ:=Hd (bB q1 q2);have b3:=Hd (e2.o.trans hL.ext);have e9:w4.heap.size<=g:=hL.new g rfl;have b8:=b1.o.lt;have b9:=e2.o.size;have g1:¬ A=g:=vO
 have g2:¬ g=A:=vO
 clear H hL q2 e9 b8 b9;go_wp2_with fail
 refine vH (d3.o w5) fun w6 f3=>?_;clear q1;go_wp2_with fail
 refine vH (a0.o w6) fun w7 hE=>?_;have a6:=Hd (f3.o.trans hE);have X:=Hd (b1.o.keeps (b3.o.trans a6.o) (fun h=>h));have f4:=Hd (d8.o.keeps (b3.o.trans a6.o) (fun h=>h));have k0:=X.o.cellL (i:=0) (v:=.int .i64 0) rfl;have k1:=X.o.cellL (i:=1) (v:=.string ⟨#[]⟩) rfl;have f0:w7.frozen? ⟨A,0,none⟩=false:=X.o.frozen;have f1:w7.frozen? ⟨A,1,none⟩=false:=X.o.frozen;have q2:=jaa HQ.o.2 a6.o;go_wp2_with fail
 obtain⟨w8,b4⟩:=vE ((w7.setCell ⟨A,1,none⟩ (.string p)).setCell ⟨A,0,none⟩ (.int .i64 1))
 have b5:=(X.o.set_same (i:=1) (.string p)).set_same (i:=0) (.int .i64 1);have b6:jaf (fun z=>z=A) w7 w8:=by rw[b4];exact ((jaf.refl (fun z=>z=A) w7).setCell (p:=⟨A,1,none⟩) (.inl rfl) _).setCell (p:=⟨A,0,none⟩) (.inl rfl) _
 rw[<-b4]at b5 ⊢;have f5:=Hd (show Blk w8 A (.cells (jad.cells ⟨1,p,⟨#[]⟩,jam 16⟩).toArray 94)from b5);have f6:=Hd b6;have f7:=Hd (f4.o.keeps b6 b2.o.1);clear k0 k1 f0 f1 q2 b4 b5 b6;refine vC (d4.o w8) fun w9 hE=>?_;have e3:=Hd hE;have b7:=Hd (f5.o.keeps hE (fun h=>h));have k2:=b7.o.cellL (i:=2) (v:=.string ⟨#[]⟩) rfl;have f2:w9.frozen? ⟨A,2,none⟩=false:=b7.o.frozen;have Z:Blk (w9.setCell ⟨A,2,none⟩ (.string v)) A (.cells (jad.cells ⟨1,p,v,jam 16⟩).toArray 94):=b7.o.set_same (i:=2) (.string v);have K:=jao _ A ⟨1,p,v,jam 16⟩ rfl Z;have a1:=Hd Z;unfold jad.V at K;clear hE Z;go_wp2_with (refine jae 94 (.tmp 4) rfl rfl _ _ rfl K ?_)
 have a2:=Hd ((f7.o.keeps e3.o (fun h=>h)).keeps ((jaf.refl (fun z=>z=A) w9).setCell (p:=⟨A,2,none⟩) (.inl rfl) (.string v)) b2.o.1);have a3:=Hd ((jaf.refl (fun z=>z=A) w9).setCell (p:=⟨A,2,none⟩) (.inl rfl) (.string v))
 obtain⟨f8,a4⟩:=vE (w9.setCell ⟨A,2,none⟩ (.string v))
 rw[<-a4]at a2 a3 a1 ⊢;clear k2 f2 K a4;refine vC (J.o f8) fun g3 hE=>?_;have c1:=Hd hE;have c2:=a1.o.keeps hE (fun h=>h);have K:=jao _ A ⟨1,p,v,jam 16⟩ rfl c2;have c3:=a2.o.keeps hE (fun h=>h);have g4:(s != s)=false:=by unfold bne;rw[show (s == s)=true by rw[jeo];exact decide_eq_true rfl];rfl
 unfold jad.V at K;clear hE;go_wp2_with (first |(refine jae 94 (.tmp 4) rfl rfl _ _ rfl K ?_) |(refine jai (vs:=jad.cells ⟨1,p,v,jam 16⟩) rfl rfl rfl rfl c3 rfl Tryz.szNode (jad.one _) ?_;intro f9 c4 c5))
 refine bodyPost_ret (jaE rfl rfl rfl (jau f9 _ ⟨1,p,v,jam 16⟩ rfl c4)) rfl ?_;have hz:=b2.o;have e8:=((e7.o.trans b3.o).trans a6.o).trans' f6.o (fun x hx e=>by have e:x=A:=e;omega);have g0:=(e8.trans e3.o).trans' a3.o (fun x hx e=>by have e:x=A:=e;omega)
 exact⟨rfl,(g0.trans c1.o).trans' c5 (fun x hx e=>by have e:x=gr:=e;omega)⟩
theorem jq2(w:vW)(p r:vB)(h2:(⟨2,p,⟨#[]⟩,r :: jam 15⟩:jad).pathOk 1=true)(h3:r.size≠0)(h4:je7 r\/∃ m,I r m/\m.kind=3):vR 175 #[.string (jaP ⟨2,p,⟨#[]⟩,r :: jam 15⟩)] w (.tuple #[jad.V ⟨2,p,⟨#[]⟩,r :: jam 15⟩,.bool true]):=by
 have hG:jbT I ⟨2,p,⟨#[]⟩,r :: jam 15⟩:=.ext p r h2 h3 h4
 obtain⟨z1,z2,z3⟩:=jbR h2
 have b9:=jbn p false;have c1:=jaN (putB p false);have d7:=jpD HP (h4.imp id (fun ⟨m,h,_⟩=>⟨m,h⟩):MayP I r);have c2:=jpC HP (h4.imp id (fun ⟨m,h,_⟩=>⟨m,h⟩):MayP I r);have z2:p.size<=12:=z2;have K:=Hd (fun w1=>ji7 HP HI w1 _ hG);have a1:=Hd (fun w1=>jwY w1 p false vO z3)
 obtain⟨A,Q⟩:=vE (putB p false)
 have c3:jaP ⟨2,p,⟨#[]⟩,r :: jam 15⟩=jbb [jan A,r]:=by rw[Q];rfl
 rw[<-Q]at b9 c1 a1;have hc:(catB [jan A,r]).size<=200:=by rw[ja8,ja8,jcJ];omega
 have d8:=jcP [jan A,r];rw[c3]at K ⊢;have c4:=Hd (fun w1=>jhA w1 [jan A,r] vO vO);have c5:=jeB A;have c6:=Hd (fun w1=>jh9 w1 [jan A,r] (fun x hx=>by
  simp only[bM,cN,or_false]at hx;rcases hx with rfl | rfl
  ·exact jdK A vO c5
  ·exact c2) (by simp) vO)
 have c7:=Hd (fun w1=>jia w1 A vO)
 obtain⟨s,hs⟩:=vE (jbb [jan A,r])
 obtain⟨b,hb⟩:=vE (catB [jan A,r])
 obtain⟨t1,a7⟩:=vE (jan A)
 have c0:¬(1000:Int) < (s.size:Int):=by rw[hs];omega
 rw[<-hs, <-hb]at c4;rw[<-hb, <-a7]at c6;rw[<-a7]at c7;rw[<-hs]at K ⊢;clear hG h2 z1 z2 z3 b9 c1 d7 c2 h3 h4 Q c3 hc d8 c5 hs hb a7;unfold jad.V at K ⊢;unfold vR vQ;go_in;go_wp2_with (first |(refine jaj Tryz.allocNode rfl rfl ?_;have d9:=X.o;intro W2 c8 a8) |(refine jaj Tryz.allocNode rfl rfl ?_;intro W1 c9 a5;have X:=Hd c9) |(refine jai (vs:=jaG.cells) rfl rfl rfl rfl c8 rfl Tryz.szNode jaG.one ?_;intro W3 d0 a9))
 have b0:=Hd d0;have d1:=Hd ((X.o.keeps a8 (fun h=>h)).keeps a9 (by have:=X.o.lt;omega));have d2:Ext w W3:=(a5.trans a8).trans' a9 (fun x hx e=>by have e:x=W1.heap.size:=e;have:=a5.size;omega);have e0:=Hd d2
 obtain⟨gr,d3⟩:=vE w.heap.size
 obtain⟨E,d4⟩:=vE W1.heap.size
 have d5:=Hd (show gr≠E/\w.heap.size<=gr/\w.heap.size<=E from by have:=X.o.lt;have:=a5.size;omega);rw[<-d3]at d1 ⊢;rw[<-d4]at b0 ⊢;clear c9 a5 X d9 c8 a8 d0 a9 d2 d3 d4;refine vH (c4.o W3) fun w4 d6=>?_;go_wp2_with fail
 refine (c6.o w4).mono ?_;rintro e w5 ⟨lv,rfl,hL⟩
 obtain⟨g,c,rfl,H⟩:=jiS hL (Nat.zero_lt_succ _)
 rw[show [t1,r].length=2 from rfl];have q1:=H 0 t1 rfl;have q2:=H 1 r rfl;have HQ:=Hd (bB q1 q2);have b1:=Hd (d6.o.trans hL.ext);have e1:w4.heap.size<=g:=hL.new g rfl;have b2:=b0.o.lt;have b3:=d6.o.size;have e7:¬ E=g:=vO
 have e8:¬ g=E:=vO
 clear H hL q2 e1 b2 b3;go_wp2_with fail
 refine vH (c7.o w5) fun w6 e2=>?_;clear q1;go_wp2_with fail
 refine vH (a1.o w6) fun w7 hE=>?_;have a6:=Hd (e2.o.trans hE);have J:=Hd (b0.o.keeps (b1.o.trans a6.o) (fun h=>h));have e3:=Hd (d1.o.keeps (b1.o.trans a6.o) (fun h=>h));have k0:=J.o.cellL (i:=0) (v:=.int .i64 0) rfl;have k1:=J.o.cellL (i:=1) (v:=.string ⟨#[]⟩) rfl;have k3:=J.o.cellL (i:=3) (v:=.string ⟨#[]⟩) rfl;have f0:w7.frozen? ⟨E,0,none⟩=false:=J.o.frozen;have f1:w7.frozen? ⟨E,1,none⟩=false:=J.o.frozen;have f3:w7.frozen? ⟨E,3,none⟩=false:=J.o.frozen;have q2:=jaa HQ.o.2 a6.o;have Z:Blk (((w7.setCell ⟨E,1,none⟩ (.string p)).setCell ⟨E,0,none⟩ (.int .i64 2)).setCell ⟨E,3,none⟩ (.string r)) E (.cells (jad.cells ⟨2,p,⟨#[]⟩,r :: jam 15⟩).toArray 94):=((J.o.set_same (i:=1) (.string p)).set_same (i:=0) (.int .i64 2)).set_same (i:=3) (.string r);have O:=jao _ E ⟨2,p,⟨#[]⟩,r :: jam 15⟩ rfl Z;have a2:=Hd Z;unfold jad.V at O;clear Z;go_wp2_with (refine jae 94 (.tmp 4) rfl rfl _ _ rfl O ?_)
 have a0:=Hd ((((jaf.refl (fun z=>z=E) w7).setCell (p:=⟨E,1,none⟩) (.inl rfl) (.string p)).setCell (p:=⟨E,0,none⟩) (.inl rfl) (.int .i64 2)).setCell (p:=⟨E,3,none⟩) (.inl rfl) (.string r));have a3:=Hd (e3.o.keeps a0.o d5.o.1)
 obtain⟨e4,a4⟩:=vE (((w7.setCell ⟨E,1,none⟩ (.string p)).setCell ⟨E,0,none⟩ (.int .i64 2)).setCell ⟨E,3,none⟩ (.string r))
 rw[<-a4]at a3 a0 a2 ⊢;clear k0 k1 k3 f0 f1 f3 q2 O a4;refine vC (K.o e4) fun e9 hE=>?_;have b4:=Hd hE;have b5:=a2.o.keeps hE (fun h=>h);have O:=jao _ E ⟨2,p,⟨#[]⟩,r :: jam 15⟩ rfl b5;have b6:=a3.o.keeps hE (fun h=>h);have f2:(s != s)=false:=by unfold bne;rw[show (s == s)=true by rw[jeo];exact decide_eq_true rfl];rfl
 unfold jad.V at O;clear hE;go_wp2_with (first |(refine jae 94 (.tmp 4) rfl rfl _ _ rfl O ?_) |(refine jai (vs:=jad.cells ⟨2,p,⟨#[]⟩,r :: jam 15⟩) rfl rfl rfl rfl b6 rfl Tryz.szNode (jad.one _) ?_;intro e5 b7 b8))
 refine bodyPost_ret (jaE rfl rfl rfl (jau e5 _ ⟨2,p,⟨#[]⟩,r :: jam 15⟩ rfl b7)) rfl ?_;have hz:=d5.o;have e6:=((e0.o.trans b1.o).trans a6.o).trans' a0.o (fun x hx e=>by have e:x=E:=e;omega)
 exact⟨rfl,(e6.trans b4.o).trans' b8 (fun x hx e=>by have e:x=gr:=e;omega)⟩
end
end
section
open Go Go.RowKit
attribute [local go_sem] Oper.semAt_some
theorem Tryz.enterText4(args:Array vV)(w:vW):(callFunc 161 args).run Tryz.prog w=.ok (.enter 161 args) w:=vY
section
variable {I:vB->jad->Prop} (HP:InlP I) (HI:InlR I)
include HP HI
theorem joa(w:vW):vR 175 #[.string (jaP jaG)] w (.tuple #[jaG.V,.bool true]):=by
 have z:=Hd (fun w1=>ji7 HP HI w1 _ (jbT.none (I:=I)));have h0:jan ⟨#[]⟩++(⟨#[]⟩:vB)=jan ⟨#[]⟩:=iD;have K:=fun w1=>jgi w1 ⟨#[]⟩ ⟨#[]⟩ vI (by rw[h0];decide);rw[h0]at K;have Z:=Hd K;have a7:=Hd (fun w1=>jh9 w1 [] (fun x hx=>by cases hx) (by simp) vI);rw[show catB []=(⟨#[]⟩:vB)from rfl]at a7;rw[show jaP jaG=jan ⟨#[]⟩from rfl]at z ⊢;have c0:¬(1000:Int) < ((jan ⟨#[]⟩).size:Int):=by decide
 obtain⟨s,hs⟩:=vE (jan ⟨#[]⟩)
 rw[<-hs]at z Z c0 ⊢;clear h0 K hs;unfold jad.V at z ⊢;unfold vR vQ;go_in;go_wp2_with (first |(refine jaj Tryz.allocNode rfl rfl ?_;have b7:=E.o;intro W2 a8 O) |(refine jaj Tryz.allocNode rfl rfl ?_;intro W1 a9 J;have E:=Hd a9) |(refine jai (vs:=jaG.cells) rfl rfl rfl rfl a8 rfl Tryz.szNode jaG.one ?_;intro W3 b0 Q))
 have b1:=Hd b0;have b2:=Hd ((E.o.keeps O (fun h=>h)).keeps Q (by have:=E.o.lt;omega));have b3:Ext w W3:=(J.trans O).trans' Q (fun x hx e=>by have e:x=W1.heap.size:=e;have:=J.size;omega);have b8:=Hd b3
 obtain⟨gr,b4⟩:=vE w.heap.size
 obtain⟨gn,b5⟩:=vE W1.heap.size
 have b9:=Hd (show gr≠gn/\w.heap.size<=gr/\w.heap.size<=gn from by have:=E.o.lt;have:=J.size;omega);rw[<-b4]at b2 ⊢;rw[<-b5]at b1 ⊢;clear a9 J E b7 a8 O b0 Q b3 b4 b5;refine vH (Z.o W3) fun w4 c1=>?_;go_wp2_with fail
 refine (a7.o w4).mono ?_;rintro e w5 ⟨lv,rfl,hL⟩;have X:=Hd (c1.o.trans hL.ext)
 obtain⟨la,lc,b6⟩:=hL.sl
 rw[show (List.length ([]:vM))=0 from rfl]at b6;subst b6;have H:=b1.o.keeps X.o (fun h=>h);have A:=jao _ gn jaG rfl H;have a0:=Hd H;have a1:=Hd (b2.o.keeps X.o (fun h=>h));unfold jad.V at A;clear hL H;go_wp2_with (refine jae 94 (.tmp 4) rfl rfl _ _ rfl A ?_)
 clear A;refine vC (z.o w5) fun c3 hE=>?_;have a2:=Hd hE;have a3:=a0.o.keeps hE (fun h=>h);have A:=jao _ gn jaG rfl a3;have a4:=a1.o.keeps hE (fun h=>h);have c4:(s != s)=false:=by unfold bne;rw[show (s == s)=true by rw[jeo];exact decide_eq_true rfl];rfl
 unfold jad.V at A;clear hE;go_wp2_with (first |(refine jae 94 (.tmp 4) rfl rfl _ _ rfl A ?_) |(refine jai (vs:=jaG.cells) rfl rfl rfl rfl a4 rfl Tryz.szNode (jad.one _) ?_;intro c2 a5 a6))
 refine bodyPost_ret (jaE rfl rfl rfl (jau c2 _ jaG rfl a5)) rfl ?_;have hz:=b9.o
 exact⟨rfl,((b8.o.trans X.o).trans a2.o).trans' a6 (fun x hx e=>by have e:x=gr:=e;omega)⟩
end
def jd8(rs:vM)(k:Nat):vM:=rs.take k++jam (16 - k)
theorem jhy{rs:vM}(hr:rs.length=16){k:Nat}(hk:k<=16):(jd8 rs k).length=16:=by
 unfold jd8 jam;rw[bC,cQ,List.length_replicate];omega
theorem jmN{rs:vM}(hr:rs.length=16):jd8 rs 16=rs:=by
 unfold jd8;rw[bN vO];simp[jam]
theorem ji4{rs:vM}(hr:rs.length=16){k:Nat}{r:vB}(h:rs[k]?=some r):(jd8 rs k).set k r=jd8 rs (k+1):=by
 have o:=(bP.1 h).1;have e:(rs.take k).length=k:=by rw[cQ];omega
 unfold jd8 jam;rw[fJ _ _ vO,e,iW,show 16 - k=(16 - (k+1))+1 by omega,fH,dM,bY,h]
 simp
theorem jmO{rs:vM}(hr:rs.length=16){k:Nat}(h:rs[k]?=some ⟨#[]⟩):jd8 rs (k+1)=jd8 rs k:=by
 rw[<-ji4 hr h];have z:=(bP.1 h).1;have o:(rs.take k).length=k:=by rw[cQ];omega
 apply List.ext_getElem?;intro j;rw[List.getElem?_set];split
 ·rename_i e
  subst e;rw[if_pos (by rw[jhy hr vO];omega)];unfold jd8 jam;rw[cV vO,o,iW,iV,if_pos vO]
 ·rfl
theorem jlL(rs:vM)(v x:vB)(k:Nat):(jad.cells ⟨3,⟨#[]⟩,v,rs⟩).toArray.setIfInBounds (3+k) (.string x)=(jad.cells ⟨3,⟨#[]⟩,v,rs.set k x⟩).toArray:=by
 unfold jad.cells;rw[show 3+k=k+1+1+1 by omega];simp only[gD,dF,iA]
theorem jvN{I:vB->jad->Prop}(HP:InlP I){r:vB}(h:MayP I r):r≠jan ⟨#[]⟩:=fun e=>by
 have A:r.size=1:=by rw[e];rfl
 rcases h with h |⟨m,h⟩
 ·have:=h.size;omega
 ·obtain⟨xs,rfl,_⟩:=HP.list r m h
  have o:=congrArg (fun z:vB=>z.data.toList.head?) e;unfold jbb jb6 at A o
  by_cases hn:(catB xs).size<=55
  ·rw[if_pos hn]at A o
   rw[bU]at A;have E:(catB xs).size=0:=by
    have:(⟨#[192+UInt8.ofNat (catB xs).size]⟩:vB).size=1:=rfl
    omega
   rw[E]at o;simp at o;revert o;decide
  ·rw[bU]at A;omega
section
variable {I:vB->jad->Prop} (HP:InlP I) (HI:InlR I)
include HP HI
def Rd4R(W:vW)(gn gr:Nat)(rs:vM)(iv:vV)(wr:vW):Prop:=∃ k:Nat,k<=16/\iv=.int .i64 k/\Blk wr gn (.cells (jad.cells ⟨3,⟨#[]⟩,⟨#[]⟩,jd8 rs k⟩).toArray 94)/\jaf (fun z=>z=gn) W wr
theorem jlb(w:vW)(v:vB)(rs:vM)(h2:rs.length=16)(h3:v.size<=80)(h4:∀ r∈rs,r.size≠0->MayP I r)(h5:2<=min v.size 1+(jay 0 rs).length):vR 175 #[.string (jaP ⟨3,⟨#[]⟩,v,rs⟩)] w (.tuple #[jad.V ⟨3,⟨#[]⟩,v,rs⟩,.bool true]):=by
 have hG:jbT I ⟨3,⟨#[]⟩,v,rs⟩:=.branch v rs h2 h3 h4 h5;have J:=Hd (fun w1=>ji7 HP HI w1 _ hG);have g4:=jaN v;have b6:∀ x∈rs.map itB,x.size<=33/\jrk x:=fun x E=>by
  obtain⟨r,hr,rfl⟩:=bJ.1 E
  unfold itB
  by_cases Z:r.size=0
  ·rw[if_pos Z];exact⟨by decide,jdK ⟨#[]⟩ vI (jeB _)⟩
  ·rw[if_neg Z];exact⟨jpD HP (h4 r hr Z),jpC HP (h4 r hr Z)⟩
 have O:ja7 rs v=rs.map itB++[jan v]:=rfl;have hc:(catB (ja7 rs v)).size<=700:=by
  have:∀ L:vM,(∀ x∈L,x.size<=33)->(catB L).size<=33 * L.length:=fun L=>by
   induction L with
   | nil=>intro _;exact bL _
   | cons y l ih =>
    intro h;rw[ja8,bF]
    have:=ih (fun x E=>h x (bE _ E))
    have:=h y bH
    omega
  have h6:=this (rs.map itB) (fun x E=>(b6 x E).1);rw[cC,h2]at h6;rw[O,jgx,bU,jdx];omega
 have d8:=jcP (ja7 rs v);rw[jiQ v rs h2]at J ⊢;have b7:=Hd (fun w1=>jhA w1 (ja7 rs v) vO vO);have d9:(ja7 rs v).length=17:=by rw[O,bC,cC,h2];rfl
 have b0:=Hd (fun w1=>jh9 w1 (ja7 rs v) (fun x E=>by
  rw[O]at E;rcases bT.1 E with E | E
  ·exact (b6 x E).2
  ·rw[bZ.1 E];exact jdK v vO (jeB v)) vO vO)
 rw[d9]at b0;have e0:=Hd (fun w1=>jeg w1 ⟨#[]⟩ vI);have e1:=Hd (fun w1=>jia w1 v vO);have a2:=Hd (show (ja7 rs v)[16]?=some (jan v) by rw[O,cV (by rw[cC];omega),cC,h2];rfl);have e2:=Hd (show ∀ k r,rs[k]?=some r->(ja7 rs v)[k]?=some (itB r)from fun k r hk=>by
  have:=(bP.1 hk).1
  rw[O,dB (by rw[cC];exact this),cA,hk];rfl)
 have e3:=Hd (show ∀ r∈rs,r.size≠0->r≠jan ⟨#[]⟩from fun r hr Z=>jvN HP (h4 r hr Z));have H:=Hd h2
 obtain⟨X,hX⟩:=vE (ja7 rs v)
 rw[<-hX]at J b7 b0 a2 e2 d8 ⊢
 obtain⟨s,hs⟩:=vE (jbb X)
 obtain⟨b,hb⟩:=vE (catB X)
 obtain⟨t2,e4⟩:=vE (jan v)
 obtain⟨t0,b8⟩:=vE (jan ⟨#[]⟩)
 have c0:¬(1000:Int) < (s.size:Int):=by rw[hs];rw[<-hX]at hc;omega
 rw[<-hs, <-hb]at b7;rw[<-hb]at b0;rw[<-e4]at e1 a2;rw[<-b8]at e0 e3;rw[<-hs]at J ⊢;have c9:=Hd b8;clear hG h2 h3 h4 h5 g4 b6 O hc d8 d9 hX hs hb e4 b8;unfold jad.V at J ⊢;unfold vR vQ;go_in;go_wp2_with (first |(refine jaj Tryz.allocNode rfl rfl ?_;have g5:=a5.o;intro W2 e5 b9) |(refine jaj Tryz.allocNode rfl rfl ?_;intro W1 e6 b3;have a5:=Hd e6) |(refine jai (vs:=jaG.cells) rfl rfl rfl rfl e5 rfl Tryz.szNode jaG.one ?_;intro W3 e7 c1))
 have c2:=Hd e7;have e8:=Hd ((a5.o.keeps b9 (fun h=>h)).keeps c1 (by have:=a5.o.lt;omega));have f1:Ext w W3:=(b3.trans b9).trans' c1 (fun x E e=>by have e:x=W1.heap.size:=e;have:=b3.size;omega);have g6:=Hd f1
 obtain⟨gr,f4⟩:=vE w.heap.size
 obtain⟨A,f5⟩:=vE W1.heap.size
 have b4:=Hd (show gr≠A/\w.heap.size<=gr/\w.heap.size<=A from by have:=a5.o.lt;have:=b3.size;omega);rw[<-f4]at e8 ⊢;rw[<-f5]at c2 ⊢;clear e6 b3 a5 g5 e5 b9 e7 c1 f1 f4 f5;refine vH (b7.o W3) fun w4 f6=>?_;go_wp2_with fail
 refine (b0.o w4).mono ?_;rintro e w5 ⟨lv,rfl,hL⟩
 obtain⟨g,c,rfl,a0⟩:=jiS hL (Nat.zero_lt_succ _)
 have g7:w4.heap.size<=g:=hL.new g rfl;have d0:=c2.o.lt;have d1:=f6.o.size;have i5:¬ A=g:=vO
 have K:¬ g=A:=vO
 have a1:=Hd a0;have c3:=Hd (f6.o.trans hL.ext);have c4:=Hd (c2.o.keeps c3.o (fun h=>h));have g8:=Hd (e8.o.keeps c3.o (fun h=>h));have k0:=c4.o.cellL (i:=0) (v:=.int .i64 0) rfl;have f0:w5.frozen? ⟨A,0,none⟩=false:=c4.o.frozen;clear a0 hL g7 d0 d1;go_wp2_with fail
 have c5:Blk (w5.setCell ⟨A,0,none⟩ (.int .i64 3)) A (.cells (jad.cells ⟨3,⟨#[]⟩,⟨#[]⟩,jam 16⟩).toArray 94):=c4.o.set_same (i:=0) (.int .i64 3);have a6:=Hd ((jaf.refl (fun z=>z=A) w5).setCell (p:=⟨A,0,none⟩) (.inl rfl) (.int .i64 3))
 obtain⟨w6,f7⟩:=vE (w5.setCell ⟨A,0,none⟩ (.int .i64 3))
 rw[<-f7]at c5 a6 ⊢;have g9:=Hd c5;clear k0 f0 f7 c5;go_loopw [14] (fun iv wr=>Rd4R w6 A gr rs iv wr) (fun iv _=>16 - (intOf iv).toNat)
 case atStart=>exact⟨0,by omega,rfl,g9.o,jaf.refl _ _⟩
 case round =>
  obtain⟨k,hk,rfl,hN,hK⟩:=hrel
  have HN:=Hd hN;have HK:=Hd hK;clear hN hK
  by_cases hlt:k < 16
  ·have b1:(k:Int) < 16:=vO
   have b2:k < 17:=vO
   obtain⟨r,hr⟩:∃ r,rs[k]?=some r:=⟨_,bA (by have:=H.o;omega)⟩
   have q1:wr.cell? ⟨g,k,none⟩=some (.string (itB r)):=jar (jar (a1.o k _ (e2.o k r hr)) a6.o K) HK.o K;have Q1:=Hd q1;have HR:=Hd hr
   obtain⟨x,E⟩:=vE (itB r)
   have HX:=Hd E;rw[<-E]at q1 Q1;clear hr E;go_wp2_with fail
   refine jag [0,1,2,3,4,5] Ext ExtR ExtT vY vY vY ?_;iterate 3 refine vK ?_
   refine qKL ⟨g,k,none⟩ _ rfl (fun w1 h1=>jab Tryz.uStr rfl (jaa Q1.o ((jah wr).trans h1))) ?_;refine vS ?_;refine qKC _ 161 #[.string ⟨#[]⟩] (.string t0) rfl (fun w1=>jaq Tryz.enterText4 vY) (fun w1 h1=>e0.o w1) ?_;refine vS ?_
   refine vK ?_
   refine qKE (fun w7 he=>?_);have c6:=Hd ((jah wr).trans he);have f8:=HN.o.keeps c6.o (fun h=>h);have b5:=Hd f8;have f9:=Hd (HK.o.trans (c6.o.mono (fun _ _ h=>h.elim)));clear he q1 f8
   obtain⟨q,hq⟩:=vE (!(x.toList == t0.toList))
   rw[<-hq]
   by_cases hxt:x=t0
   ·have g0:rs[k]?=some ⟨#[]⟩:=by
     have h1:=HR.o
     by_cases Z:r.size=0
     ·rw[h1];exact congrArg some (jbC (bD Z))
     ·exfalso
      refine e3.o r (bI h1) Z ?_;rw[<-hxt,HX.o];unfold itB;rw[if_neg Z]
    have h7:=Hd (jmO H.o g0);have c7:(t0 != t0)=false:=by unfold bne;rw[show (t0 == t0)=true by rw[jeo];exact decide_eq_true rfl];rfl
    obtain rfl:q=false:=by rw[hq,hxt,beq_self_eq_true];rfl
    clear g0 hxt hq c7;go_wp2_with fail
    go_roundw
    case rel=>exact⟨k+1,by omega,by go_num,by rw[h7.o];exact b5.o,f9.o⟩
    case measure=>exact vJ
   ·have g1:x=r:=by
     rw[HX.o];unfold itB;rw[if_neg (fun Z=>hxt (by rw[HX.o,c9.o];unfold itB;rw[if_pos Z]))]
    have h8:=Hd (show (jd8 rs k).set k x=jd8 rs (k+1) by rw[g1];exact ji4 H.o HR.o);have c7:(x != t0)=true:=by unfold bne;rw[show (x == t0)=false by rw[jeo];exact decide_eq_false hxt];rfl
    obtain rfl:q=true:=by rw[hq,beq_eq_false_iff_ne.2 (fun e=>hxt (jdL e))];rfl
    have q1:=jaa Q1.o c6.o
    obtain⟨old,k3⟩:∃ old,w7.cell? ⟨A,3+k,none⟩=some old:=⟨_,b5.o.cellL (bA (by rw[jad.cells_len _ (jhy H.o vO)];omega))⟩
    have f3:w7.frozen? ⟨A,3+k,none⟩=false:=b5.o.frozen;clear hxt g1 hq c7;go_wp2_with fail
    have g2:=b5.o.set_same (i:=3+k) (.string x);rw[jlL,h8.o]at g2
    exact⟨⟨k+1,by omega,by go_num,g2,f9.o.setCell (p:=⟨A,3+k,none⟩) (.inl rfl) (.string x)⟩,by simp[intOf];omega⟩
  ·have d2:k=16:=vO
   subst d2;have hN:=HN.o;rw[jmN H.o]at hN;have h9:=Hd hN;have q1:wr.cell? ⟨g,16,none⟩=some (.string t2):=jar (jar (a1.o 16 _ a2.o) a6.o K) HK.o K;have i0:=Hd ((g8.o.keeps a6.o b4.o.1).keeps HK.o b4.o.1);have i1:=Hd (a6.o.trans HK.o);have b1:¬((16:Nat):Int) < 16:=vO
   clear hN hlt;go_wp2_with fail
   refine vC (e1.o wr) fun w9 hE=>?_;have g3:=Hd hE;have c8:=Hd (h9.o.keeps hE (fun h=>h));have k2:=c8.o.cellL (i:=2) (v:=.string ⟨#[]⟩) rfl;have f2:w9.frozen? ⟨A,2,none⟩=false:=c8.o.frozen;have a3:Blk (w9.setCell ⟨A,2,none⟩ (.string v)) A (.cells (jad.cells ⟨3,⟨#[]⟩,v,rs⟩).toArray 94):=c8.o.set_same (i:=2) (.string v);have Q:=jao _ A ⟨3,⟨#[]⟩,v,rs⟩ H.o a3;have a7:=Hd a3;unfold jad.V at Q;clear hE a3 q1;go_wp2_with (refine jae 94 (.tmp 4) rfl rfl _ _ rfl Q ?_)
   have a4:=Hd ((jaf.refl (fun z=>z=A) w9).setCell (p:=⟨A,2,none⟩) (.inl rfl) (.string v));have a8:=Hd ((i0.o.keeps g3.o (fun h=>h)).keeps a4.o b4.o.1)
   obtain⟨i2,a9⟩:=vE (w9.setCell ⟨A,2,none⟩ (.string v))
   rw[<-a9]at a8 a4 a7 ⊢;clear k2 f2 Q a9;refine vC (J.o i2) fun i6 hE=>?_;have d3:=Hd hE;have d4:=a7.o.keeps hE (fun h=>h);have Q:=jao _ A ⟨3,⟨#[]⟩,v,rs⟩ H.o d4;have d5:=a8.o.keeps hE (fun h=>h);have i7:(s != s)=false:=by unfold bne;rw[show (s == s)=true by rw[jeo];exact decide_eq_true rfl];rfl
   have HL:=Hd (jad.cells_len ⟨3,⟨#[]⟩,v,rs⟩ H.o);unfold jad.V at Q;clear hE;go_wp2_with (first |(refine jae 94 (.tmp 4) rfl rfl _ _ rfl Q ?_) |(refine jai (vs:=jad.cells ⟨3,⟨#[]⟩,v,rs⟩) rfl rfl rfl rfl d5 (by rw[HL.o];rfl) (by rw[HL.o];exact Tryz.szNode) (jad.one _) ?_;intro i3 d6 d7))
   refine bodyPost_ret (jaE rfl rfl rfl (jau i3 _ ⟨3,⟨#[]⟩,v,rs⟩ H.o d6)) rfl ?_;have hz:=b4.o;have e9:=((g6.o.trans c3.o).trans' i1.o (fun x E e=>by have e:x=A:=e;omega)).trans g3.o;have i4:=e9.trans' a4.o (fun x E e=>by have e:x=A:=e;omega)
   exact⟨rfl,(i4.trans d3.o).trans' d7 (fun x E e=>by have e:x=gr:=e;omega)⟩
end
section
variable {I:vB->jad->Prop} (HP:InlP I) (HI:InlR I)
include HP HI
theorem jwg(w:vW)(n:jad)(h:jbT I n):vR 175 #[.string (jaP n)] w (.tuple #[n.V,.bool true]):=by
 cases h with
 | none=>exact joa HP HI w
 | leaf p v h2 h3 h4=>exact jn9 HP HI w p v h2 h3 h4
 | ext p r h2 h3 h4=>exact jq2 HP HI w p r h2 h3 h4
 | branch v rs h2 h3 h4 h5=>exact jlb HP HI w v rs h2 h3 h4 h5
end
theorem inlR:∀ d,InlR (InlD d)
 | 0=>⟨fun _ _ h=>h.elim,fun _ _ h=>h.elim,fun _ _ h=>h.elim⟩
 | d+1=>⟨fun r m h=>h.2.2.1,fun r m h=>(h.1.one (inlP d)).refs,fun r m h w=>by
  obtain⟨e,rfl,o,z⟩:=h
  exact jmP w _ m (e.one (inlP d)).refs z o (fun w1=>jwg (inlP d) (inlR d) w1 m e)⟩
end
section
open Go Go.RowKit
attribute [local go_sem] Oper.semAt_some
theorem Tryz.enterPath1r(args:Array vV)(w:vW):(callFunc 110 args).run Tryz.prog w=.ok (.enter 110 args) w:=vY
def Pa5R(w:vW)(l:vL)(v iv:vV)(wr:vW):Prop:=∃ k:Nat,k<=l.length/\iv=.int .i64 k/\ERow w wr v k ((jaR l).take k)
theorem jwf(w:vW)(v:vV)(l:vL)(hv:RdP w v l)(hn:l.length<=1000000)(hs:∀ p∈l,p.1.size<=1000000) :
  vQ 73 #[v] w fun e w'=>∃ u,e=.returned u/\ERow w w' u l.length (jaR l):=by
 have HV:=Hd hv;have HS:=Hd hs
 obtain⟨a0,c0,rfl⟩:=hv.sl;clear hv hs;go_enter Tryz.func73,Tryz.ntmps73;go_wp2_with fail
 go_loopw [3,4] (fun v iv wr=>Pa5R w l v iv wr) (fun _ iv _=>l.length - (intOf iv).toNat)
 case atStart=>exact⟨0,by omega,rfl,ORow.nil _ _ (ExtR w)⟩
 case round =>
  obtain⟨k,hk,rfl,hR⟩:=hrel
  have H:=Hd hR
  obtain⟨la,lc,rfl⟩:=hR.sl;clear hR
  by_cases hlt:k < l.length
  ·have b1:(k:Int) < (l.length:Int):=vO
   obtain⟨⟨x,y⟩,hp⟩:∃ p,l[k]?=some p:=⟨_,bA hlt⟩
   rcases HV.o with⟨_,_,_,h0⟩ |⟨b,o,c1,hh,hb,hc,hcell⟩
   ·rw[h0]at hlt;cases hlt
   cases hh
   obtain⟨q1,q2⟩:=hcell k _ hp
   have Q1:=Hd (jaa q1 H.o.ext);have Q2:=Hd (jaa q2 H.o.ext);have a1:=Hd (HS.o _ (bI hp));have J:=Hd (show (jaR l).take (k+1)=(jaR l).take k++[(jbu x,y)] by
    unfold jaR;rw[bY,cA,hp];rfl)
   have NB:Hid (¬(Value.slice la k lc).ownBlock=some b):=(fun e=>by have:=H.o.new b e;omega);clear hcell hp q1 q2 hb hc;go_wp2_with fail
   refine jaC [0,1,2,3,4,5,6,7,8,9,10,11,12,13,14,15] [13,14] Ext (jaf (fun b=>(Value.slice la k lc).ownBlock=some b)) ExtR ExtT (fun x y z h k=>jaf.trans h k) (fun x y h=>h.mono (fun _ _ h=>h.elim)) vY vY vY ?_;iterate 5 refine vD ?_
   refine qDL ⟨b,o+k * 2,none⟩ _ rfl (fun w1 h1=>jab Tryz.uStr rfl (jar (jaa Q1.o (jah wr)) h1 NB.o)) ?_;refine vS ?_;refine jiP _ 110 #[.string x] (.string (jbu x)) rfl vY rfl (fun w1=>jaq Tryz.enterPath1r vY) (fun w1 h1=>jn8 w1 x a1.o) ?_;refine vS ?_;iterate 4 refine vD ?_
   refine qDL ⟨b,o+k * 2+1,none⟩ _ rfl (fun w1 h1=>jab Tryz.uStr rfl (jar (jaa Q2.o (jah wr)) h1 NB.o)) ?_;refine vS ?_
   refine vD ?_
   refine qDH _ rfl (fun w2 A K O=>?_);have Q:=Hd (H.o.mono ((jah wr).trans A));clear A
   obtain⟨z,hz⟩:=vE (jbu x)
   rw[<-hz]at J ⊢;clear hz;go_simp;refine O _ _ ((jaf.refl _ w2).alloc _) ?_;clear O K;refine qDH _ rfl (fun w3 A K O=>?_);have X:=Hd (Q.o.mono (((ExtR w2).alloc _).trans A));have hB:∀ j u,([.string z,.string y]:List vV)[j]?=some u->w3.cell? ((⟨w2.heap.size,0,none⟩:Addr).add j)=some u:=fun j u hj=>jaa (jaI (Blk.new w2 (.cells [Value.string z,.string y].toArray 47)) j u hj) A;refine jfv Tryz.sEnts X.o (.tmp 11) (.tmp 24) rfl rfl hB (by intro u hu;simp at hu;rcases hu with rfl | rfl <;> rfl) rfl rfl (by unfold maxLen;omega) vO (fun v' w4 r1 r2 r3=>O _ _ r2 ?_);have Z:ERow w w4 v' (k+1) ((jaR l).take (k+1)):=by
    unfold ERow;rw[J.o,jaV];exact r1
   have E:=Hd Z;clear O K A r1 r2 r3 Z hB Q X
   obtain⟨a4,c4,rfl⟩:=E.o.sl
   refine vS ?_
   refine vD ?_
   refine qDE (fun w5 A=>?_);have a2:=Hd (E.o.mono A);clear A E;go_wp2_with fail
   go_roundw
   case rel=>exact⟨k+1,by omega,by go_num,a2.o⟩
   case measure=>exact vJ
  ·have a3:k=l.length:=vO
   subst a3;have HF:=Hd (show ERow w wr (.slice la l.length lc) l.length (jaR l) by
    have h:=H.o
    rwa [bN (by unfold jaR;rw[cC];exact bL _)]at h)
   go_wp2_with fail
   go_ret
   exact⟨_,rfl,HF.o⟩
def jfY(p x:vB):Bool:=decide (p.size<=x.size) && decide (x.extract 0 p.size=p)
def jcY(p:vB)(l:vL):vL:=(l.filter fun q=>jfY p q.1).map fun q=>(q.1.extract p.size q.1.size,q.2)
theorem jrb(p:vB){l:vL}{k:Nat}{q:Pair}(h:l[k]?=some q):jcY p (l.take (k+1))=jcY p (l.take k)++(if jfY p q.1 then [(q.1.extract p.size q.1.size,q.2)]else []):=by
 unfold jcY;rw[bY,h,gM,cB,Option.toList_some,dH];split <;> rfl
def Un5R(w:vW)(p:vB)(l:vL)(v iv:vV)(wr:vW):Prop:=∃ k:Nat,k<=l.length/\iv=.int .i64 k/\ERow w wr v (jcY p (l.take k)).length (jcY p (l.take k))
theorem jq4(p:vB)(l:vL):(jcY p l).length<=l.length:=by
 unfold jcY;rw[cC];exact dQ _ _
theorem jpM(w:vW)(v:vV)(l:vL)(p:vB)(hv:RdP w v l)(hn:l.length<=1000000)(hs:∀ p∈l,p.1.size<=1000000)(hp:p.size<=1000000) :
  vQ 141 #[v,.string p] w fun e w'=>∃ u,e=.returned u/\ERow w w' u (jcY p l).length (jcY p l):=by
 have HV:=Hd hv;have HS:=Hd hs
 obtain⟨a0,c0,rfl⟩:=hv.sl;clear hv hs;go_enter Tryz.func141,Tryz.ntmps141;go_wp2_with fail
 go_loopw [5,6] (fun v iv wr=>Un5R w p l v iv wr) (fun _ iv _=>l.length - (intOf iv).toNat)
 case atStart=>exact⟨0,by omega,rfl,ORow.nil _ _ (ExtR w)⟩
 case round =>
  obtain⟨k,hk,rfl,hR⟩:=hrel
  have A:=Hd hR
  obtain⟨m,hm⟩:=vE (jcY p (l.take k))
  have a7:m.length<=k:=by
   rw[hm];have Q:=jq4 p (l.take k);rw[cQ]at Q;omega
  have HM:=Hd hm;rw[<-hm]at A
  obtain⟨la,lc,rfl⟩:=A.o.sl;clear hR hm
  by_cases hlt:k < l.length
  ·have b1:(k:Int) < (l.length:Int):=vO
   obtain⟨⟨x,y⟩,hq⟩:∃ p,l[k]?=some p:=⟨_,bA hlt⟩
   rcases HV.o with⟨_,_,_,h0⟩ |⟨b,o,c1,hh,hb,hc,hcell⟩
   ·rw[h0]at hlt;cases hlt
   cases hh
   obtain⟨q1,q2⟩:=hcell k _ hq
   have Q1:=Hd (jaa q1 A.o.ext);have Q2:=Hd (jaa q2 A.o.ext);have a8:=Hd (HS.o _ (bI hq));have X:=Hd (jrb p hq);rw[<-HM.o]at X;have NB:Hid (¬(Value.slice la m.length lc).ownBlock=some b):=(fun e=>by have:=A.o.new b e;omega);have q1:=Q1.o;clear hcell hq q2 hb hc;have Z:∀ b,jfY p x=b->jcY p (l.take (k+1))=m++(if b then [(x.extract p.size x.size,y)]else []):=fun b e=>by rw[X.o,e]
   have H:=Hd Z;clear Z
   by_cases hsz:p.size<=x.size
   case neg =>
    have c1:¬(p.size:Int)<=(x.size:Int):=vO
    have O:=Hd (H.o false (by unfold jfY;rw[decide_eq_false hsz];rfl));go_wp2_with fail
    go_roundw
    case rel=>exact⟨k+1,by omega,by go_num,by rw[O.o];simpa using A.o⟩
    case measure=>exact vJ
   have c1:(p.size:Int)<=(x.size:Int):=vO
   by_cases hbg:x.extract 0 p.size=p
   case neg =>
    have hx:((x.extract 0 p.size).toList == p.toList)=false:=beq_eq_false_iff_ne.2 (fun e=>hbg (jdL e));have O:=Hd (H.o false (by unfold jfY;rw[decide_eq_false hbg,iF]));clear hbg;go_wp2_with fail
    go_roundw
    case rel=>exact⟨k+1,by omega,by go_num,by rw[O.o];simpa using A.o⟩
    case measure=>exact vJ
   have hx:((x.extract 0 p.size).toList == p.toList)=true:=by rw[hbg];exact beq_self_eq_true _
   have O:=Hd (show jcY p (l.take (k+1))=m++[(x.extract p.size x.size,y)]from H.o true (by unfold jfY;rw[decide_eq_true hbg,decide_eq_true hsz];rfl));clear hbg;go_wp2_with fail
   refine jaC [0,1,2,3,4,5,6,7,8,9,10,11,12,13,14,15,16,17] [15,16] Ext (jaf (fun b=>(Value.slice la m.length lc).ownBlock=some b)) ExtR ExtT (fun x y z h k=>jaf.trans h k) (fun x y h=>h.mono (fun _ _ h=>h.elim)) vY vY vY ?_;iterate 5 refine vD ?_
   refine qDL ⟨b,o+k * 2,none⟩ _ rfl (fun w1 Q=>jab Tryz.uStr rfl (jar (jaa Q1.o (jah wr)) Q NB.o)) ?_;refine vS ?_;iterate 7 refine vD ?_
   refine qDL ⟨b,o+k * 2+1,none⟩ _ rfl (fun w1 Q=>jab Tryz.uStr rfl (jar (jaa Q2.o (jah wr)) Q NB.o)) ?_;refine vS ?_
   refine vD ?_
   refine qDH _ rfl (fun w2 E K hK=>?_);have a1:=Hd (A.o.mono ((jah wr).trans E));clear E
   obtain⟨z,hz⟩:=vE (x.extract p.size x.size)
   rw[<-hz]at O ⊢;clear hz;go_simp;refine hK _ _ ((jaf.refl _ w2).alloc _) ?_;clear hK K;refine qDH _ rfl (fun w3 E K hK=>?_);have a2:=Hd (a1.o.mono (((ExtR w2).alloc _).trans E));have hB:∀ j u,([.string z,.string y]:List vV)[j]?=some u->w3.cell? ((⟨w2.heap.size,0,none⟩:Addr).add j)=some u:=fun j u hj=>jaa (jaI (Blk.new w2 (.cells [Value.string z,.string y].toArray 47)) j u hj) E;refine jfv Tryz.sEnts a2.o (.tmp 34) (.tmp 49) rfl rfl hB (by intro u hu;simp at hu;rcases hu with rfl | rfl <;> rfl) rfl rfl (by unfold maxLen;omega) vO (fun v' w4 r1 r2 r3=>hK _ _ r2 ?_);have a3:ERow w w4 v' (m.length+1) (m++[(z,y)]):=by
    unfold ERow;rw[jaV];exact r1
   have J:=Hd a3;clear hK K E r1 r2 r3 a3 hB a1 a2
   obtain⟨a4,c4,rfl⟩:=J.o.sl
   refine vS ?_
   refine vD ?_
   refine qDE (fun w5 E=>?_);have a5:=Hd (J.o.mono E);clear E J;go_wp2_with fail
   go_roundw
   case rel=>exact⟨k+1,by omega,by go_num,by rw[O.o,bC];exact a5.o⟩
   case measure=>exact vJ
  ·have a6:k=l.length:=vO
   subst a6;have HF:=Hd (show ERow w wr (.slice la m.length lc) (jcY p l).length (jcY p l) by
    have h:=A.o;have e:=HM.o;rw[bN (bL _)]at e;rw[<-e];exact h)
   go_wp2_with fail
   go_ret
   exact⟨_,rfl,HF.o⟩
end
section
open Go Go.RowKit
theorem jjH:∀ (a q:vN) (m:Nat),ja0 (a.take m) q=min m (ja0 a q)
 | [],q,m=>by simp[ja0]
 | x :: r,[],m=>by cases m <;> simp[ja0]
 | x :: r,y :: t,0=>by simp[ja0]
 | x :: r,y :: t,m+1=>by
  have:=jjH r t m
  rw[dZ];show (if x=y then ja0 (r.take m) t+1 else 0)=min (m+1) (if x=y then ja0 r t+1 else 0);split <;> omega
def comF(l:vL)(p:vB):vB:=l.foldl (fun p q=>p.extract 0 (jal p q.1)) p
def comM(a:vB)(l:vL)(m:Nat):Nat:=l.foldl (fun m q=>min m (jal a q.1)) m
theorem jc0(b:vB)(k:Nat):(b.extract 0 k).data.toList=b.data.toList.take k:=by
 rw[dA,fL,dU];simp
theorem jrX(a:vB):∀ (l:vL) (p:vB) (m:Nat),p.data.toList=a.data.toList.take m->(comF l p).data.toList=a.data.toList.take (comM a l m)
 | [],p,m,h=>h
 | q :: l,p,m,h=>by
  refine jrX a l (p.extract 0 (jal p q.1)) (min m (jal a q.1)) ?_;rw[jc0,h,List.take_take]
  congr 1
  show min (ja0 p.data.toList q.1.data.toList) m=min m (ja0 a.data.toList q.1.data.toList);rw[h,jjH];omega
theorem jrZ(a:vB)(K:Nat):∀ (l:vL) (m:Nat),K<=m->(∀ q∈l,K<=jal a q.1)->K<=comM a l m
 | [],m,h,_=>h
 | q :: l,m,h,hq=>jrZ a K l (min m (jal a q.1)) (by have:=hq q bH;omega) (fun x e=>hq x (bE _ e))
theorem joC(a:vB):∀ (l:vL) (m:Nat),comM a l m<=m
 | [],m=>bL _
 | q :: l,m=>bK (joC a l _) (Nat.min_le_left _ _)
theorem jr0(a:vB):∀ (l:vL) (m:Nat) (q:Pair),q∈l->comM a l m<=jal a q.1
 | p :: l,m,q,h=>by
  rcases bM.1 h with rfl | h
  ·exact bK (joC a l _) (Nat.min_le_right _ _)
  ·exact jr0 a l _ q h
theorem jqn{a b:vN}{k:Nat}(h:a.take k=b.take k)(h1:k<=a.length)(h2:k<=b.length):k<=ja0 a b:=by
 rw[jdQ a b k h h1 h2];omega
theorem joB{f:Nat}{l:vL}(h:jas f l)(h2:2<=l.length):comF l (l.getD 0 pd).1=(l.getD 0 pd).1.extract 0 (comK l):=by
 refine jbC ?_
 obtain⟨a,o⟩:=vE (l.getD 0 pd).1
 have A:l.getD 0 pd∈l:=by
  rw[bG,bA vO];exact dG _
 have E:l.getD (l.length - 1) pd∈l:=by
  rw[bG,bA vO];exact dG _
 have e:=jbl h h2;have z:=(e _ A).2;rw[<-o,jrX a l a a.data.toList.length (bN (bL _)).symm,jc0]
 congr 1
 have H:∀ q∈l,comK l<=jal a q.1:=fun q J=>by
  obtain⟨K,O⟩:=e q J
  exact jqn (by rw[o];exact K.symm) (by rw[o];exact z) O
 have Q:=jrZ a (comK l) l a.data.toList.length (by rw[o];exact z) H;have X:=jr0 a l a.data.toList.length _ E;have Z:jal a (l.getD (l.length - 1) pd).1=comK l:=by rw[o];rfl
 omega
theorem jug{f:Nat}{l:vL}(h:jas f l)(h2:2<=l.length):jcY ((l.getD 0 pd).1.extract 0 (comK l)) l=jak (comK l) l:=by
 have z:l.getD 0 pd∈l:=by
  rw[bG,bA vO];exact dG _
 have e:=jbl h h2;have o:((l.getD 0 pd).1.extract 0 (comK l)).size=comK l:=by
  rw[cL];have:=(e _ z).2;omega
 unfold jcY jak;rw[jL.2 (fun q A=>by
  obtain⟨E,H⟩:=e q A
  unfold jfY;rw[o,decide_eq_true H,Bool.true_and];refine decide_eq_true (jbC ?_);rw[jc0,jc0];exact E),o]
theorem jrF(i:Nat)(hi:i < 256)(q:Pair):jfY ⟨#[i.toUInt8]⟩ q.1=jeU i q:=by
 obtain⟨⟨⟨x⟩⟩,v⟩:=q
 cases x with
 | nil=>rfl
 | cons a r =>
  have o:(1:Nat)<=(⟨⟨a :: r⟩⟩:vB).size:=by show 1<=(a :: r).length;simp
  have z:(⟨⟨a :: r⟩⟩:vB).extract 0 1=⟨#[a]⟩:=jbC (by rw[jc0];rfl);unfold jfY;show (decide ((1:Nat)<=_) && decide ((⟨⟨a :: r⟩⟩:vB).extract 0 1=⟨#[i.toUInt8]⟩))=(a.toNat == i);rw[show (a.toNat == i)=decide (a.toNat=i)from rfl];rw[decide_eq_true o,Bool.true_and,z];refine decide_eq_decide.2 ⟨fun e=>?_,fun e=>?_⟩
  ·have:a=i.toUInt8:=by injection e with e;injection e with e;injection e
   rw[this];simp;omega
  ·rw[<-e];simp
theorem juh(i:Nat)(hi:i < 256)(l:vL):jcY ⟨#[i.toUInt8]⟩ l=jak 1 (cutL i l):=by
 unfold jcY jak cutL;rw[show (fun q:Pair=>jfY ⟨#[i.toUInt8]⟩ q.1)=jeU i from funext (jrF i hi)];rfl
end
section
open Go Go.RowKit
attribute [local go_sem] Oper.semAt_some
theorem jkk{s:vB}(h:s.size=0):s=⟨#[]⟩:=by
 obtain⟨⟨l⟩⟩:=s
 cases l with
 | nil=>rfl
 | cons x r=>cases h
theorem jnr{s:vB}(h:s.size≠0):s.toList.isEmpty=false:=by
 rw[bO]
 obtain⟨⟨l⟩⟩:=s
 cases l with
 | nil=>exact absurd rfl h
 | cons x r=>rfl
theorem ji1(w:vW)(b:vB):vR 163 #[.string ⟨#[]⟩,.string b] w (.int .i64 (jal ⟨#[]⟩ b)):=by
  rw[show jal ⟨#[]⟩ b=0 from jhe _ _ (.inl rfl)];unfold vR vQ;go_in;go_wp2_with fail
  refine jag [0,1,2,3,4,5,6,7,8,9,10,11,12] Ext ExtR ExtT vY vY vY ?_;iterate 3 refine vK ?_
  iterate 2 (refine qKS _ rfl ?_;refine vS ?_)
  iterate 2 refine vK ?_
  iterate 5 (refine qKS _ rfl ?_;refine vS ?_)
  refine vK ?_
  refine qKE (fun w1 e=>?_);have z:=Hd ((jah w).trans e);clear e;go_wp2_with fail
  go_ret
  exact⟨rfl,z.o⟩
theorem jmI(w:vW)(a:vB)(ha:a.size≠0):vR 163 #[.string a,.string ⟨#[]⟩] w (.int .i64 (jal a ⟨#[]⟩)):=by
  have z:=jnr ha;rw[show jal a ⟨#[]⟩=0 from jhe _ _ (.inr rfl)];unfold vR vQ;go_in;go_wp2_with fail
  refine jag [0,1,2,3,4,5,6,7,8,9,10,11,12] Ext ExtR ExtT vY vY vY ?_;iterate 7 refine vK ?_
  iterate 5 (refine qKS _ rfl ?_;refine vS ?_)
  refine vK ?_
  refine qKE (fun w1 e=>?_);have A:=Hd ((jah w).trans e);clear e;go_wp2_with fail
  go_ret
  exact⟨rfl,A.o⟩
theorem jnA{a b:vB}(ha:0 < a.size)(hb:0 < b.size)(h:a[0]=b[0]):jal a b=1+jal (a.extract 1 a.size) (b.extract 1 b.size):=by
 have e:∀ {s:vB} (o:0 < s.size),s.data.toList=s[0] ::(s.extract 1 s.size).data.toList:=fun {s} o=>by
  have:=jkw s o
  rw[List.drop_zero]at this;rw[this]
  congr 1
  rw[dA]
  simp
  rw[bN (by rw[List.length_tail];exact bL _)]
 unfold jal;rw[e ha,e hb];show (if a[0]=b[0]then _ else 0)=_;rw[if_pos h];omega
theorem jhd:∀ a b:vN,ja0 a b<=a.length
 | [],_=>by simp[ja0]
 | x :: r,[]=>by simp[ja0]
 | x :: r,y :: t=>by
  have:=jhd r t
  show (if x=y then ja0 r t+1 else 0)<=_;rw[bF];split <;> omega
theorem jqT(a b:vB):jal a b<=a.size:=jhd _ _
theorem jnC{a b:vB}(ha:0 < a.size)(hb:0 < b.size)(h:a[0]≠b[0]):jal a b=0:=by
 have e:∀ {s:vB} (o:0 < s.size),s.data.toList=s[0] :: s.data.toList.drop 1:=fun {s} o=>by
  have:=jkw s o
  rwa [List.drop_zero]at this
 unfold jal;rw[e ha,e hb];show (if a[0]=b[0]then _ else 0)=_;rw[if_neg h]
theorem jtB:∀ (n:Nat) (w:vW) (a b:vB),a.size<=n->n<=1000000->b.size<=1000000->vR 163 #[.string a,.string b] w (.int .i64 (jal a b)):=by
 intro n;induction n with
 | zero =>
  intro w a b Z hn hb;have A:=jkk (s:=a) vO;subst A;exact ji1 w b
 | succ n ih =>
  intro w a b Z hn hb
  by_cases ha0:a.size=0
  ·have A:=jkk ha0
   subst A;exact ji1 w b
  by_cases hb0:b.size=0
  ·have A:=jkk hb0
   subst A;exact jmI w a ha0
  have a0:=jnr ha0;have a1:=jnr hb0;have K:0 < a.size:=vO
  have O:0 < b.size:=vO
  have b1:(0:Int) < (a.size:Int):=vO
  have b2:(0:Int) < (b.size:Int):=vO
  by_cases heq:a[0]=b[0]
  ·rw[jnA K O heq]
   have hh:((a[0].toNat:Int) !=(b[0].toNat:Int))=false:=by rw[heq];simp
   have b3:(1:Int)<=(a.size:Int):=vO
   have b4:(1:Int)<=(b.size:Int):=vO
   have E:=Hd (fun w1=>ih w1 (a.extract 1 a.size) (b.extract 1 b.size) (by rw[cL];omega) vO (by rw[cL];omega))
   obtain⟨c,Q⟩:=vE (jal (a.extract 1 a.size) (b.extract 1 b.size))
   have a2:c<=1000000:=by have:=jqT (a.extract 1 a.size) (b.extract 1 b.size);rw[cL]at this;omega
   rw[<-Q]at E ⊢;clear ih heq Q;go_enter Tryz.func163,Tryz.ntmps163;go_wp2_with fail
   refine jag [0,1,2,3,4,5,6,7,8,9,10,11,12] Ext ExtR ExtT vY vY vY ?_;iterate 13 refine vK ?_
   refine qKE (fun w1 z=>?_);have H:=Hd ((jah w).trans z);clear z;go_wp2_with fail
   refine jag [0,1,2,3,4,5,6] Ext ExtR ExtT vY vY vY ?_;iterate 4 refine vK ?_
   refine qKC _ 163 #[.string (a.extract 1 a.size),.string (b.extract 1 b.size)] (.int .i64 c) rfl (fun X=>jaq (vX 163) vY) (fun X _=>E.o X) ?_;refine vS ?_;iterate 2 refine vK ?_
   refine qKE (fun w3 z=>?_);have J:=Hd (H.o.trans ((jah w1).trans z));clear z;go_wp2_with fail
   go_ret
   exact⟨by simp,J.o⟩
  ·rw[jnC K O heq]
   have hh:((a[0].toNat:Int) !=(b[0].toNat:Int))=true:=by
    have:a[0].toNat≠b[0].toNat:=fun e=>heq (dP.1 e)
    simp;omega
   clear ih heq;go_enter Tryz.func163,Tryz.ntmps163;go_wp2_with fail
   refine jag [0,1,2,3,4,5,6,7,8,9,10,11,12] Ext ExtR ExtT vY vY vY ?_;iterate 13 refine vK ?_
   refine qKE (fun w1 z=>?_);have H:=Hd ((jah w).trans z);clear z;go_wp2_with fail
   go_ret
   exact⟨rfl,H.o⟩
theorem jrY(h:vB){l:vL}{k:Nat}{q:Pair}(hq:l[k]?=some q):comF (l.take (k+1)) h=(comF (l.take k) h).extract 0 (jal (comF (l.take k) h) q.1):=by
 unfold comF;rw[bY,hq,Option.toList_some,dX];rfl
theorem jlM:∀ (l:vL) (h:vB),(comF l h).size<=h.size
 | [],h=>bL _
 | q :: l,h=>bK (jlM l _) (by rw[cL];omega)
def Co5R(w:vW)(h:vB)(l:vL)(v iv:vV)(wr:vW):Prop:=∃ k:Nat,k<=l.length/\v=.string (comF (l.take k) h)/\iv=.int .i64 k/\Ext w wr
theorem jtA(w:vW)(v:vV)(l:vL)(hv:RdP w v l)(hl:l≠[])(hn:l.length<=1000000)(hs:∀ p∈l,p.1.size<=1000000) :
  vR 139 #[v] w (.string (comF l (l.getD 0 pd).1)):=by
 have HS:=Hd hs;have e:0 < l.length:=gB.2 hl
 obtain⟨⟨H,y0⟩,z⟩:∃ p,l[0]?=some p:=⟨_,bA e⟩
 have J:(l.getD 0 pd).1=H:=by rw[bG,z];rfl
 rw[J];rcases hv with⟨_,_,_,h0⟩ |⟨b,o,c1,rfl,hb,hc,hcell⟩
 ·rw[h0]at e;cases e
 have q0:=(hcell 0 _ z).1;rw[gE,fR]at q0;have X:=Hd (HS.o _ (bI z));have Z:=Hd hcell;have b0:(0:Int) < (l.length:Int):=vO
 clear hs hcell z J;go_enter Tryz.func139,Tryz.ntmps139;go_wp2_with fail
 go_loopw [3,4] (fun v iv wr=>Co5R w H l v iv wr) (fun _ iv _=>l.length - (intOf iv).toNat)
 case atStart=>exact⟨0,by omega,rfl,rfl,ExtR w⟩
 case round =>
  obtain⟨k,hk,rfl,rfl,K⟩:=hrel
  have HE:=Hd K
  obtain⟨p,O⟩:=vE (comF (l.take k) H)
  have HP:=Hd O;rw[<-O];have a0:=Hd (show p.size<=1000000 by rw[O];exact bK (jlM _ _) X.o);clear K O
  by_cases hlt:k < l.length
  ·have b1:(k:Int) < (l.length:Int):=vO
   obtain⟨⟨x,y⟩,Q⟩:∃ p,l[k]?=some p:=⟨_,bA hlt⟩
   have q1:=jaa (Z.o k _ Q).1 HE.o;have a1:=Hd (HS.o _ (bI Q));have A:=Hd (jrY H Q);rw[<-HP.o]at A;clear Q;go_wp2_with fail
   refine vH (jtB p.size wr p x (bL _) a0.o a1.o) fun w1 K=>?_
   obtain⟨cm,E⟩:=vE (jal p x)
   have a4:cm<=p.size:=by rw[E];exact jhd _ _
   have a2:=Hd (HE.o.trans K);rw[<-E]at A ⊢;clear E;have c0:(cm:Int)<=(p.size:Int):=vO
   go_wp2_with fail
   go_roundw
   case rel=>exact⟨k+1,by omega,by rw[A.o],by go_num,a2.o⟩
   case measure=>exact vJ
  ·have a3:k=l.length:=vO
   have HF:=Hd (show p=comF l H by rw[HP.o,a3,bN (bL _)]);go_wp2_with fail
   go_ret
   exact⟨by rw[HF.o];rfl,HE.o⟩
def jgq(l:vL)(n:jad):Prop:=∀ w v,RdP w v l->vR 109 #[v] w n.V
theorem jmH(f:Nat)(l:vL)(hN:jgq l (jap (jac f) l))(h:jas f l)(w:vW)(v:vV)(hv:RdP w v l) :
  vR 72 #[v] w (.string (jac (f+1) l).text):=by
 have z:=Hd (good f l h).1;have H:=Hd hv;have A:=Hd hN
 obtain⟨n,E⟩:=vE (jap (jac f) l)
 rw[show (jac (f+1) l).text=jaP (jap (jac f) l)from rfl];rw[<-E]at z A ⊢
 obtain⟨O,Q,rfl⟩:=hv.sl;clear hv hN E h;go_enter Tryz.func72,Tryz.ntmps72;go_wp2_with fail
 refine vH (A.o w _ H.o) fun w1 J=>?_;go_wp2_with fail
 refine vH (ji7 (inlP f) (inlR f) w1 n z.o) fun X K=>?_;have e:=Hd (J.o.trans K);go_wp2_with fail
 go_ret
 exact⟨rfl,e.o⟩
theorem jtU(f:Nat)(l:vL)(hN:jgq l (jap (jac f) l))(h:jas f l)(w:vW)(v:vV)(hv:RdP w v l) :
  vR 140 #[v] w (.string (refB (jac (f+1) l).text)):=by
 have H:=Hd (jmH f l hN h w v hv);have z:Hid ((jac (f+1) l).text.size<=1000000):=(bK (jhu (jap (jac f) l) ((good f l h).1.one (inlP f))) vI)
 obtain⟨t,J⟩:=vE (jac (f+1) l).text
 rw[<-J]at H z ⊢
 obtain⟨O,Q,rfl⟩:=hv.sl;clear hv hN J h;go_enter Tryz.func140,Tryz.ntmps140;go_wp2_with fail
 refine H.o.mono ?_;rintro e w1 ⟨rfl,A⟩;have K:=Hd A;clear A;go_wp2_with fail
 refine vH (jyB w1 t z.o) fun X A=>?_;have E:=Hd (K.o.trans A);go_wp2_with fail
 go_ret
 exact⟨rfl,E.o⟩
theorem jqO(B:vL->PT):jgq [] (jap B []):=by
 intro w v H
 obtain⟨K,O,rfl⟩:=H.sl;clear H;go_enter Tryz.func109,Tryz.ntmps109;go_wp2_with (first |(refine jaj Tryz.allocNode rfl rfl ?_;intro Q o z) |(refine jai (vs:=jaG.cells) rfl rfl rfl rfl o rfl Tryz.szNode jaG.one ?_;intro J A E))
 refine bodyPost_ret (jbJ rfl rfl (jau J _ jaG rfl A)) rfl ?_
 exact⟨rfl,z.trans' E (fun x X e=>by have e:x=w.heap.size:=e;omega)⟩
theorem jta(B:vL->PT)(x y:vB):jgq [(x,y)] (jap B [(x,y)]):=by
 intro w v hv;rcases hv with⟨_,_,_,h0⟩ |⟨b,o,c1,rfl,hb,hc,hcell⟩
 ·cases h0
 obtain⟨Z,q2⟩:=hcell 0 (x,y) rfl
 rw[gE,fR]at Z;rw[gE,fR]at q2;have Q1:=Hd Z;have Q2:=Hd q2;rw[show List.length [(x,y)]=1 from rfl]at *;rw[show jap B [(x,y)]=⟨1,x,y,jam 16⟩from rfl];have NB:=Hd (show ¬(b=w.heap.size)from by omega);clear hcell Z q2 hc hb;go_enter Tryz.func109,Tryz.ntmps109;go_wp2_with (refine jaj Tryz.allocNode rfl rfl ?_;intro X J O)
 have a0:=Hd J;have A:=Hd O;clear J O;refine jaC [0,1,2,3,4,5,6,7,8,9] [9] Ext (jaf (fun z=>z=w.heap.size)) ExtR ExtT (fun x y z h k=>jaf.trans h k) (fun x y h=>h.mono (fun _ _ h=>h.elim)) vY vY vY ?_;iterate 3 refine vD ?_
 refine qDL ⟨b,o,none⟩ _ rfl (fun w1 h1=>jab Tryz.uStr rfl (jar (jaa (jaa Q1.o A.o) (jah X)) h1 NB.o)) ?_;refine vS ?_;iterate 3 refine vD ?_
 refine qDL ⟨b,o+1,none⟩ _ rfl (fun w1 h1=>jab Tryz.uStr rfl (jar (jaa (jaa Q2.o A.o) (jah X)) h1 NB.o)) ?_;refine vS ?_
 refine vD ?_
 refine qDH _ rfl (fun w2 E K hK=>?_);refine jjj (vs:=jad.cells ⟨1,x,y,jam 16⟩) rfl rfl rfl ((a0.o.keeps (jah X) (fun h=>h)).keeps E (fun h=>h)) rfl Tryz.szNode (jad.one _) ?_;intro W3 Q H;have a1:=Hd (((A.o.trans (jah X)).trans E).trans' H (fun x hx e=>by have e:x=w.heap.size:=e;omega));have a2:=Hd Q;refine hK _ _ H ?_;clear hK K E Q H;refine qDE (fun w4 E=>?_);have a3:=Hd (a2.o.keeps E (fun h=>h));have a4:=Hd (a1.o.trans E);clear E;go_wp2_with fail
 refine bodyPost_ret (jbJ rfl rfl (jau w4 _ (jad.mk 1 x y (jam 16)) rfl a3.o)) rfl ?_
 exact⟨rfl,a4.o⟩
theorem js9(f:Nat)(l:vL)(h2:2<=l.length)(hln:l.length<=1000)(hok:jas (f+1) l)(hk:0 < comK l)(hB:jgq (jak (comK l) l) (jap (jac f) (jak (comK l) l)))(hok':jas f (jak (comK l) l)):jgq l (jap (jac (f+1)) l):=by
 intro w v hv;have HV:=Hd hv;have HO:=Hd hok;have d3:=Hd hok';have HB:=Hd hB;have a8:=Hd (joB hok h2);have a9:=Hd (jug hok h2);have A:=jbl hok h2;have b0:Hid (∀ p∈l,p.1.size<=1000000):=(fun p hp=>bK (hok.size p hp).2.1 vI);have b1:((l.getD 0 pd).1.extract 0 (comK l)).size=comK l:=by
  have H:l.getD 0 pd∈l:=by
   rw[bG,bA vO];exact dG _
  rw[cL];have:=(A _ H).2;omega
 have a4:comK l<=12:=by
  have H:l.getD 0 pd∈l:=by
   rw[bG,bA vO];exact dG _
  exact bK (A _ H).2 (hok.size _ H).2.1
 have E:jap (jac (f+1)) l=⟨2,(l.getD 0 pd).1.extract 0 (comK l),⟨#[]⟩,refB (jac (f+1) (jak (comK l) l)).text :: jam 15⟩:=by
  unfold jap;rw[if_neg vO,if_neg vO,if_pos hk]
 rw[E]
 obtain⟨p,hp⟩:=vE ((l.getD 0 pd).1.extract 0 (comK l))
 rw[<-hp]at a8 a9 b1 ⊢
 obtain⟨r,hr⟩:=vE (refB (jac (f+1) (jak (comK l) l)).text)
 have HR:=Hd (jtU f _ hB hok');rw[<-hr]at HR ⊢;have b2:=Hd (show 0 < p.size/\p.size<=12 by omega);have O:=fun W (e:Ext w W)=>jtA W v l (hv.ext e) (fun e=>by rw[e]at h2;simp at h2) vO b0.o;rw[a8.o]at O;have b3:=Hd O;clear O
 obtain⟨a0,c0,rfl⟩:=hv.sl;have g0:¬(l.length:Int)=0:=vO
 have g1:¬(l.length:Int)=1:=vO
 clear hv hok hok' hB A b1 a4 E hp hr hk;go_enter Tryz.func109,Tryz.ntmps109;go_wp2_with (refine jaj Tryz.allocNode rfl rfl ?_;intro W1 b4 b5)
 have b6:=Hd b4;have Q:=Hd b5;clear b4 b5;refine vC (b3.o W1 Q.o) fun w2 hE=>?_;have X:=Hd (Q.o.trans hE);have J:=Hd (b6.o.keeps hE (fun h=>h));clear hE Q b6 b3;have d4:p.toList.isEmpty=false:=by
  rw[bO];cases h:p.data.toList with
  | nil=>have:=b2.o.1;have e:p.data.toList.length=p.size:=rfl;rw[h]at e;simp at e;omega
  | cons=>rfl
 go_wp2_with (first |(refine jaj Tryz.allocNode rfl rfl ?_;intro W3 b7 Z) |(refine jai (vs:=jad.cells ⟨2,p,⟨#[]⟩,jam 16⟩) rfl rfl rfl rfl b7 rfl Tryz.szNode (jad.one _) ?_;intro W4 b8 a1))
 obtain⟨gr,b9⟩:=vE w.heap.size
 obtain⟨K,c1⟩:=vE w2.heap.size
 have c2:=Hd (show gr≠K/\w.heap.size<=gr/\w.heap.size<=K from by have:=J.o.lt;have:=X.o.size;omega);have c3:=Hd ((X.o.trans Z).trans' a1 (fun x hx e=>by have e:x=w2.heap.size:=e;have:=X.o.size;omega));have c4:=Hd ((J.o.keeps Z (fun h=>h)).keeps a1 (by have:=J.o.lt;omega));have c6:=Hd b8;rw[<-b9]at c4 ⊢;rw[<-c1]at c6 ⊢;clear b7 Z b8 a1 b9 c1 J;refine (jpM W4 _ l p (HV.o.ext c3.o) vO b0.o (by have:=b2.o.2;omega)).mono ?_;rintro e w5 ⟨u,rfl,hU⟩;rw[a9.o]at hU
 obtain⟨a5,c5,rfl⟩:=hU.sl
 have HU:=Hd hU;clear hU;go_wp2_with fail
 refine vH (HR.o w5 _ (ERow.rd HU.o)) fun w6 hE=>?_;have a2:=Hd (HU.o.ext.trans hE);have a3:=Hd (c6.o.keeps a2.o (fun h=>h));have d0:=Hd (c4.o.keeps a2.o (fun h=>h));have k3:=a3.o.cellL (i:=3) (v:=.string ⟨#[]⟩) rfl;have f3:w6.frozen? ⟨K,3,none⟩=false:=a3.o.frozen;have c7:Blk (w6.setCell ⟨K,3,none⟩ (.string r)) K (.cells (jad.cells ⟨2,p,⟨#[]⟩,r :: jam 15⟩).toArray 94):=a3.o.set_same (i:=3) (.string r);have c8:=Hd ((jaf.refl (fun z=>z=K) w6).setCell (p:=⟨K,3,none⟩) (.inl rfl) (.string r));have d1:=d0.o.keeps c8.o c2.o.1;have c9:=jao _ K ⟨2,p,⟨#[]⟩,r :: jam 15⟩ rfl c7;unfold jad.V at c9;clear c7;go_wp2_with (first |(refine jae 94 (.tmp 4) rfl rfl _ _ rfl c9 ?_) |(refine jai (vs:=jad.cells ⟨2,p,⟨#[]⟩,r :: jam 15⟩) rfl rfl rfl rfl d1 rfl Tryz.szNode (jad.one _) ?_;intro d2 a6 a7))
 refine bodyPost_ret (jbJ rfl rfl (jau d2 _ ⟨2,p,⟨#[]⟩,r :: jam 15⟩ rfl a6)) rfl ?_;have hz:=c2.o
 exact⟨rfl,((c3.o.trans a2.o).trans' c8.o (fun x hx e=>by have e:x=K:=e;omega)).trans' a7 (fun x hx e=>by have e:x=gr:=e;omega)⟩
end
