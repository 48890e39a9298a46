/- Lemmas; each is under no condition but those that it states. -/
import Derived.Test.YtepbencaoiompaaGreatDoorPa29
namespace Go.Proofs.YtepbencaoiompaaGreatDoor
set_option linter.unusedSimpArgs false
set_option linter.unusedVariables false
set_option maxRecDepth 100000
set_option maxHeartbeats 16000000
open Go Go.RowKit
section
attribute [local go_sem] Oper.semAt_some
theorem WrAt.push{z g:Nat}{v v':vV}{Tx New:vM}{W w6:vW}(h:WrAt z g v Tx W){n:Nat}(hn:n=(Tx++New).length)(r1:w6.ownsRow 0 9 1 v' n ((Tx++New).map Value.string))(r2:jag (fun b=>v.ownBlock=some b) W w6)(r3:v'.ownBlock=v.ownBlock\/∀ b,v'.ownBlock=some b->W.heap.size<=b)(hz:z<=W.heap.size)(h0:New≠[]) :
  WrTo z g v W (w6.setCell ⟨g,0,none⟩ v') v' (Tx++New):=by
 subst hn;have A:=h.var.keeps r2 (fun e=>(h.own g e).2.1 rfl);have E:=jag.oneSet w6 ⟨g,0,none⟩ v';have H:=h.var.lt;have o:∀ b,v'.ownBlock=some b->v.ownBlock=some b\/W.heap.size<=b:=fun b hb=>by
  rcases r3 with r3 | r3
  ·exact .inl (r3 ▸ hb)
  ·exact .inr (r3 b hb)
 have q:∀ b,v'.ownBlock=some b->b≠g:=fun b hb=>by
  rcases o b hb with e | e
  ·exact (h.own b e).2.1
  ·omega
 refine⟨⟨h.lo,A.set_same (i:=0) _,jaY r1 E (fun b hb e=>q b hb e),fun b hb=>⟨?_,q b hb,bR (jxw r1 hb) E.size⟩,fun e=>?_⟩,?_,o⟩
 ·rcases o b hb with e | e
  ·exact (h.own b e).1
  ·omega
 ·exact absurd (List.append_eq_nil_iff.1 e).2 h0
 ·exact ((r2.mono (fun x _ e=>.inr e):jag (fun b=>b=g\/v.ownBlock=some b) W w6)).trans' E (fun x J e=>.inl e)
theorem WrAt.sameTo{z g:Nat}{v:vV}{Tx:vM}{W:vW}(h:WrAt z g v Tx W):WrTo z g v W (W.setCell ⟨g,0,none⟩ v) v Tx:=by
 have K:=jag.oneSet W ⟨g,0,none⟩ v;have o:=h.var.set_same (i:=0) v
 exact⟨⟨h.lo,o,jaY h.row K (fun b hb e=>(h.own b hb).2.1 e),fun b hb=>⟨(h.own b hb).1,(h.own b hb).2.1,bR (h.own b hb).2.2 K.size⟩,h.nil⟩,K.mono (fun x _ e=>.inl e),fun b hb=>.inl hb⟩
theorem WrAt.same{z g:Nat}{v:vV}{Tx:vM}{W:vW}(h:WrAt z g v Tx W):WrAt z g v Tx (W.setCell ⟨g,0,none⟩ v):=h.sameTo.at'
theorem jlc{W:vW}{T:TypeId}{sz:Nat}{a:Option Addr}{n c:Nat}{xs:List vV}(h:W.ownsRow 0 T sz (.slice a n c) n xs)(h0:n≠0):∃ b,a=some ⟨b,0,none⟩:=by
 obtain⟨_,⟨o,e⟩ |⟨g,q,z,e,_⟩⟩:=h
 ·injection o with _ o _
  exact absurd o h0
 ·injection e with e _ _
  exact⟨g,e⟩
theorem jdf{W:vW}{T:TypeId}{b n c:Nat}{xs:List vV}(h:W.ownsRow 0 T 1 (.slice (some ⟨b,0,none⟩) n c) n xs){j:Nat}{u:vV}(hj:xs[j]?=some u):W.cell? ⟨b,j,none⟩=some u:=by
 have e:=(bW.1 hj).1;have o:=h.1;rw[h.cellAt j vO,hj]
theorem jvK(t:vB)(h:¬ t.size < 32):jgG (refB t)=some (shaB t):=by
 rw[jgj];unfold refB;rw[if_neg h];exact jdc (jbb _)
theorem jn7(t:vB)(h:t.size < 32):jgG (refB t)=none:=by
 unfold refB;rw[if_pos h];cases e:jgG t with
 | none=>rfl
 | some x =>
  have:=(jn6 (y:=t) (h:=x) e).size
  omega
theorem jlu(t:vB):(refB t).size<=33:=by
 unfold refB;split
 ·omega
 ·exact Nat.le_of_eq (jf2.size ⟨_,jbb t,rfl⟩)
theorem jtH{W:vW}{T:TypeId}{sz:Nat}{a:Option Addr}{n c:Nat}{xs:List vV}(h:W.ownsRow 0 T sz (.slice a n c) n xs):n<=c:=by
 obtain⟨_,⟨z,e⟩ |⟨g,o,q,e,A,E,H,J⟩⟩:=h
 ·omega
 ·injection e with _ _ e
  omega
theorem jru(P:PA)(hT:TopC P)(hz:(textP P).size < 32)(w0 W:vW)(T:TypeId)(x:vV)(D:Nat->Prop)(g:Nat)(v:vV)(Tx:vM)(hc:jbN w0)(H:ErrT w0)(hP:PaO P (.iface T x) D w0)(hE:Ext w0 W)(hW:WrAt w0.heap.size g v Tx W)(hl:Tx.length+cntP P<=100000) :
  vQ 182 #[.pointer (some ⟨g,0,none⟩),.iface T x] W (FoP w0.heap.size g v W (.string (refB (textP P))) (Tx++underP P)):=by
 obtain⟨W1,b0⟩:=vE (W.alloc (.cells #[.slice none 0 0] 80))
 have b3:Ext W W1:=by rw[b0];exact (ExtR W).alloc _
 have b4:WrAt w0.heap.size W.heap.size (.slice none 0 0) [] W1:=⟨hE.size,by rw[b0];exact Blk.new W _,fL _ _ _ _,fun b hb=>(by cases hb),fun _=>rfl⟩;have a0:=hT w0 W1 T x D W.heap.size (.slice none 0 0) [] hc H hP (hE.trans b3) b4 (by have:([]:vM).length=0:=rfl;omega);rw[cM]at a0;have a7:=Hd a0;clear a0;have c0:=Hd b0;have d6:=c0;have HG:=Hd hW;have J:=Hd (bB b4 (bB b3 hE));have d7:=hc;have a8:=Hd (fun w (e:Ext w0 w)=>jyX w (textP P) (hc.ext e));have a3:=Hd (fun w=>jdK w (refB (textP P)) (by have:=jlu (textP P);omega));rw[jn7 _ hz]at a3;have c3:Tx.length+(underP P).length<=100000:=by
  cases hn:P.isNil with
  | true=>rw[jbw hn];show Tx.length+0<=_;omega
  | false=>have:=jdx P hn;omega
 have c4:=Hd c3
 obtain⟨U,hU⟩:=vE (underP P)
 obtain⟨t,ht⟩:=vE (textP P)
 rw[<-ht, <-hU]at a7;rw[<-ht]at a8 a3 ⊢;rw[<-hU]at c4 ⊢;clear hT hz hc H hP hE hW hl b3 b4 c3 hU ht b0 d6 d7;go_enter Tryz.func182,Tryz.ntmps182;go_wp2_with fail
 rw[<-c0.o];refine a7.o.mono ?_;rintro e w2 ⟨rfl,v2,O⟩;have b5:g≠W.heap.size:=by have:=HG.o.var.lt;omega
 have a9:=O.ext0 J.o.1 (J.o.2.2.trans J.o.2.1) (bL _);have c5:WrAt w0.heap.size g v Tx w2:=(HG.o.ext J.o.2.1).off O.kp (fun e=>e.elim b5 (fun e=>by cases e)) (fun b hb e=>e.elim (fun e=>by have:=(HG.o.own b hb).2.2;omega) (fun e=>by cases e));have c6:Ext W w2:=J.o.2.1.trans' O.kp (fun x hx e=>e.elim (fun e=>by omega) (fun e=>by cases e));have e4:Hid (∀ b,v2.ownBlock=some b->W.heap.size<=b):=(fun b hb=>(O.sub b hb).elim (fun e=>by cases e) (fun e=>bH J.o.2.1.size e));have a4:=Hd (bB O.at' (bB c5 (bB c6 a9)));clear O c5 c6 a9
 obtain⟨h,hh⟩:=vE W.heap.size
 have e5:=Hd (bB b5 hh);rw[<-hh]at a4 ⊢;clear b5 hh;go_wp2_with fail
 refine vH (a8.o w2 a4.o.2.2.2) fun w3 d8=>?_;go_wp2_with fail
 refine vC (a3.o w3) fun w4 Q=>?_;have Q:=d8.o.trans Q;have q:=Hd (bB (a4.o.1.ext Q) (bB (a4.o.2.1.ext Q) (a4.o.2.2.1.trans Q)));clear Q;unfold optV;go_wp2_with fail
 obtain⟨i0,c7,d9,e0,e1⟩:=info_parts Tryz.infoStr
 obtain⟨a1,c1,c8⟩:=jaL q.o.2.1.row
 obtain⟨X,b1⟩:∃ n,n=List.length Tx:=⟨_,rfl⟩
 rw[<-b1]at c8;subst c8;have c9:=Hd b1;have d0:=Hd (show World.ownsRow w4 0 9 1 (.slice a1 X c1) X (List.map Value.string Tx) by have h9:=q.o.2.1.row;rw[<-b1]at h9;exact h9);have b9:=Hd (jtH d0.o);have QG:=Hd (q.o.2.1.var.cell (i:=0) (v:=.slice a1 X c1) vF);clear b1
 by_cases hU0:U=[]
 ·have a5:=q.o.1.nil hU0
  subst a5;have QH:=Hd (q.o.1.var.cell (i:=0) (v:=.slice none 0 0) vF);have b6:=Hd hU0;clear hU0;refine jaw [0,1,2,3,4,5,6,7,8,9,10,11,12] [9,12] (Ext) ExtR ExtT vY vY vY ?_;iterate 2 refine vP ?_
  refine qA _ ((.pointer (some ⟨g,0,none⟩))) rfl (fun w1=>by kernel_rfl) ?_;refine vS ?_
  refine vP ?_
  refine qL ⟨g,0,none⟩ _ rfl (fun w1 h1=>jaB (fun w=>by kernel_rfl) (jaa QG.o ((jaq _).trans h1))) ?_;refine vS ?_
  refine vP ?_
  refine qA _ ((.pointer (some ⟨h,0,none⟩))) rfl (fun w1=>by kernel_rfl) ?_;refine vS ?_
  refine vP ?_
  refine qL ⟨h,0,none⟩ _ rfl (fun w1 h1=>jaB (fun w=>by kernel_rfl) (jaa QH.o ((jaq _).trans h1))) ?_;refine vS ?_;refine qH _ rfl (fun w5 H K hK=>?_);refine jcD (v:=.slice a1 X c1) (w':=w5) (jd1 (jct (i:=i0) Tryz.uStrs c7 a1 X c1 b9.o 0 w5) vY) (hK _ _ ?_);have d1:=Hd ((jaq _).trans H);clear hK K H;refine vS ?_;refine qA _ ((.pointer (some ⟨g,0,none⟩))) rfl (fun w1=>by kernel_rfl) ?_;refine vS ?_
  refine vP ?_
  refine qH _ rfl (fun w8 A K hK=>?_);have z:=q.o.2.1.ext (d1.o.trans A);have q8:w8.cell? ⟨g,0,none⟩=some (.slice a1 X c1):=z.var.cell (i:=0) vF;have f8:w8.frozen? ⟨g,0,none⟩=false:=z.var.frozen;have d2:WrAt w0.heap.size g (.slice a1 X c1) Tx (w8.setCell ⟨g,0,none⟩ (.slice a1 X c1)):=z.same;have H8:=Hd (bB d2 (bB (d1.o.trans A) z));clear z d2 A;go_simp;refine hK _ _ ?_;clear hK K q8 f8;refine qE (fun w7 H=>?_);have H9:=Hd (H8.o.1.ext H);have b7:=Hd H;clear H;go_wp2_with fail
  go_ret;rw[b6.o,bU]
  exact⟨rfl,_,(WrTo.refl HG.o (q.o.2.2.trans H8.o.2.1)).trans ((H8.o.2.2.sameTo).ext b7.o)⟩
 ·obtain⟨a2,c2,a5⟩:=jaL q.o.1.row
  have a6:=q.o.1.row
  obtain⟨n2,b8⟩:∃ n,n=List.length U:=⟨_,rfl⟩
  rw[<-b8]at a5 a6;rw[a5]at a6
  obtain⟨b2,rfl⟩:=jlc a6 (fun e=>hU0 (bG vO))
  subst a5;have e2:=Hd a6;have d3:=Hd b8.symm;have b6:=Hd hU0;have d4:=Hd (show X+n2<=200000 by have:=c4.o;have:=c9.o;omega);have QH:=Hd (q.o.1.var.cell (i:=0) (v:=.slice (some ⟨b2,0,none⟩) n2 c2) vF);clear hU0 a6 b8;refine jaw [0,1,2,3,4,5,6,7,8,9,10,11,12] [9,12] (Ext) ExtR ExtT vY vY vY ?_;iterate 2 refine vP ?_
  refine qA _ ((.pointer (some ⟨g,0,none⟩))) rfl (fun w1=>by kernel_rfl) ?_;refine vS ?_
  refine vP ?_
  refine qL ⟨g,0,none⟩ _ rfl (fun w1 h1=>jaB (fun w=>by kernel_rfl) (jaa QG.o ((jaq _).trans h1))) ?_;refine vS ?_
  refine vP ?_
  refine qA _ ((.pointer (some ⟨h,0,none⟩))) rfl (fun w1=>by kernel_rfl) ?_;refine vS ?_
  refine vP ?_
  refine qL ⟨h,0,none⟩ _ rfl (fun w1 h1=>jaB (fun w=>by kernel_rfl) (jaa QH.o ((jaq _).trans h1))) ?_;refine vS ?_;refine qH _ rfl (fun w5 H K hK=>?_);have E:=(jaq _).trans H;refine jdO w5 (.tmp 37) (.tmp 41) 22 rfl 9 i0 _ 1 16 Tryz.uStrs c7 d9 e0 e1 rfl vI (.slice a1 X c1) X _ rfl (jbm d0.o E) ⟨b2,0,none⟩ n2 c2 (U.map Value.string) rfl (by rw[cB,d3.o,iX]) (fun j u hj=>by rw[Addr.add_lit,cR];exact (jdf (jbm e2.o E) hj)) (by intro u hu;obtain⟨y,_,rfl⟩:=bI.1 hu;rfl) (by have:=d4.o;unfold maxLen;omega) (by have:=d4.o;omega) ?_;intro v' w6 r1 r2 r3;have HA:=Hd (bB E (bB r1 (bB r2 r3)))
  obtain⟨a',c',e3⟩:=jaL r1
  subst e3;refine hK _ _ ?_;clear hK K H E r1 r2 r3;refine vS ?_;refine qA _ ((.pointer (some ⟨g,0,none⟩))) rfl (fun w1=>by kernel_rfl) ?_;refine vS ?_
  refine vP ?_
  refine qH _ rfl (fun w8 A K hK=>?_)
  obtain⟨E,r1,r2,r3⟩:=HA.o
  have Z:=q.o.2.1.ext E;have d5:w0.heap.size<=w5.heap.size:=bH Z.lo (Nat.le_of_lt Z.var.lt);have hp:=Z.push (n:=X+n2) (by rw[bF, <-c9.o,d3.o]) (by rw[bZ];exact jbm r1 A) (r2.trans (A.mono (fun _ _ e=>e.elim))) r3 d5 b6.o;have z:=(Z.var.keeps r2 (fun e=>(Z.own g e).2.1 rfl)).keeps A (fun e=>e);have q8:w8.cell? ⟨g,0,none⟩=some (.slice a1 X c1):=z.cell (i:=0) vF;have f8:w8.frozen? ⟨g,0,none⟩=false:=z.frozen;have H8:=Hd (bB hp E);clear E r1 r2 r3 Z d5 hp z A;go_simp;refine hK _ _ ?_;clear hK K q8 f8;refine qE (fun w7 H=>?_);have b7:=Hd H;clear H;go_wp2_with fail
  go_ret
  exact⟨rfl,_,((WrTo.refl HG.o (q.o.2.2.trans H8.o.2)).trans H8.o.1).ext b7.o⟩
theorem jwZ(P:PA)(hT:TopC P)(hz:¬(textP P).size < 32)(w0 W:vW)(T:TypeId)(x:vV)(D:Nat->Prop)(g:Nat)(v:vV)(Tx:vM)(hc:jbN w0)(H:ErrT w0)(hP:PaO P (.iface T x) D w0)(hE:Ext w0 W)(hW:WrAt w0.heap.size g v Tx W)(hl:Tx.length+cntP P<=100000) :
  vQ 182 #[.pointer (some ⟨g,0,none⟩),.iface T x] W (FoP w0.heap.size g v W (.string (refB (textP P))) (Tx++(textP P :: underP P))):=by
 obtain⟨W1,b7⟩:=vE (W.alloc (.cells #[.slice none 0 0] 80))
 have c6:Ext W W1:=by rw[b7];exact (ExtR W).alloc _
 have c7:WrAt w0.heap.size W.heap.size (.slice none 0 0) [] W1:=⟨hE.size,by rw[b7];exact Blk.new W _,fL _ _ _ _,fun b hb=>(by cases hb),fun _=>rfl⟩;have a3:=hT w0 W1 T x D W.heap.size (.slice none 0 0) [] hc H hP (hE.trans c6) c7 (by have:([]:vM).length=0:=rfl;omega);rw[cM]at a3;have b1:=Hd a3;clear a3;have d6:=Hd b7;have f4:=d6;have HG:=Hd hW;have J:=Hd (bB c7 (bB c6 hE));have f5:=hc;have b3:=Hd (fun w (e:Ext w0 w)=>jyX w (textP P) (hc.ext e));have a4:=Hd (fun w=>jdK w (refB (textP P)) (by have:=jlu (textP P);omega));rw[jvK _ hz]at a4;have d7:Tx.length+(underP P).length<=100000:=by
  cases hn:P.isNil with
  | true=>rw[jbw hn];show Tx.length+0<=_;omega
  | false=>have:=jdx P hn;omega
 have c8:=Hd d7
 obtain⟨U,hU⟩:=vE (underP P)
 obtain⟨t,ht⟩:=vE (textP P)
 rw[<-ht, <-hU]at b1;rw[<-ht]at b3 a4 ⊢;rw[<-hU]at c8 ⊢;clear hT hz hc H hP hE hW hl c6 c7 d7 hU ht b7 f4 f5;go_enter Tryz.func182,Tryz.ntmps182;go_wp2_with fail
 rw[<-d6.o];refine b1.o.mono ?_;rintro e w2 ⟨rfl,v2,O⟩;have c9:g≠W.heap.size:=by have:=HG.o.var.lt;omega
 have b4:=O.ext0 J.o.1 (J.o.2.2.trans J.o.2.1) (bL _);have d8:WrAt w0.heap.size g v Tx w2:=(HG.o.ext J.o.2.1).off O.kp (fun e=>e.elim c9 (fun e=>by cases e)) (fun b hb e=>e.elim (fun e=>by have:=(HG.o.own b hb).2.2;omega) (fun e=>by cases e));have d9:Ext W w2:=J.o.2.1.trans' O.kp (fun x hx e=>e.elim (fun e=>by omega) (fun e=>by cases e));have d4:Hid (∀ b,v2.ownBlock=some b->W.heap.size<=b):=(fun b hb=>(O.sub b hb).elim (fun e=>by cases e) (fun e=>bH J.o.2.1.size e));have a5:=Hd (bB O.at' (bB d8 (bB d9 b4)));clear O d8 d9 b4
 obtain⟨h,hh⟩:=vE W.heap.size
 have e0:=Hd (bB c9 hh);rw[<-hh]at a5 ⊢;clear c9 hh;go_wp2_with fail
 refine vH (b3.o w2 a5.o.2.2.2) fun w3 f6=>?_;go_wp2_with fail
 refine vC (a4.o w3) fun w4 Q=>?_;have Q:=f6.o.trans Q;have q:=Hd (bB (a5.o.1.ext Q) (bB (a5.o.2.1.ext Q) (a5.o.2.2.1.trans Q)));clear Q;unfold optV
 obtain⟨i0,a6,b8,b9,c3⟩:=info_parts Tryz.infoStr
 have a7:=q.o.2.1
 obtain⟨a0,c0,f7⟩:=jaL a7.row
 have q4:=a7.var.cell (i:=0) (v:=v) vF;have e1:=Hd (show Tx.length<=100000 by have:=c8.o;omega);have f9:=Hd a7.row;have a8:=Hd a7;clear a7;subst f7;go_wp2_with (at_builtin;refine jcC _ rfl (.tmp 27) (.tmp 29) 22 rfl 9 i0 _ 1 16 Tryz.uStrs a6 b8 b9 c3 rfl vI (.slice a0 Tx.length c0) Tx.length _ rfl (jbm f9.o ((ExtR w4).alloc _)) ⟨w4.heap.size,0,none⟩ 1 1 [.string t] rfl rfl (ja3 (Blk.new w4 _)) (by simp[Value.oneCell']) (by have:=e1.o;unfold maxLen;omega) (by have:=e1.o;omega) ?_;intro v' w6 r1 r2 r3;obtain⟨e2,e3,rfl⟩:=jaL r1;have g0:=a8.o.var.lt;have d0:=(a8.o.var.alloc (.cells #[.string t] 9)).keeps r2 (fun e=>(a8.o.own g e).2.1 rfl);have g1:w6.cell? ⟨g,0,none⟩=some (.slice a0 Tx.length c0):=d0.cell (i:=0) vF;have g2:w6.frozen? ⟨g,0,none⟩=false:=d0.frozen)
 obtain⟨wS,e4⟩:=vE (w6.setCell ⟨g,0,none⟩ (.slice e2 (Tx.length+1) e3))
 have b5:=a8.o.ext ((ExtR w4).alloc (.cells #[.string t] 9));have hp:=b5.push (n:=Tx.length+1) (New:=[t]) (by simp) (by rw[bZ];exact r1) r2 r3 (by have:=a8.o.lo;rw[bK];omega) (by simp);rw[<-e4]at hp ⊢;have hp:=WrTo.ahead ((ExtR w4).alloc (.cells #[.string t] 9)) hp;have e5:=q.o.1.off hp.kp (fun e=>e.elim (fun e=>by have:=HG.o.var.lt;have:=e0.o.2;omega) (fun e=>by have:=(HG.o.own h e).2.2;have:=e0.o.2;omega)) (fun b hb e=>by
  have h1:=d4.o b hb;rcases e with e | e
  ·have:=HG.o.var.lt;omega
  ·have:=(HG.o.own b e).2.2;omega)
 have b6:WrTo w0.heap.size g (.slice a0 Tx.length c0) W wS (.slice e2 (Tx.length+1) e3) (Tx++[t]):=(WrTo.refl HG.o q.o.2.2).trans hp;have c4:∃ v1,WrAt w0.heap.size h v2 U wS/\WrAt w0.heap.size g v1 (Tx++[t]) wS/\WrTo w0.heap.size g (.slice a0 Tx.length c0) W wS v1 (Tx++[t]):=⟨_,e5,hp.at',b6⟩
 obtain⟨v1,c4⟩:=c4
 clear q hp b5 e4 e5 b6 g1 g2 d0 r1 r2 r3 g0 q4;have q:=Hd c4;clear c4 a6 b8 b9 c3
 obtain⟨i0,a6,b8,b9,c3⟩:=info_parts Tryz.infoStr
 obtain⟨a1,c1,e6⟩:=jaL q.o.2.1.row
 obtain⟨X,c5⟩:∃ n,n=List.length (Tx++[t]):=⟨_,rfl⟩
 rw[<-c5]at e6;subst e6;have e7:=Hd c5;have e8:=Hd (show World.ownsRow wS 0 9 1 (.slice a1 X c1) X (List.map Value.string (Tx++[t])) by have h9:=q.o.2.1.row;rw[<-c5]at h9;exact h9);have d5:=Hd (jtH e8.o);have QG:=Hd (q.o.2.1.var.cell (i:=0) (v:=.slice a1 X c1) vF);clear c5
 by_cases hU0:U=[]
 ·have a9:=q.o.1.nil hU0
  subst a9;have QH:=Hd (q.o.1.var.cell (i:=0) (v:=.slice none 0 0) vF);have d1:=Hd hU0;clear hU0;refine jaw [0,1,2,3,4,5,6,7,8,9,10,11,12] [9,12] (Ext) ExtR ExtT vY vY vY ?_;iterate 2 refine vP ?_
  refine qA _ ((.pointer (some ⟨g,0,none⟩))) rfl (fun w1=>by kernel_rfl) ?_;refine vS ?_
  refine vP ?_
  refine qL ⟨g,0,none⟩ _ rfl (fun w1 h1=>jaB (fun w=>by kernel_rfl) (jaa QG.o ((jaq _).trans h1))) ?_;refine vS ?_
  refine vP ?_
  refine qA _ ((.pointer (some ⟨h,0,none⟩))) rfl (fun w1=>by kernel_rfl) ?_;refine vS ?_
  refine vP ?_
  refine qL ⟨h,0,none⟩ _ rfl (fun w1 h1=>jaB (fun w=>by kernel_rfl) (jaa QH.o ((jaq _).trans h1))) ?_;refine vS ?_;refine qH _ rfl (fun w5 H K hK=>?_);refine jcD (v:=.slice a1 X c1) (w':=w5) (jd1 (jct (i:=i0) Tryz.uStrs a6 a1 X c1 d5.o 0 w5) vY) (hK _ _ ?_);have e9:=Hd ((jaq _).trans H);clear hK K H;refine vS ?_;refine qA _ ((.pointer (some ⟨g,0,none⟩))) rfl (fun w1=>by kernel_rfl) ?_;refine vS ?_
  refine vP ?_
  refine qH _ rfl (fun w8 A K hK=>?_);have z:=q.o.2.1.ext (e9.o.trans A);have q8:w8.cell? ⟨g,0,none⟩=some (.slice a1 X c1):=z.var.cell (i:=0) vF;have f8:w8.frozen? ⟨g,0,none⟩=false:=z.var.frozen;have f0:WrAt w0.heap.size g (.slice a1 X c1) (Tx++[t]) (w8.setCell ⟨g,0,none⟩ (.slice a1 X c1)):=z.same;have H8:=Hd (bB f0 (bB (e9.o.trans A) z));clear z f0 A;go_simp;refine hK _ _ ?_;clear hK K q8 f8;refine qE (fun w7 H=>?_);have H9:=Hd (H8.o.1.ext H);have d2:=Hd H;clear H;go_wp2_with fail
  go_ret;rw[d1.o]
  exact⟨rfl,_,(q.o.2.2.ext H8.o.2.1).trans ((H8.o.2.2.sameTo).ext d2.o)⟩
 ·obtain⟨a2,c2,a9⟩:=jaL q.o.1.row
  have b0:=q.o.1.row
  obtain⟨n2,d3⟩:∃ n,n=List.length U:=⟨_,rfl⟩
  rw[<-d3]at a9 b0;rw[a9]at b0
  obtain⟨b2,rfl⟩:=jlc b0 (fun e=>hU0 (bG vO))
  subst a9;have g3:=Hd b0;have f1:=Hd d3.symm;have d1:=Hd hU0;have f2:=Hd (show X+n2<=200000 by have:=c8.o;have h9:=e7.o;rw[bF,iV]at h9;omega);have QH:=Hd (q.o.1.var.cell (i:=0) (v:=.slice (some ⟨b2,0,none⟩) n2 c2) vF);clear hU0 b0 d3;refine jaw [0,1,2,3,4,5,6,7,8,9,10,11,12] [9,12] (Ext) ExtR ExtT vY vY vY ?_;iterate 2 refine vP ?_
  refine qA _ ((.pointer (some ⟨g,0,none⟩))) rfl (fun w1=>by kernel_rfl) ?_;refine vS ?_
  refine vP ?_
  refine qL ⟨g,0,none⟩ _ rfl (fun w1 h1=>jaB (fun w=>by kernel_rfl) (jaa QG.o ((jaq _).trans h1))) ?_;refine vS ?_
  refine vP ?_
  refine qA _ ((.pointer (some ⟨h,0,none⟩))) rfl (fun w1=>by kernel_rfl) ?_;refine vS ?_
  refine vP ?_
  refine qL ⟨h,0,none⟩ _ rfl (fun w1 h1=>jaB (fun w=>by kernel_rfl) (jaa QH.o ((jaq _).trans h1))) ?_;refine vS ?_;refine qH _ rfl (fun w5 H K hK=>?_);have E:=(jaq _).trans H;refine jdO w5 (.tmp 37) (.tmp 41) 22 rfl 9 i0 _ 1 16 Tryz.uStrs a6 b8 b9 c3 rfl vI (.slice a1 X c1) X _ rfl (jbm e8.o E) ⟨b2,0,none⟩ n2 c2 (U.map Value.string) rfl (by rw[cB,f1.o,iX]) (fun j u hj=>by rw[Addr.add_lit,cR];exact (jdf (jbm g3.o E) hj)) (by intro u hu;obtain⟨y,_,rfl⟩:=bI.1 hu;rfl) (by have:=f2.o;unfold maxLen;omega) (by have:=f2.o;omega) ?_;intro v' w6 r1 r2 r3;have HA:=Hd (bB E (bB r1 (bB r2 r3)))
  obtain⟨a',c',g4⟩:=jaL r1
  subst g4;refine hK _ _ ?_;clear hK K H E r1 r2 r3;refine vS ?_;refine qA _ ((.pointer (some ⟨g,0,none⟩))) rfl (fun w1=>by kernel_rfl) ?_;refine vS ?_
  refine vP ?_
  refine qH _ rfl (fun w8 A K hK=>?_)
  obtain⟨E,r1,r2,r3⟩:=HA.o
  have Z:=q.o.2.1.ext E;have f3:w0.heap.size<=w5.heap.size:=bH Z.lo (Nat.le_of_lt Z.var.lt);have hp:=Z.push (n:=X+n2) (by rw[bF, <-e7.o,f1.o]) (by rw[bZ];exact jbm r1 A) (r2.trans (A.mono (fun _ _ e=>e.elim))) r3 f3 d1.o;have z:=(Z.var.keeps r2 (fun e=>(Z.own g e).2.1 rfl)).keeps A (fun e=>e);have q8:w8.cell? ⟨g,0,none⟩=some (.slice a1 X c1):=z.cell (i:=0) vF;have f8:w8.frozen? ⟨g,0,none⟩=false:=z.frozen;have H8:=Hd (bB hp E);clear E r1 r2 r3 Z f3 hp z A;go_simp;refine hK _ _ ?_;clear hK K q8 f8;refine qE (fun w7 H=>?_);have d2:=Hd H;clear H;go_wp2_with fail
  go_ret;rw[show Tx++t :: U=Tx++[t]++U by rw[bX];rfl]
  exact⟨rfl,_,((q.o.2.2.ext H8.o.2).trans H8.o.1).ext d2.o⟩
theorem jxC(P:PA)(hT:TopC P):jxT P:=by
 intro e W T x D g v o q z A E H J;unfold bigs
 by_cases hz:(textP P).size < 32
 ·rw[if_pos hz]
  exact jru P hT hz e W T x D g v o q z A E H J
 ·rw[if_neg hz]
  exact jwZ P hT hz e W T x D g v o q z A E H J
theorem jnQ(k:Int)(p v r r':vB):(jb9 k p v r).toArray.setIfInBounds 3 (.string r')=(jb9 k p v r').toArray:=by simp[jb9]
theorem jyg(w0 W:vW)(q:vB)(n:PA)(T:TypeId)(x:vV)(Dn:Nat->Prop)(b:Nat)(hB:Blk w0 b (.cells #[.string q,.iface T x] 208))(hv:PaO n (.iface T x) Dn w0)(hR:jxT n)(g:Nat)(v:vV)(Tx:vM)(hc:jbN w0)(he:ErrT w0)(hE:Ext w0 W)(hW:WrAt w0.heap.size g v Tx W)(hl:Tx.length+cntP n<=100000) :
  vQ 202 #[.pointer (some ⟨b,0,none⟩),.pointer (some ⟨g,0,none⟩)] W (FoP w0.heap.size g v W (jad.V ⟨2,q,⟨#[]⟩,refB (textP n) :: jar 15⟩) (Tx++(bigs (textP n)++underP n))):=by
 have Q0:=Hd (hB.cell (i:=0) (v:=.string q) vF);have Q1:=Hd (hB.cell (i:=1) (v:=.iface T x) vF);have X:=Hd (bB hW hE);have Z:=Hd (fun w (e:Ext w0 w) (k:WrAt w0.heap.size g v Tx w)=>hR w0 w T x Dn g v Tx hc he hv e k hl)
 obtain⟨t,ht⟩:=vE (refB (textP n))
 obtain⟨U,hU⟩:=vE (Tx++(bigs (textP n)++underP n))
 rw[<-ht, <-hU]at Z;rw[<-ht, <-hU];clear hB hv hR hc he hE hW hl ht hU;have c4:∀ w,(Instr.build 99 #[(0,.int .i64 2),(1,.string q)]).run Tryz.prog w=.ok (.agg (jb9 2 q ⟨#[]⟩ ⟨#[]⟩).toArray) w:=fun w=>by kernel_rfl
 go_enter Tryz.func202,Tryz.ntmps202;go_wp2_with (first |(refine jah (w:=W) Tryz.allocNode rfl rfl ?_;intro A b1 a3;have b2:=Hd b1;have b3:=Hd a3;have q0:=jaa Q0.o (X.o.2.trans a3);clear b1 a3) |(refine jah (w:=A) Tryz.allocNode rfl rfl ?_;intro W2 b4 a4) |(refine jae (vs:=jb9 2 q ⟨#[]⟩ ⟨#[]⟩) rfl rfl rfl rfl b4 rfl Tryz.szNode (jbF _ _ _ _) ?_;intro W3 a5 a6;have q1:=jaa (jaa Q1.o (X.o.2.trans b3.o)) (a4.trans' a6 (fun x hx e=>by have e:x=A.heap.size:=e;omega))))
 have H:Ext A W3:=a4.trans' a6 (fun x hx e=>by have e:x=A.heap.size:=e;omega);have J:=Hd (bB a5 (bB (b2.o.keeps H (fun e=>e)) (b3.o.trans H)));have b5:=b2.o.lt;have HN:=Hd (show W.heap.size < A.heap.size/\A.heap.size < W3.heap.size from⟨b5,a5.lt⟩);clear b4 a4 a5 a6 H b5;refine (Z.o W3 (X.o.2.trans J.o.2.2) (X.o.1.ext J.o.2.2)).mono ?_;rintro e w4 ⟨rfl,v4,E⟩;have b9:=X.o.1.var.lt;have a7:A.heap.size≠g:=by have:=HN.o.1;omega
 have a8:v.ownBlock≠some A.heap.size:=fun e=>by have:=(X.o.1.own _ e).2.2;have:=HN.o.1;omega
 have K:=E.blk J.o.1 a7 a8;have a0:=E.blk J.o.2.1 vO (fun e=>by have:=(X.o.1.own _ e).2.2;omega);have qf:w4.cell? ⟨A.heap.size,3,none⟩=some (.string ⟨#[]⟩):=K.cellL (i:=3) vF;have ff:w4.frozen? ⟨A.heap.size,3,none⟩=false:=K.frozen
 obtain⟨W5,O⟩:=vE (w4.setCell ⟨A.heap.size,3,none⟩ (.string t))
 have c0:Blk W5 A.heap.size (.cells (jb9 2 q ⟨#[]⟩ t).toArray 99):=by
  have:=K.set_same (i:=3) (.string t)
  rw[jnQ]at this;rw[O];exact this
 have a9:jag (fun z=>z=A.heap.size) w4 W5:=by rw[O];exact jag.oneSet w4 ⟨A.heap.size,3,none⟩ (.string t)
 have a1:Blk W5 W.heap.size (.cells jak.cells.toArray 99):=a0.keeps a9 (fun e=>by have:=HN.o.1;have e:W.heap.size=A.heap.size:=e;omega);have b6:v4.ownBlock≠some A.heap.size:=fun e=>by
  rcases E.sub _ e with e | e
  ·exact a8 e
  ·have:=HN.o.2;omega
 have b7:=(WrTo.ahead J.o.2.2 E).fill a9 a7 b6 (by have:=HN.o.1;omega);have a2:v4.ownBlock≠some W.heap.size:=fun e=>by
  rcases E.sub _ e with e | e
  ·have:=(X.o.1.own _ e).2.2;omega
  ·have:=HN.o.1;have:=HN.o.2;omega
 have Q:=Hd (bB b7 (bB a1 (bB a2 (show W.heap.size≠g by omega))));have b0:=Hd O;clear E b9 a7 a8 K a0 a9 b6 b7 a2 O a1 q0 q1;have c1:Blk (w4.setCell ⟨A.heap.size,3,none⟩ (.string t)) A.heap.size (.cells (jad.cells ⟨2,q,⟨#[]⟩,t :: jar 15⟩).toArray 99):=by rw[<-b0.o];exact c0
 have c2:Blk (w4.setCell ⟨A.heap.size,3,none⟩ (.string t)) W.heap.size (.cells jak.cells.toArray 99):=by rw[<-b0.o];exact Q.o.2.1
 go_wp2_with (refine jaf 99 (.tmp 5) rfl rfl _ _ rfl (jas _ _ ⟨2,q,⟨#[]⟩,t :: jar 15⟩ rfl c1) ?_;refine jae (vs:=jad.cells ⟨2,q,⟨#[]⟩,t :: jar 15⟩) rfl rfl rfl rfl c2 rfl Tryz.szNode (jad.one _) ?_;intro W8 c3 b8)
 rw[<-b0.o]at b8;refine bodyPost_ret (jcX rfl rfl (jai W8 _ ⟨2,q,⟨#[]⟩,t :: jar 15⟩ rfl c3)) rfl ?_
 exact⟨rfl,v4,Q.o.1.fill b8 Q.o.2.2.2 Q.o.2.2.1 (bL _)⟩
def bfN(u:vB)(rs:vM)(k:Nat):jad:=⟨3,⟨#[]⟩,u,rs.take k++jar (16 - k)⟩
theorem jx2(u:vB){rs:vM}(h:rs.length=16){k:Nat}(hk:k < 16)(r:vB)(hr:rs[k]?=some r):(bfN u rs k).cells.set (3+k) (.string r)=(bfN u rs (k+1)).cells:=by
 have e:(rs.take k++jar (16 - k)).set k r=rs.take (k+1)++jar (16 - (k+1)):=by
  rw[fN _ _ (by simp[h];omega)]
  have:k - (rs.take k).length=0:=by simp[h];omega
  rw[this,show 16 - k=(16 - (k+1))+1 by omega];unfold jar;rw[fK,dJ,cE,hr];simp
 unfold jad.cells bfN;simp only;rw[show 3+k=k+1+1+1 by omega,dB,dB,dB, <-e,iR]
theorem ju9(u:vB){rs:vM}(h:rs.length=16){k:Nat}(hk:k < 16)(hr:rs[k]?=some ⟨#[]⟩):bfN u rs (k+1)=bfN u rs k:=by
 unfold bfN;rw[cE,hr,show 16 - k=(16 - (k+1))+1 by omega];unfold jar;rw[fK];simp
theorem jx1(u:vB){rs:vM}(h:rs.length=16){k:Nat}(hk:k<=16):(bfN u rs k).refs.length=16:=by
 unfold bfN jar;simp[h];omega
theorem jBD(u:vB)(rs:vM):(bfN u rs 0).cells=jb9 3 ⟨#[]⟩ u ⟨#[]⟩:=rfl
theorem jz6(u:vB){rs:vM}(h:rs.length=16):bfN u rs 16=⟨3,⟨#[]⟩,u,rs⟩:=by
 unfold bfN jar;rw[cD vO];simp
noncomputable def underK(ks:Nat->PA)(k:Nat):vM:=(List.range k).flatMap fun i=>if (ks i).isNil then []else bigs (textP (ks i))++underP (ks i)
theorem joE(ks:Nat->PA)(k:Nat):underK ks (k+1)=underK ks k++(if (ks k).isNil then []else bigs (textP (ks k))++underP (ks k)):=by
 unfold underK;rw[gA,dS]
 simp
theorem jrr(ks:Nat->PA)(k:Nat):(underK ks k).length<=sumF (fun i=>cntP (ks i)) k:=jgE _ _ (fun i=>by
 show (if (ks i).isNil=true then ([]:vM)else bigs (textP (ks i))++underP (ks i)).length<=cntP (ks i);cases hn:(ks i).isNil with
 | true=>rw[if_pos rfl];exact bY _
 | false =>
  rw[if_neg ff,bF];have e:=jh0 (textP (ks i))
  have:=jdx (ks i) hn
  omega) k
noncomputable def refsK(ks:Nat->PA):vM:=(List.range 16).map fun i=>if (ks i).isNil then ⟨#[]⟩else refB (textP (ks i))
theorem jdw(ks:Nat->PA):(refsK ks).length=16:=by unfold refsK;simp
theorem jwA(ks:Nat->PA){k:Nat}(hk:k < 16):(refsK ks)[k]?=some (if (ks k).isNil then ⟨#[]⟩else refB (textP (ks k))):=by
 unfold refsK;rw[cA,fB hk];rfl
def jBb(z g:Nat)(v:vV)(W:vW)(L:Nat)(u:vB)(rs:vM)(Tx:vM)(ks:Nat->PA)(iv:vV)(wr:vW):Prop:=
 ∃ k:Nat,k<=16/\iv=.int .i64 k/\∃ v',WrTo z g v W wr v' (Tx++underK ks k)/\Blk wr L (.cells (bfN u rs k).cells.toArray 99)/\Blk wr W.heap.size (.cells jak.cells.toArray 99)/\v'.ownBlock≠some L/\v'.ownBlock≠some W.heap.size
theorem jx3(w0 W:vW)(u:vB)(ks:Nat->PA)(b:Nat)(vk:Nat->vV)(Dk:Nat->Nat->Prop)(hb:BrRd u ks b vk Dk w0)(hR:∀ i,i < 16->(ks i).isNil=false->jxT (ks i))(g:Nat)(v:vV)(Tx:vM)(hc:jbN w0)(he:ErrT w0)(hE:Ext w0 W)(hW:WrAt w0.heap.size g v Tx W)(hl:Tx.length+(1+sumF (fun i=>cntP (ks i)) 16)<=100000) :
  vQ 208 #[.pointer (some ⟨b,0,none⟩),.pointer (some ⟨g,0,none⟩)] W (FoP w0.heap.size g v W (jad.V ⟨3,⟨#[]⟩,u,refsK ks⟩) (Tx++underK ks 16)):=by
 have q0:=jaa (hb.blk.cellL (i:=0) (v:=.string u) vF) hE;have HB:=Hd hb;have HW:=Hd (bB hW hE);have a9:=Hd (fun(k:Nat) (hk:k < 16) (hn:(ks k).isNil=false) (T:TypeId) (x:vV) (hx:vk k=.iface T x) (w:vW) (v':vV) (e:Ext w0 w) (h:WrAt w0.heap.size g v' (Tx++underK ks k) w)=>hR k hk hn w0 w T x (Dk k) g v' (Tx++underK ks k) hc he (hx ▸ hb.kid k hk) e h (by
  have h1:=jrr ks k;have h2:=jeK (fun i=>cntP (ks i)) (k+1) (15 - k);rw[show k+1+(15 - k)=16 by omega]at h2;have h3:sumF (fun i=>cntP (ks i)) k+cntP (ks k)<=sumF (fun i=>cntP (ks i)) 16:=h2;rw[bF];omega))
 have d2:=jk8;clear hR hc he hl;have d3:∀ w,(Instr.build 99 #[(0,.int .i64 3),(2,.string u)]).run Tryz.prog w=.ok (.agg (jb9 3 ⟨#[]⟩ u ⟨#[]⟩).toArray) w:=fun w=>by kernel_rfl
 clear hb hW hE;go_enter Tryz.func208,Tryz.ntmps208;go_wp2_with (first |(refine jah (w:=W) Tryz.allocNode rfl rfl ?_;intro W1 b0 a1;have a2:=Hd b0;have a3:=Hd a1;have q1:=jaa q0 a1;clear b0 a1) |(refine jah (w:=W1) Tryz.allocNode rfl rfl ?_;intro W2 b1 b3) |(refine jae (vs:=jb9 3 ⟨#[]⟩ u ⟨#[]⟩) rfl rfl rfl rfl b1 rfl Tryz.szNode (jbF _ _ _ _) ?_;intro W3 a4 b4;have J:Ext W1 W3:=b3.trans' b4 (fun x hx e=>by have e:x=W1.heap.size:=e;omega);have b5:=jbf (HB.o.blk.keeps ((HW.o.2.trans a3.o).trans J) (fun e=>e))) |(refine jaf 210 (.tmp 15) rfl rfl _ _ rfl b5 ?_))
 have Q:=Hd (bB a4 (bB (a2.o.keeps J (fun e=>e)) (a3.o.trans J)));have q:=a2.o.lt;have HN:=Hd (show W.heap.size < W1.heap.size/\W1.heap.size < W3.heap.size from⟨q,a4.lt⟩);clear b1 b3 a4 b4 J q b5 q0 q1
 obtain⟨L,hL⟩:=vE W1.heap.size
 rw[<-hL]at Q HN ⊢;clear hL a2 a3;have HG:=Hd HW.o.1.var.lt;go_loopw [17] (fun iv wr=>jBb w0.heap.size g v W L u (refsK ks) Tx ks iv wr) (fun iv _=>16 - (intOf iv).toNat)
 case atStart =>
  have:=HN.o
  have hg:=HG.o
  exact⟨0,by omega,rfl,v,by rw[show underK ks 0=[]from rfl,bU];exact WrTo.refl HW.o.1 Q.o.2.2,by rw[jBD];exact Q.o.1,Q.o.2.1,fun e=>by have:=(HW.o.1.own _ e).2.2;omega,fun e=>by have:=(HW.o.1.own _ e).2.2;omega⟩
 case round =>
  obtain⟨k,hk,rfl,v1,hT,b6,b7,b8,b9⟩:=hrel
  have A:=Hd (bB hT (bB b6 (bB b7 (bB b8 b9))));clear hT b6 b7 b8 b9
  by_cases q:k < 16
  ·have c0:=je6 vk q
   have K:=joE ks k;have E:=jwA ks q;rcases (HB.o.kid k q).at'.kid with⟨hn,hv⟩ |⟨hn,T,x,hv⟩
   ·rw[hn,if_pos rfl,bU]at K
    rw[hn,if_pos rfl]at E;rw[hv]at c0;have c5:=Hd K;have c6:=Hd (ju9 u (jdw ks) q E);clear K hn hv E;go_wp2;go_roundw
    case rel=>exact⟨k+1,by omega,by go_num,v1,by rw[c5.o];exact A.o.1,by rw[c6.o];exact A.o.2.1,A.o.2.2.1,A.o.2.2.2⟩
    case measure=>exact vJ
   ·rw[hn,if_neg ff]at K
    rw[hn,if_neg ff]at E;rw[hv]at c0;have hq:=jdL T x;have H:=Hd (a9.o k q hn T x hv wr v1 (A.o.1.ext0 HW.o.1 HW.o.2 (bL _)) A.o.1.at');rw[bX, <-K]at H
    obtain⟨r,hr⟩:=vE (refB (textP (ks k)))
    rw[<-hr]at E H;have c7:=Hd E;clear K hn hv E hr;have b2:(k:Int) < 16:=vO
    go_wp2_with fail
    refine H.o.mono ?_;rintro e w4 ⟨rfl,v4,O⟩;have a5:L≠g:=by have:=HN.o.1;have:=HG.o;omega
    have c1:W.heap.size≠g:=by have:=HG.o;omega
    have X:=O.blk A.o.2.1 a5 A.o.2.2.2.1;have Z:=O.blk A.o.2.2.1 c1 A.o.2.2.2.2;have a6:∀ y,y < wr.heap.size->v1.ownBlock≠some y->v4.ownBlock≠some y:=fun y hy h1 e=>by
     rcases O.sub y e with e | e
     ·exact h1 e
     ·omega
    have a7:=a6 L A.o.2.1.lt A.o.2.2.2.1;have c2:=a6 W.heap.size A.o.2.2.1.lt A.o.2.2.2.2;have c8:(bfN u (refsK ks) k).cells.length=19:=jad.cells_len _ (jx1 u (jdw ks) hk)
    obtain⟨old,qf⟩:∃ v,w4.cell? ⟨L,3+k,none⟩=some v:=⟨_,X.cellL (bA vO)⟩
    have d4:w4.frozen? ⟨L,3+k,none⟩=false:=X.frozen;have a8:=X.set_same (i:=3+k) (.string r);rw[show (bfN u (refsK ks) k).cells.toArray.setIfInBounds (3+k) (.string r)=((bfN u (refsK ks) k).cells.set (3+k) (.string r)).toArray by simp,jx2 u (jdw ks) q r c7.o]at a8;have K5:jag (fun z=>z=L) w4 (w4.setCell ⟨L,3+k,none⟩ (.string r)):=jag.oneSet w4 ⟨L,3+k,none⟩ (.string r);have a0:=Z.keeps K5 (fun e=>by have e:W.heap.size=L:=e;have:=HN.o.1;omega);have c3:=(A.o.1.trans O).fill K5 a5 a7 (by have:=HN.o.1;omega);have H5:=Hd (bB c3 (bB a8 (bB a0 (bB a7 c2))));clear O a5 c1 X Z a6 a7 c2 c8 a8 K5 a0 c3;go_wp2_with fail
    go_roundw
    case rel=>exact⟨k+1,by omega,by go_num,v4,H5.o⟩
    case measure=>exact vJ
  ·obtain rfl:k=16:=vO
   have c4:=A.o.2.1;rw[jz6 u (jdw ks)]at c4;have c9:=A.o.2.2.1;go_wp2_with (refine jaf 99 (.tmp 5) rfl rfl _ _ rfl (jas _ _ ⟨3,⟨#[]⟩,u,refsK ks⟩ (jdw ks) c4) ?_;refine jae (vs:=jad.cells ⟨3,⟨#[]⟩,u,refsK ks⟩) rfl rfl rfl rfl c9 (by rw[jad.cells_len _ (jdw ks)];rfl) (by rw[jad.cells_len _ (jdw ks)];exact Tryz.szNode) (jad.one _) ?_;intro W8 d0 d1)
   refine bodyPost_ret (jcX rfl rfl (jai W8 _ ⟨3,⟨#[]⟩,u,refsK ks⟩ (jdw ks) d0)) rfl ?_
   exact⟨rfl,v1,A.o.1.fill d1 (by have:=HG.o;omega) A.o.2.2.2.2 (bL _)⟩
end
theorem jif:∀ (P:PA),PutP P->jzB P
 | .nil=>fun _ A W T x D g v o K O h H E J=>by cases h.at'
 | .no=>fun _ A W T x D g v o K O h H E J=>by
  have e:Value.iface T x=noV:=h.at';unfold noV at e;injection e with e1 e2;subst e1 e2;show Calls _ _ _ W (FoP A.heap.size g v W jak.V (o++[]));rw[bU];exact jwd _ g v o W E
 | .leaf q u=>fun _ A W T x D g v o K O h H E J=>by
  obtain⟨b,e,h1,Q⟩:=h.at'
  unfold jju at e;injection e with e1 e2;subst e1 e2;show Calls _ _ _ W (FoP A.heap.size g v W (jad.V ⟨1,q,u,jar 16⟩) (o++[]));rw[bU];exact jyD A _ g v o W H q u b Q E
 | .ext q m=>fun X A W T x D g v o K O h H E J=>by
  obtain⟨b,T',x',Dn,e,h1,Q,Z,h4,h5⟩:=h.at'
  unfold extV at e;injection e with e1 e2;subst e1 e2;have J:o.length+(1+cntP m)<=100000:=J;have hn:m.isNil=false:=by
   cases m with
   | nil=>cases Z
   | _=>rfl
  exact jyg A W q m T' x' Dn b Q ⟨Z,fun z hz=>h.lt z (h5 z hz)⟩ (jxC m (jqs m hn X.2 (jif m X.2))) g v o K O H E vO
 | .br u ks=>fun X A W T x D g v o K O h H E J=>by
  obtain⟨b,vk,Dk,e,h1,Q,Z,h4⟩:=h.at'
  unfold brV at e;injection e with e1 e2;subst e1 e2;have hb:BrRd u ks b vk Dk A:=⟨Q,fun i hi=>⟨(Z i hi).1,fun z hz=>h.lt z ((Z i hi).2.2 z hz)⟩⟩;exact jx3 A W u ks b vk Dk hb (fun i _ hn=>jxC (ks i) (jqs (ks i) hn (X.2 i) (jif (ks i) (X.2 i)))) g v o K O H E J
theorem jmY:∀ (f:Nat) (l:vL),jav f l->PutP (ja2 (f+1) l):=by
 intro f;induction f with
 | zero =>
  intro l h;have E:=jbD h;have o:=(good 0 l h).1;have q:=(jfS 0 l h).1;rw[<-q]at o;have e:=jgV o
  by_cases h0:l.length=0
  ·rw[jcd _ h0]at e ⊢;exact e
  ·rw[jcj _ vO]at e ⊢;exact e
 | succ f ih =>
  intro l h;have o:=(good (f+1) l h).1;have q:=(jfS (f+1) l h).1;rw[<-q]at o;have e:=jgV o
  by_cases h0:l.length=0
  ·rw[jcd _ h0]at e ⊢;exact e
  by_cases h1:l.length=1
  ·rw[jcj _ h1]at e ⊢;exact e
  have z:2<=l.length:=vO
  by_cases hk:0 < comK l
  ·obtain⟨A,H,_,_⟩:=jeo h z hk
   rw[jdM _ z hk]at e ⊢
   exact⟨e,ih _ A⟩
  ·rw[je1 _ z hk]at e ⊢
   refine⟨e,fun i=>?_⟩
   show PutP (if (cutL i l).length=0 then PA.nil else ja2 (f+1) (jal 1 (cutL i l)))
   by_cases hc:(cutL i l).length=0
   ·rw[if_pos hc];exact trivial
   ·rw[if_neg hc];exact ih _ (jfb h hc).1
theorem jtN(f:Nat)(l:vL)(h:jav f l):TopC (ja2 (f+1) l):=jqs _ jdT (jmY f l h) (jif _ (jmY f l h))
section
attribute [local go_sem] Oper.semAt_some
noncomputable def rootM(l:vL):vB:=shaB (jay l).text
theorem jvu{l:vL}(h:jaD l=0):entP (ja2 13 (jaO l)) ⟨#[]⟩=l:=by
 have e:∀ q:vB,(⟨#[]⟩:vB)++q=q:=fun q=>jck (by rw[jlY];rfl);rw[jtK 12 _ (jbt (jaE h)) ⟨#[]⟩ (fun q o=>by
  obtain⟨p,z,rfl⟩:=bI.1 o
  rw[e];exact jpL p.1)]
 unfold jaO;rw[dL]
 conv=>rhs;rw[<-List.map_id l]
 refine dF fun p z=>?_;show (jbC (⟨#[]⟩++jaM p.1),p.2)=p;rw[e,jfR]
structure PaM(w w1:World)(l:vL)(T:TypeId)(x:Value):Prop where
 ext:Ext w w1
 pa:PaO (ja2 13 (jaO l)) (.iface T x) (jha w w1) w1
theorem jtv(w:vW)(s bm:Nat)(room:Int)(S:vT)(hs:jax w s bm room S)(hN:jdn S)(l:vL)(h:HasM S l) :
  vQ 29 #[.pointer (some ⟨s,0,none⟩),.string (rootM l)] w fun e w'=>∃ T x,e=.returned (.tuple #[.iface T x,.bool true])/\PaM w w' l T x:=by
 refine (joC w s bm room S hs hN (rootM l)).mono ?_;rintro e w' ⟨q,o⟩
 obtain⟨k,A⟩:=jtX w h
 unfold rootM at o;rw[A]at o
 obtain⟨T,x,rfl,E⟩:=o
 exact⟨T,x,rfl,q,E,fun z H=>H.2⟩
theorem jxt(w1 W:vW)(l:vL)(h:jaD l=0)(T:TypeId)(x:vV)(D:Nat->Prop)(hp:PaO (ja2 13 (jaO l)) (.iface T x) D w1)(hE:Ext w1 W) :
  vQ (jff (ja2 13 (jaO l))) #[x,.string ⟨#[]⟩,.slice none 0 0] W fun e w'=>∃ v,e=.returned v/\ERow w1 w' v l.length l:=by
 have o:=jbt (jaE h);have z:=jkG (jaE h);refine (jld _ w1 W T x D ⟨#[]⟩ (.slice none 0 0) 0 12 [] hp (ORow.nil _ _ hE) (jtJ 12 _ 12 o o) (by have:(⟨#[]⟩:vB).size=0:=rfl;omega) (by rw[jkH 12 _ o];omega)).mono ?_;rintro e w' ⟨v,n,rfl,q⟩;rw[cM,jvu h]at q
 have:=q.len'
 subst this
 exact⟨v,rfl,q⟩
theorem jxA(w:vW)(s bm:Nat)(room:Int)(S:vT)(hs:jax w s bm room S)(hN:jdn S)(l:vL)(h:HasM S l) :
  vQ 10 #[.pointer (some ⟨s,0,none⟩),.string (rootM l)] w fun e w'=>∃ v,e=.returned (.tuple #[v,.int .i64 0])/\ERow w w' v l.length l:=by
 have Q:=Hd (jtv w s bm room S hs hN l h);have X:=Hd h.ok
 obtain⟨P,H⟩:=vE (ja2 13 (jaO l))
 have J:=Hd H;have Z:=jdp P;clear hs hN h H;go_enter Tryz.func10,Tryz.ntmps10;go_wp2_with fail
 refine Q.o.mono ?_;rintro e w1 ⟨T,x,rfl,z⟩;have K:=Hd z;have q:=z.pa.at'.meth;rw[<-J.o]at q;have a0:∀ w,(Go.method (403+1) T x "guilloche/trie.entries").run Tryz.prog w=.ok (jff P,x) w:=q.ent;have O:=Hd (jxt w1 w1 l X.o T x _ z.pa (ExtR w1));rw[<-J.o]at O;clear z q;go_wp2_with fail
 refine O.o.mono ?_;rintro e w2 ⟨v,rfl,A⟩;have E:=Hd A
 obtain⟨a,c,hv⟩:=A.sl
 subst hv;clear A;go_wp2_with fail
 go_ret2
 exact⟨_,rfl,⟨_,_,rfl⟩,E.o.own,K.o.ext.trans E.o.ext,fun b hb=>bH K.o.ext.size (E.o.new b hb)⟩
end
theorem jeT:∀ (xs:List Chg) (j:Nat) (p:Chg),xs[j]?=some p->(jdD xs)[j * 3]?=some (.string p.key)/\(jdD xs)[j * 3+1]?=some (.string p.value)/\(jdD xs)[j * 3+2]?=some (.bool p.gone)
 | [],j,p,h=>by simp at h
 | x :: r,0,p,h=>by simp at h;subst h;exact⟨rfl,rfl,rfl⟩
 | x :: r,j+1,p,h=>by
  obtain⟨e,o,q⟩:=jeT r j p (by simpa using h)
  rw[show (j+1) * 3=j * 3+3 by omega]
  exact⟨e,o,q⟩
theorem CRow.rdT{w0 w:vW}{v:vV}{n:Nat}{xs:List Chg}(h:CRow w0 w v n xs):RdC w v xs:=by
 have q:xs.length=n:=by have:=h.len;rw[jjI]at this;omega
 obtain⟨_,⟨rfl,O⟩ |⟨g,e,z,rfl,Q,A,E,X,Z⟩⟩:=h.own
 ·exact .inl ⟨none,0,rfl,bG vO⟩
 ·subst q
  refine .inr ⟨g,0,e,rfl,(dK.1 A).1,E,fun j x o=>?_⟩;have hj:=(bW.1 o).1
  obtain⟨H,J,K⟩:=jeT xs j x o
  exact⟨by rw[cR,h.own.cellAt (j * 3) vO,H],by rw[cR,h.own.cellAt (j * 3+1) vO,J],by rw[cR,h.own.cellAt (j * 3+2) vO,K]⟩
theorem jjP{l m:vL}(h1:l.length<=40)(h2:m.length<=40):(jdz l m).length<=80:=by
 have e:∀ l m:vL,(ja9 l m).length<=l.length+m.length:=fun l m=>by
  fun_induction ja9 l m <;> simp only[bO,dG]at * <;> omega
 unfold jdz;split
 ·have:=e l m;omega
 ·simp
theorem jia{c:Chg}(h:c.bad=false):c.key.size<=6:=by
 unfold Chg.bad at h;have o:jei c.key=true:=by
  cases e:jei c.key with
  | true=>rfl
  | false=>rw[e]at h;simp at h
 unfold jei at o;exact (of_decide_eq_true o).2
structure OkP(P:PA):Prop where
 can:P=.no\/CanP P
 dp:Dp P 12
theorem OkP.va{P:PA}(h:OkP P):VaP P:=by
 rcases h.can with h | h
 ·subst h;trivial
 ·exact jr9 P h
theorem OkP.there{P:PA}(h:OkP P):P.isNil=false:=by
 rcases h.can with h | h
 ·subst h;rfl
 ·cases P with
  | nil=>exact h.elim
  | _=>rfl
theorem OkP.dp9{P:PA}(h:OkP P):Dp P 900000:=jbO P 12 _ h.dp vO
theorem OkP.step{P:PA}(h:OkP P){c:Chg}(hc:c.bad=false):OkP (jbp P c):=by
 refine⟨(jum h.can hc).1,?_⟩
 have e:=jia hc;have o:=jcJ c.key;unfold jbp;split
 ·exact jhk P 12 _ h.dp
 ·exact jml P 12 _ _ h.dp vO
theorem jAM{l:vL}(h:jaD l=0):OkP (ja2 13 (jaO l)):=⟨jpK (jbt (jaE h)),jtJ 12 _ 12 (jbt (jaE h)) (jbt (jaE h))⟩
noncomputable def lackB(S:vT)(t:vB):Bool:=(atL S (shaB t).data.toList).isNone
noncomputable def freshU(S:vT)(U:vM):vM:=(ja7 U).filter (lackB S)
theorem jjZ(S:vT)(U:vM)(x:vB):freshU S (U++[x])=freshU S U++(if memB (ja7 U) x=true then []else if lackB S x=true then [x]else []):=by
 unfold freshU;rw[jgh];unfold addF
 by_cases h:memB (ja7 U) x=true
 ·rw[if_pos h,if_pos h,bU]
 ·rw[if_neg h,if_neg h,gT]
  congr 1
  cases e:lackB S x <;> simp[e]
theorem jgF(S:vT)(U:vM):(freshU S U).length<=U.length:=bH (fE _ _) (jhm U)
noncomputable def belowM(m:vL):vM:=underP (ja2 13 (jaO m))
theorem jgv{m:vL}(h:jaD m=0):belowM m=jaH (jat (jab 12) (jaO m)):=(jfS 12 _ (jbt (jaE h))).2.2
theorem jzd{m:vL}(h:jaD m=0):textP (ja2 13 (jaO m))=(jay m).text:=(jfS 12 _ (jbt (jaE h))).2.1
theorem jlZ{m:vL}(h:jaD m=0):(belowM m).length<=118:=by
 have e:=jdx (ja2 13 (jaO m)) jdT;have o:cntP (ja2 13 (jaO m))=cntT 12 (jaO m):=jkH 12 _ (jbt (jaE h));have q:=jkG (jaE h);unfold belowM;omega
noncomputable def newM(S:vT)(m:vL):vM:=(jay m).text :: freshU S (belowM m)
def ja0(l:vL)(cs:List Chg):vL:=jc8 (jdC l cs)
def UpdP(w:vW)(S:vT)(l:vL)(cs:List Chg)(e:Ending)(w':vW):Prop:=
 if ja8 l cs=0 then ∃ r,e=.returned (.tuple #[r,.int .i64 0])/\SRow w w' r (newM S (ja0 l cs)).length (newM S (ja0 l cs))else e=.returned (.tuple #[.slice none 0 0,.int .i64 (ja8 l cs)])/\Ext w w'
def jw6(W3:vW)(D0:Nat->Prop)(P0:PA)(ds:List Chg)(pv iv:vV)(wr:vW):Prop:=∃ (k:Nat) (T:TypeId) (x:vV) (D:Nat->Prop),k<=ds.length/\iv=.int .i64 k/\pv=.iface T x/\PaO ((ds.take k).foldl jbp P0) (.iface T x) D wr/\(∀ z,D z->D0 z\/W3.heap.size<=z)/\jag D0 W3 wr
theorem jpf{P:PA}(h:OkP P):∀ (ds:List Chg),(∀ c∈ds,c.bad=false)->OkP (ds.foldl jbp P)
 | [],_=>h
 | c :: ds,hc=>jpf (h.step (hc c bD)) ds (fun d e=>hc d (bC _ e))
theorem jvC{P:PA}(h:OkP P)(ds:List Chg)(hc:ds.any Chg.bad=false)(k:Nat):OkP ((ds.take k).foldl jbp P):=jpf h _ fun c o=>by
 have:=List.any_eq_false.1 hc c (iE o)
 cases e:c.bad with
 | false=>rfl
 | true=>exact absurd e this
structure UpB(W7:World)(S:vT)(mb:Nat)(t:vB)(U:vM)(k:Nat)(rv:Value)(wr:World):Prop where
 row:∃ n,SRow W7 wr rv n (t :: freshU S (U.take k))
 out:rv.ownBlock≠some mb
 tab:∃ es ck,Blk wr mb (.map (Tryz.ES.arr es) ck)/\∀ x:vB,jaS es x.data.toList=cntV (cntB (U.take k) x)
def jw7(W7:vW)(S:vT)(mb:Nat)(t:vB)(U:vM)(rv iv:vV)(wr:vW):Prop:=∃ k:Nat,k<=U.length/\iv=.int .i64 k/\UpB W7 S mb t U k rv wr
theorem jjM(L:vM)(x y:vB):cntB (L++[x]) y=cntB L y+(if x.data.toList=y.data.toList then 1 else 0):=by
 unfold cntB;rw[bZ,List.count_append,bV,iL,List.count_singleton]
 simp
theorem jhG{α:Type}{l:List α}{k:Nat}{x:α}(h:l[k]?=some x):l.take (k+1)=l.take k++[x]:=by rw[cE,h];rfl
def ShP:PA->Prop
 | .nil=>True
 | .no=>True
 | .leaf _ v=>v.size<=80
 | .ext _ n=>ShP n
 | .br v ks=>v.size<=80/\∀ i,ShP (ks i)
theorem jhD{a:vB}{P:PA}(h:ShP P):ShP (jbX a P):=by
 unfold jbX
 by_cases h0:a.size=0
 ·rw[if_pos h0];exact h
 rw[if_neg h0];cases P with
 | nil=>trivial
 | no=>trivial
 | leaf q v=>exact h
 | ext q n=>exact h
 | br v ks=>exact h
theorem jp0{u v:vB}{ks:Nat->PA}(hu:u.size<=80)(h:∀ i,ShP (ks i)){i:Nat}{P:PA}(hP:ShP P):ShP (.br u (setK ks i P)):=⟨hu,fun j=>by
 by_cases e:j=i
 ·rw[e,jbz];exact hP
 ·rw[jcS _ _ e];exact h j⟩
theorem jpY{v:vB}{ks:Nat->PA}(h:ShP (.br v ks))(p:vB){u:vB}(hu:u.size<=80):ShP (addK (.br v ks) p u):=by
 rw[jce];split
 ·exact⟨hu,h.2⟩
 ·exact jp0 (v:=v) h.1 h.2 hu
theorem jwJ:ShP (.br ⟨#[]⟩ fun _=>.nil):=⟨bY _,fun _=>trivial⟩
theorem juh:∀ (P:PA) (p u:vB),ShP P->u.size<=80->ShP (putP P p u)
 | .nil,p,u,_,hu=>hu
 | .no,p,u,_,hu=>hu
 | .leaf q v,p,u,h,hu=>by
  have h:v.size<=80:=h;unfold putP;split
  ·exact hu
  ·refine jhD ?_
   have e:=jpY jwJ (q.extract (jam q p) q.size) h;rw[jce]at e ⊢
   by_cases h0:(q.extract (jam q p) q.size).size=0
   ·rw[if_pos h0]at e ⊢;exact jpY e _ hu
   ·rw[if_neg h0]at e ⊢;exact jpY e _ hu
 | .ext q x,p,u,h,hu=>by
  have h:ShP x:=h;unfold putP;split
  ·exact jhD (juh x _ u h hu)
  ·exact jhD (jpY (jp0 (v:=⟨#[]⟩) (bY _) (ks:=fun _=>PA.nil) (fun _=>trivial) (jhD h)) _ hu)
 | .br v ks,p,u,h,hu=>by
  unfold putP;split
  ·exact⟨hu,h.2⟩
  ·exact jp0 (v:=v) h.1 h.2 (juh (ks (jap p)) _ u (h.2 _) hu)
theorem jpZ{v:vB}{ks:Nat->PA}(h:ShP (.br v ks)):ShP (jcF v ks):=by
 unfold jcF;cases e:idxK ks with
 | nil =>
  show ShP (if v.size=0 then PA.no else .leaf ⟨#[]⟩ v);split
  ·trivial
  ·exact h.1
 | cons i r =>
  cases r with
  | nil =>
   show ShP (if v.size=0 then jbX ⟨#[UInt8.ofNat i]⟩ (ks i)else .br v ks);split
   ·exact jhD (h.2 i)
   ·exact h
  | cons j r=>exact h
theorem jov:∀ (P:PA) (p:vB),ShP P->ShP (jbn P p)
 | .nil,p,_=>trivial
 | .no,p,_=>trivial
 | .leaf q v,p,h=>by
  unfold jbn;split
  ·trivial
  ·exact h
 | .ext q n,p,h=>by
  have h:ShP n:=h;unfold jbn;split
  ·exact jhD (jov n _ h)
  ·exact h
 | .br v ks,p,h=>by
  unfold jbn;split
  ·exact jpZ ⟨bY _,h.2⟩
  split
  ·exact h
  refine jpZ (jp0 (v:=v) h.1 h.2 ?_)
  have:=jov (ks (jap p)) (jbq p) (h.2 _)
  unfold unNo;split
  ·trivial
  ·exact this
theorem jlB{f g:Nat->Nat}{c j:Nat}(h:∀ i,i≠j->g i<=f i)(hj:g j<=f j+c):∀ n,sumF g n<=sumF f n+(if j < n then c else 0)
 | 0=>bY _
 | n+1=>by
  have o:=jlB h hj n;show sumF g n+g n<=sumF f n+f n+_
  by_cases e:n=j
  ·subst e
   rw[if_neg (iO n)]at o;rw[if_pos (Nat.lt_succ_self n)];omega
  ·have:=h n e
   by_cases l:j < n
   ·rw[if_pos l]at o;rw[if_pos vO];omega
   ·rw[if_neg l]at o;rw[if_neg vO];omega
theorem jo0{u v:vB}{ks:Nat->PA}{i:Nat}{P:PA}{c:Nat}(h:cntP P<=cntP (ks i)+c):cntP (.br u (setK ks i P))<=cntP (.br v ks)+c:=by
 have:=jlB (f:=fun i=>cntP (ks i)) (g:=fun j=>cntP (setK ks i P j)) (c:=c) (j:=i) (fun j e=>by show cntP (setK ks i P j)<=_;rw[jcS _ _ e];exact bL _) (by show cntP (setK ks i P i)<=_;rw[jbz];exact h) 16
 show 1+sumF (fun j=>cntP (setK ks i P j)) 16<=1+sumF (fun i=>cntP (ks i)) 16+c;split at this <;> omega
theorem jhj{a:vB}{P:PA}:cntP (jbX a P)<=cntP P+1:=by
 unfold jbX;split
 ·exact fW _
 cases P with
 | nil=>exact bL _
 | no=>exact fW _
 | leaf q v=>exact fW _
 | ext q n=>exact fW _
 | br v ks=>show 1+cntP (.br v ks)<=cntP (.br v ks)+1;omega
theorem joX{v:vB}{ks:Nat->PA}(p u:vB):cntP (addK (.br v ks) p u)<=cntP (.br v ks)+1:=by
 rw[jce];split
 ·exact fW _
 ·exact jo0 (show 1<=_ by omega)
theorem joZ:cntP (.br ⟨#[]⟩ fun _=>.nil)=1:=rfl
theorem jsh:∀ (P:PA) (p u:vB),cntP (putP P p u)<=cntP P+3
 | .nil,p,u=>by show 1<=0+3;omega
 | .no,p,u=>by show 1<=1+3;omega
 | .leaf q v,p,u=>by
  unfold putP;split
  ·exact Nat.le_add_right _ _
  ·refine bH jhj ?_
   have e:=joX (v:=⟨#[]⟩) (ks:=fun _=>.nil) (q.extract (jam q p) q.size) v;rw[joZ]at e;show _<=1+3;rw[jce]at e ⊢
   by_cases h0:(q.extract (jam q p) q.size).size=0
   ·rw[if_pos h0]at e ⊢
    have:=joX (v:=v) (ks:=fun _=>.nil) (p.extract (jam q p) p.size) u;omega
   ·rw[if_neg h0]at e ⊢
    have:=joX (v:=⟨#[]⟩) (ks:=setK (fun _=>.nil) (jap (q.extract (jam q p) q.size)) (.leaf (jbq (q.extract (jam q p) q.size)) v)) (p.extract (jam q p) p.size) u;omega
 | .ext q x,p,u=>by
  unfold putP;split
  ·have z:=jhj (a:=q) (P:=putP x (p.extract (jam q p) p.size) u)
   have o:=jsh x (p.extract (jam q p) p.size) u;show _<=1+cntP x+3;omega
  ·refine bH jhj ?_
   have z:=jhj (a:=q.extract (jam q p+1) q.size) (P:=x);have o:=jo0 (u:=⟨#[]⟩) (v:=⟨#[]⟩) (ks:=fun _=>PA.nil) (i:=jap (q.extract (jam q p) q.size)) (P:=jbX (q.extract (jam q p+1) q.size) x) (c:=cntP x+1) (by show _<=0+_;omega);rw[joZ]at o;have A:=joX (v:=⟨#[]⟩) (ks:=setK (fun _=>.nil) (jap (q.extract (jam q p) q.size)) (jbX (q.extract (jam q p+1) q.size) x)) (p.extract (jam q p) p.size) u;show _<=1+cntP x+3;omega
 | .br v ks,p,u=>by
  unfold putP;split
  ·exact Nat.le_add_right _ _
  ·exact jo0 (jsh (ks (jap p)) _ u)
theorem joY{v:vB}{ks:Nat->PA}:cntP (jcF v ks)<=cntP (.br v ks):=by
 have o:∀ (f:Nat->Nat) (i n:Nat),i < n->f i<=sumF f n:=fun f i n=>by
  induction n with
  | zero=>intro h;omega
  | succ n ih =>
   intro h;show f i<=sumF f n+f n
   by_cases e:i=n
   ·subst e;omega
   ·have:=ih vO;omega
 have z:∀ i∈idxK ks,i < 16:=fun i A=>dR.1 (cN.1 A).1;unfold jcF;cases e:idxK ks with
 | nil =>
  show cntP (if v.size=0 then PA.no else .leaf ⟨#[]⟩ v)<=1+sumF (fun i=>cntP (ks i)) 16;split
  ·show 1<=_;omega
  ·show 1<=_;omega
 | cons i r =>
  cases r with
  | nil =>
   show cntP (if v.size=0 then jbX ⟨#[UInt8.ofNat i]⟩ (ks i)else .br v ks)<=_;split
   ·have E:=jhj (a:=⟨#[UInt8.ofNat i]⟩) (P:=ks i)
    have q:=o (fun i=>cntP (ks i)) i 16 (z i (by rw[e];exact bD));have q:cntP (ks i)<=sumF (fun i=>cntP (ks i)) 16:=q;show _<=1+sumF (fun i=>cntP (ks i)) 16;omega
   ·exact bL _
  | cons j r=>exact bL _
theorem jnU:∀ (P:PA) (p:vB),cntP (jbn P p)<=cntP P+1
 | .nil,p=>bL _
 | .no,p=>fW _
 | .leaf q v,p=>by
  unfold jbn;split
  ·exact fW _
  ·exact fW _
 | .ext q n,p=>by
  unfold jbn;split
  ·have e:=jhj (a:=q) (P:=jbn n (p.extract q.size p.size))
   have o:=jnU n (p.extract q.size p.size);show _<=1+cntP n+1;omega
  ·exact fW _
 | .br v ks,p=>by
  unfold jbn;split
  ·exact bH joY (fW _)
  split
  ·exact fW _
  refine bH joY (jo0 ?_)
  have:=jnU (ks (jap p)) (jbq p)
  unfold unNo;split
  ·exact bY _
  ·exact this
structure AnyP(P:PA)(k c:Nat):Prop where
 va:VaP P
 sh:ShP P
 dp:Dp P k
 there:P.isNil=false
 cnt:cntP P<=c
theorem jvJ{c:Chg}(h:c.bad=false)(hg:c.gone=false):c.value.size<=80:=by
 unfold Chg.bad at h;rw[hg]at h;have o:jcT c.value=true:=by
  cases e:jcT c.value with
  | true=>rfl
  | false=>rw[e]at h;simp at h
 unfold jcT at o;exact (of_decide_eq_true o).2
theorem AnyP.step{P:PA}{k n:Nat}(h:AnyP P k n)(hk:12<=k){c:Chg}(hc:c.bad=false):AnyP (jbp P c) k (n+3):=by
 have e:=jia hc;have o:=jcJ c.key;unfold jbp;cases hg:c.gone with
 | true=>exact⟨joH P _ h.va,jov P _ h.sh,jhk P k _ h.dp,jew P _,by have:=jnU P (jaM c.key);have:=h.cnt;show cntP (jbn P _)<=_;omega⟩
 | false=>exact⟨jux P _ _ h.va (jbL _),juh P _ _ h.sh (jvJ hc hg),jml P k _ _ h.dp vO,jgU P _ _,by have:=jsh P (jaM c.key) c.value;have:=h.cnt;show cntP (putP P _ _)<=_;omega⟩
theorem AnyP.fold{k:Nat}(hk:12<=k):∀ (ds:List Chg) (P:PA) (n:Nat),AnyP P k n->(∀ c∈ds,c.bad=false)->AnyP (ds.foldl jbp P) k (n+3 * ds.length)
 | [],_,_,h,_=>h
 | c :: ds,P,n,h,hc=>by
  have:=AnyP.fold hk ds _ _ (h.step hk (hc c bD)) (fun d e=>hc d (bC _ e))
  rw[bO,show n+3 * (ds.length+1)=n+3+3 * ds.length by omega];exact this
theorem AnyP.takes{P:PA}{k n:Nat}(h:AnyP P k n)(hk:12<=k)(ds:List Chg)(hc:ds.any Chg.bad=false)(j:Nat):AnyP ((ds.take j).foldl jbp P) k (n+3 * ds.length):=by
 have o:=AnyP.fold hk (ds.take j) P n h fun c q=>by
  have:=List.any_eq_false.1 hc c (iE q)
  cases e:c.bad with
  | false=>rfl
  | true=>exact absurd e this
 have:(ds.take j).length<=ds.length:=by rw[dM];omega
 exact⟨o.va,o.sh,o.dp,o.there,by have:=o.cnt;omega⟩
structure NdS(n:jad):Prop where
 path:n.path.size<=12
 value:n.value.size<=80
 valid:jaC n.path=true
theorem jlS.nd{n:jad}(h:jlS n):NdS n:=⟨h.path,h.value,h.valid⟩
theorem jv5:NdS jak:=⟨by decide,by decide,by decide⟩
theorem jtC{t:vB}(h:∃ n,jbc t n):NdS (nodeOf t):=by
 obtain⟨n,e⟩:=h
 obtain⟨_,d,o⟩:=jb3 e
 exact (o.one (inlP d)).nd
theorem jyo{S:vT}(hN:jdn S){r:vB}{m:jad}(h:gRef S r=some m):NdS m:=by
 unfold gRef at h;split at h
 ·rw[cV]at h
  obtain⟨y,o,rfl⟩:=h
  exact jtC (hN y (jaU o).1)
 ·have h:=bQ h
  subst h;unfold inlOf
  by_cases hh:∃ m d,InlD d r m
  ·rw[dif_pos hh]
   obtain⟨g,e⟩:=hh.choose_spec
   cases g with
   | zero=>exact e.elim
   | succ g=>exact (e.1.one (inlP g)).nd
  ·rw[dif_neg hh];exact jv5
theorem jm9{R:jad->Nat->Option (PA × Nat)}{G:vB->Option jad}{rs:vM}{d:Nat}(hG:∀ r m,G r=some m->NdS m)(hR:∀ m l y,NdS m->R m l=some y->VaP y.1/\ShP y.1/\Dp y.1 d/\y.1.isNil=false/\cntP y.1+y.2<=l):∀ (k left:Nat) (x:(Nat->PA) × Nat),je4 R G rs k left=some x->(∀ i,VaP (x.1 i))/\(∀ i,ShP (x.1 i))/\(∀ i,Dp (x.1 i) d)/\sumF (fun i=>cntP (x.1 i)) k+x.2<=left
 | 0,left,x,h=>by
  have h:some ((fun _=>PA.nil),left)=some x:=h;rw[<-bQ h]
  exact⟨fun _=>trivial,fun _=>trivial,fun _=>trivial,by show 0+left<=left;omega⟩
 | k+1,left,x,h=>by
  rw[jdU,fH]at h
  obtain⟨y,o,h⟩:=h
  obtain⟨E,H,J,O⟩:=jm9 hG hR k left y o
  have X:=readK_nil k left y o
  by_cases h0:(rs.getD k ⟨#[]⟩).size=0
  ·rw[if_pos h0]at h
   rw[<-bQ h]
   refine⟨E,H,J,?_⟩
   show sumF _ k+cntP (y.1 k)+y.2<=left;rw[X k (bL _)];exact O
  ·rw[if_neg h0,fH]at h
   obtain⟨m,Z,h⟩:=h
   rw[cV]at h
   obtain⟨z,q,e⟩:=h
   obtain⟨j1,j2,j3,_,j4⟩:=hR m y.2 z (hG _ _ Z) q
   rw[<-e];have A:∀ Q:PA->Prop,(∀ i,Q (y.1 i))->Q z.1->∀ i,Q (setK y.1 k z.1 i):=fun Q h1 h2 i=>by
    by_cases e:i=k
    ·rw[e,jbz];exact h2
    ·rw[jcS _ _ e];exact h1 i
   refine⟨A _ E j1,A _ H j2,A (fun P=>Dp P d) J j3,?_⟩
   show sumF (fun i=>cntP (setK y.1 k z.1 i)) k+cntP (setK y.1 k z.1 k)+z.2<=left;rw[jbz]
   have:=jlB (f:=fun i=>cntP (y.1 i)) (g:=fun i=>cntP (setK y.1 k z.1 i)) (c:=cntP z.1) (j:=k) (fun i e=>by show cntP (setK y.1 k z.1 i)<=_;rw[jcS _ _ e];exact bL _) (by show cntP (setK y.1 k z.1 k)<=_;rw[jbz];omega) k
   rw[if_neg (iO k)]at this;omega
where
 readK_nil:∀ (k left:Nat) (x:(Nat->PA) × Nat),je4 R G rs k left=some x->∀ i,k<=i->x.1 i=.nil
 | 0,left,x,h=>by
  have h:some ((fun _=>PA.nil),left)=some x:=h;rw[<-bQ h];exact fun _ _=>rfl
 | k+1,left,x,h=>by
  rw[jdU,fH]at h
  obtain⟨y,o,h⟩:=h
  have K:=readK_nil k left y o;intro i hi
  by_cases h0:(rs.getD k ⟨#[]⟩).size=0
  ·rw[if_pos h0]at h
   rw[<-bQ h];exact K i vO
  ·rw[if_neg h0,fH]at h
   obtain⟨m,_,h⟩:=h
   rw[cV]at h
   obtain⟨z,_,e⟩:=h
   rw[<-e];show setK y.1 k z.1 i=.nil;rw[jcS _ _ vO];exact K i vO
theorem ji4{G:vB->Option jad}(hG:∀ r m,G r=some m->NdS m):∀ (f:Nat) (n:jad) (left:Nat) (y:PA × Nat),NdS n->jcb G f n left=some y->VaP y.1/\ShP y.1/\Dp y.1 (12 * f)/\y.1.isNil=false/\cntP y.1+y.2<=left
 | 0,_,_,_,_,h=>by cases h
 | f+1,n,left,y,hn,h=>by
  have H:=hn.path;rw[jdV]at h
  by_cases h0:left=0
  ·rw[if_pos h0]at h;cases h
  rw[if_neg h0]at h
  by_cases h1:n.kind=1
  ·rw[if_pos h1]at h
   rw[<-bQ h]
   exact⟨hn.valid,hn.value,by show n.path.size<=_;omega,rfl,by show 1+(left - 1)<=left;omega⟩
  rw[if_neg h1]at h
  by_cases h2:n.kind=2
  ·rw[if_pos h2,fH]at h
   obtain⟨m,o,h⟩:=h
   rw[cV]at h
   obtain⟨z,J,e⟩:=h
   obtain⟨q,A,E,_,K⟩:=ji4 hG f m (left - 1) z (hG _ _ o) J
   rw[<-e]
   exact⟨⟨hn.valid,q⟩,A,⟨by omega,jbO _ _ _ E vO⟩,rfl,by show 1+cntP z.1+z.2<=left;omega⟩
  rw[if_neg h2]at h
  by_cases h3:n.kind=3
  ·rw[if_pos h3,cV]at h
   obtain⟨x,O,e⟩:=h
   obtain⟨q,A,E,K⟩:=jm9 hG (fun m l y o Q=>ji4 hG f m l y o Q) 16 (left - 1) x O
   rw[<-e]
   exact⟨q,⟨hn.value,A⟩,fun i _=>⟨by omega,jbO _ _ _ (E i) vO⟩,rfl,by show 1+sumF (fun i=>cntP (x.1 i)) 16+x.2<=left;omega⟩
  ·rw[if_neg h3]at h
   rw[<-bQ h]
   exact⟨trivial,trivial,trivial,rfl,by show 1+(left - 1)<=left;omega⟩
theorem jna{S:vT}(hN:jdn S){root:vB}{P:PA}{k:Nat}(h:readR S root=some (P,k)):AnyP P 2000 160:=by
 unfold readR at h;rw[fH]at h
 obtain⟨m,o,h⟩:=h
 unfold gHash at o;rw[cV]at o
 obtain⟨y,q,rfl⟩:=o
 obtain⟨z,A,E,H,J⟩:=ji4 (fun r m e=>jyo hN e) 160 _ 160 _ (jtC (hN y (jaU q).1)) h
 exact⟨z,A,jbO _ _ _ E vO,H,by have:cntP P+k<=160:=J;omega⟩
section
attribute [local go_sem] Oper.semAt_some
def jrD(n:jad):Prop:=∀ w,ErrT w->vR 75 #[n.V] w (.bool false)
theorem jyU(w:vW)(hG:ErrT w)(n:jad)(hr:n.refs.length=16)(hV:jrD n):vR 59 #[n.V] w (.tuple #[.string ⟨#[]⟩,.int .i64 1]):=by
 have q:=jas (w.alloc (.cells n.cells.toArray 99)) _ n hr (Blk.new w _);have A:=Hd (hV (w.alloc (.cells n.cells.toArray 99)) (hG.ext ((ExtR w).alloc _)));clear hr hV hG;unfold jad.V at q A ⊢;go_enter Tryz.func59,Tryz.ntmps59;go_wp2_with (refine jaf 99 (.tmp 1) rfl rfl _ _ rfl q ?_)
 refine A.o.mono ?_;rintro e w1 ⟨rfl,E⟩;have z:=Hd (((ExtR w).alloc _).trans E);clear q E;go_wp2_with fail
 go_ret2
 exact⟨rfl,z.o⟩
theorem jop{n:jad}(hr:n.refs.length=16){d:Nat}(h:jbd (InlD d) n\/jrD n):jnz n:=by
 by_cases hg:∃ d,jbd (InlD d) n
 ·obtain⟨d,o⟩:=hg;exact jgV o
 ·refine⟨hr,fun w _ q=>?_⟩
  rcases h with h | h
  ·exact absurd ⟨d,h⟩ hg
  ·rw[jtQ hg]
   exact (jyU w q n hr h).mono fun e w' k=>⟨⟨1,k.1⟩,k.2⟩
theorem jvy(w:vW)(n:jad)(hr:n.refs.length=16)(hp:n.pathOk 1=true)(h0:n.value=⟨#[]⟩)(hb:n.behindN=0):vR 111 #[n.V] w (.bool false):=by
 have E:n.path.size<=1000000:=by
  simp only[jad.pathOk,cI,decide_eq_true_eq]at hp;omega
 have q:=jb4 w n hr;have K:n.cells[2]?=some (.string ⟨#[]⟩):=by rw[<-h0];rfl
 have O:=Hd hp;have Q:=Hd hb;clear hp hb h0;unfold jad.V at q ⊢;go_enter Tryz.func111,Tryz.ntmps111;go_wp2_with (refine jaf 147 (.tmp 1) rfl rfl _ _ rfl q ?_)
 refine vC (jfs _ n hr 1 E) fun w1 z=>?_;rw[O.o];have H:=(Blk.new w (.cells n.cells.toArray 147)).keeps z (fun h=>h);have X:=H.cellL K;have e:=jbx w1 _ n hr H;have A:=Hd (((ExtR w).alloc _).trans z);unfold jad.V at e;clear q z H;go_wp2_with (refine jaf 147 (.tmp 1) rfl rfl _ _ rfl e ?_)
 refine vH (jhZ _ n hr) fun Z z=>?_;rw[Q.o];have J:=Hd (A.o.trans z);clear e X A;go_wp2_with fail
 go_ret
 exact⟨rfl,J.o⟩
def jyE(k:Nat):vB:=⟨(List.replicate k 0).toArray⟩
theorem jiQ(k:Nat):(jyE k).size=k:=by
 show (List.replicate k (0:vU)).toArray.size=k
 simp
theorem jxs(r:vB)(h:r.size<=33)(h2:r.size<=400000):GetD 33 r:=jsH 33 r h h2
theorem jph{m:jad}(h:jqu (jyE 34) m):jbd (InlD 34) m\/jrD m:=jns 33 (jyE 34) m (by rw[jiQ];omega) (by rw[jiQ];omega) jxs h
theorem jz7(v:vB)(rs:vM)(hrl:rs.length=16)(hvs:v.size<=80)(hrs:∀ r∈rs,r.size<=33):jbd (InlD 34) ⟨3,⟨#[]⟩,v,rs⟩\/jrD ⟨3,⟨#[]⟩,v,rs⟩:=by
 open Classical in
 obtain⟨M,q⟩:∃ M:vB->Bool,M=fun r=>decide (MayP (InlD 34) r):=⟨_,rfl⟩
 have K:∀ r∈rs,r.size≠0->MayD (M r) r:=fun r z H=>by
  have A:=hrs r z;rcases jth 33 r vO (jxs r A vO)with⟨h1,o⟩ |⟨h1,o⟩
  ·have e:M r=true:=by rw[q];exact decide_eq_true h1
   rw[e];exact o
  ·have e:M r=false:=by rw[q];exact decide_eq_false h1
   rw[e];exact o
 cases hb:braN M ⟨3,⟨#[]⟩,v,rs⟩with
 | true =>
  unfold braN at hb;rw[cI]at hb
  obtain⟨o,J⟩:=hb
  rw[dN]at J;refine .inl (jbd.branch v rs hrl hvs (fun r z H=>?_) (of_decide_eq_true o))
  obtain⟨j,O⟩:=jlv rs 0 r z H
  have:M r=true:=J (j,r) O
  rw[q]at this;exact of_decide_eq_true this
 | false =>
  refine .inr fun w E=>jdN false w E _ hrl (show (3:Nat)<=3 by decide) 112 rfl (vX 112) fun w E=>?_
  have:=joU w E ⟨3,⟨#[]⟩,v,rs⟩ hrl rfl hvs M K
  rwa [hb]at this
theorem jyj(p y:vB)(hp:jaC p=true)(hps:p.size<=1000000)(hy:y.size<=33):jbd (InlD 34) ⟨2,p,⟨#[]⟩,y :: jar 15⟩\/jrD ⟨2,p,⟨#[]⟩,y :: jar 15⟩:=by
 by_cases h0:y.size=0
 ·refine .inr fun w o=>jdN false w o _ rfl (show (2:Nat)<=3 by decide) 111 rfl (vX 111) fun w o=>?_
  by_cases h1:(⟨2,p,⟨#[]⟩,y :: jar 15⟩:jad).pathOk 1=true
  ·refine jvy w _ rfl h1 rfl ?_
   have e:jaA 0 (y :: jar 15)=[]:=by unfold jaA;rw[if_pos h0,jd7]
   unfold jad.behindN;have q:jad.refsL ⟨2,p,⟨#[]⟩,y :: jar 15⟩=[]:=e;rw[q];rfl
  ·exact jjV w _ rfl hps (by simpa using h1)
 ·exact jph (.inr (.inl ⟨p,y,rfl,hp,hps,by rw[jiQ];omega,h0⟩))
theorem jlp:∀ (P:PA) (k:Nat),k<=900000->VaP P->ShP P->Dp P k->PutP P
 | .nil,_,_,_,_,_=>trivial
 | .no,_,_,_,_,_=>jgV (d:=0) jbd.none
 | .leaf q v,k,hk,hv,e,o=>by
  have o:q.size<=k:=o;have e:v.size<=80:=e;exact jop rfl (jph (.inl ⟨q,v,rfl,hv,by omega,by omega⟩))
 | .ext q n,k,hk,hv,e,o=>by
  obtain⟨E,z⟩:=o
  exact⟨jop rfl (jyj q _ hv.1 vO (jlu _)),jlp n (k - q.size) vO hv.2 e z⟩
 | .br v ks,k,hk,hv,e,o=>by
  refine⟨jop (by simp[nodeP]) (jz7 v _ (by simp) e.1 fun r A=>?_),fun i=>?_⟩
  ·obtain⟨i,_,rfl⟩:=bI.1 A
   split
   ·exact bY _
   ·exact jlu _
  ·cases hn:(ks i).isNil with
   | true=>rw[jbw hn];trivial
   | false=>exact jlp (ks i) k hk (hv i) (e.2 i) (jbO _ _ _ (o i hn).2 vO)
theorem AnyP.top{P:PA}{k n:Nat}(h:AnyP P k n)(hk:k<=900000):TopC P:=by
 have e:=jlp P k hk h.va h.sh h.dp;exact jqs P h.there e (jif P e)
noncomputable def newX(S:vT)(Q:PA):vM:=textP Q :: freshU S (underP Q)
def jBv(w:vW)(S:vT)(o:Option (PA × Nat))(e:Ending)(w':vW):Prop:=
 (∃ k:Int,k≠0/\(o=none->k=4)/\e=.returned (.tuple #[.slice none 0 0,.int .i64 k])/\Ext w w')\/∃ r Q,o≠none/\e=.returned (.tuple #[r,.int .i64 0])/\AnyP Q 2000 400/\SRow w w' r (newX S Q).length (newX S Q)
theorem jh4:∀ (P:PA) (k:Nat) (p:vB),Dp P k->ShP P->∀ x∈entP P p,x.1.size<=p.size+k/\x.2.size<=80
 | .nil,_,_,_,_,x,h=>by cases h
 | .no,_,_,_,_,x,h=>by cases h
 | .leaf q v,k,p,e,o,x,h=>by
  have e:q.size<=k:=e;have o:v.size<=80:=o;have h:x∈keyR (p++q) v:=h
  obtain⟨z,A⟩:=keyR_size h
  rw[cC]at z
  exact⟨by omega,by omega⟩
 | .ext q n,k,p,e,o,x,h=>by
  have:=jh4 n (k - q.size) (p++q) e.2 o x h
  rw[cC]at this
  have:=e.1
  omega
 | .br v ks,k,p,e,o,x,h=>by
  have h:x∈(if v.size=0 then []else keyR p v)++(List.range 16).flatMap fun i=>if (ks i).isNil then []else entP (ks i) (p++nib1 i):=h
  rcases bT.1 h with h | h
  ·split at h
   ·cases h
   ·obtain⟨z,A⟩:=keyR_size h
    have:=o.1
    exact⟨by omega,by omega⟩
  ·obtain⟨i,_,h⟩:=cP.1 h
   cases hn:(ks i).isNil with
   | true=>rw[hn,if_pos rfl]at h;cases h
   | false =>
    rw[hn,if_neg ff]at h;have z:=e i hn
    have:=jh4 (ks i) (k - 1) (p++nib1 i) z.2 (o.2 i) x h
    rw[cC,show (nib1 i).size=1 from rfl]at this;omega
where
 keyR_size {p v:vB} {x:Pair} (h:x∈keyR p v):x.1.size<=p.size/\x.2.size<=v.size:=by
  unfold keyR at h;split at h
  ·rw[bP.1 h]
   exact⟨by show (jbC p).size<=_;rw[jiV];omega,bL _⟩
  ·cases h
theorem jw8(w0 W:vW){P:PA}{k:Nat}(hA:AnyP P k 1000)(hk:k<=800000)(T:TypeId)(x:vV)(D:Nat->Prop)(hp:PaO P (.iface T x) D w0)(hE:Ext w0 W) :
  vQ (jff P) #[x,.string ⟨#[]⟩,.slice none 0 0] W fun e w'=>∃ v,e=.returned v/\ERow w0 w' v (entP P ⟨#[]⟩).length (entP P ⟨#[]⟩):=by
 have q:=hA.cnt;refine (jld P w0 W T x D ⟨#[]⟩ (.slice none 0 0) 0 k [] hp (ORow.nil _ _ hE) hA.dp (by have:(⟨#[]⟩:vB).size=0:=rfl;omega) vO).mono ?_;rintro e w' ⟨v,n,rfl,o⟩;rw[cM]at o
 have:=o.len'
 subst this
 exact⟨v,rfl,o⟩
theorem AnyP.more{P:PA}{k c d:Nat}(h:AnyP P k c)(e:c<=d):AnyP P k d:=⟨h.va,h.sh,h.dp,h.there,bH h.cnt e⟩
theorem joF(w:vW)(hc:jbN w)(he:ErrT w)(s bm:Nat)(room:Int)(S:vT)(hs:jax w s bm room S)(hN:jdn S)(rt:vB)(u:vV)(cs:List Chg)(hu:RdC w u cs)(hnc:cs.length<=9223372036854775807)(hsc:∀ c∈cs,c.key.size<=9223372036854775807/\c.value.size<=9223372036854775807) :
  vQ 12 #[.pointer (some ⟨s,0,none⟩),.string rt,u] w (jBv w S (readR S rt)):=by
 have HR:=Hd (joC w s bm room S hs hN rt);have d7:=Hd (bB hc he);have l1:=Hd hs;have l2:=Hd (fun(l:vL) (hl:l.length<=9223372036854775807/\∀ p∈l,p.1.size<=9223372036854775807/\p.2.size<=9223372036854775807) (w2:vW) (v:vV) (hv:RdP w2 v l) (e:Ext w w2)=>jky w2 v u l cs hv (hu.ext e) hl.1 hnc hl.2 hsc)
 obtain⟨a,c,n1⟩:=hu.sl
 subst n1;have d1:=Hd (fun(P:PA) (k:Nat) (h:readR S rt=some (P,k))=>jna hN h)
 obtain⟨o,ho⟩:=vE (readR S rt)
 rw[<-ho]at HR d1 ⊢;clear hs hN hc he hu hsc ho;go_enter Tryz.func12,Tryz.ntmps12;go_wp2_with fail
 refine HR.o.mono ?_;rintro e w1 ⟨l3,hO⟩;have h9:=Hd l3;clear l3;cases o with
 | none =>
  obtain⟨v,rfl,rfl |⟨T,x,rfl⟩⟩:=hO
  ·go_wp2_with fail
   go_ret2;exact .inl ⟨4,by decide,fun _=>rfl,rfl,h9.o⟩
  ·go_wp2_with fail
   go_ret2;exact .inl ⟨4,by decide,fun _=>rfl,rfl,h9.o⟩
 | some Pk =>
 obtain⟨P,k0⟩:=Pk
 obtain⟨T,x,rfl,hM⟩:=hO
 have HM:=Hd (show PaO P (.iface T x) (jha w w1) w1 from⟨hM,fun z hz=>hz.2⟩);have hA:=d1.o P k0 rfl;have f1:=Hd hA;have o7:=jdp P;have d5:=hM.meth;have n2:∀ w,(Go.method (403+1) T x "guilloche/trie.entries").run Tryz.prog w=.ok (jff P,x) w:=d5.ent;have HC:=Hd (jw8 w1 w1 (hA.more vI) vI T x _ HM.o (ExtR w1));have l4:=bH (jiD P ⟨#[]⟩) hA.cnt;have i0:=jh4 P 2000 ⟨#[]⟩ hA.dp hA.sh
 obtain⟨l,hl⟩:=vE (entP P ⟨#[]⟩)
 rw[<-hl]at HC l4 i0;have i1:=Hd (show (l.length<=9223372036854775807)/\∀ p∈l,p.1.size<=9223372036854775807/\p.2.size<=9223372036854775807 from⟨by omega,fun p hp=>by have:=i0 p hp;have e:(⟨#[]⟩:vB).size=0:=rfl;omega⟩);have f2:=Hd (l2.o l i1.o);clear hM d5 hA l4 i0 hl d1 l2;go_wp2_with fail
 refine HC.o.mono ?_;rintro e w2 ⟨v,rfl,h1⟩;have H1:=Hd h1;have i2:=Hd (h9.o.trans h1.ext);have f3:=Hd (bB (HM.o.ext h1.ext) h1.ext.size);have HA:=Hd (f2.o w2 v h1.rd i2.o)
 obtain⟨a1,c1,hv⟩:=h1.sl
 subst hv;clear h1 n2 f2 HC;go_wp2_with fail
 refine HA.o.mono ?_;rintro e w3 d8;unfold jea at d8
 by_cases h0:ja8 l cs=0
 case neg =>
  rw[if_neg h0]at d8
  obtain⟨rfl,hE⟩:=d8
  have HX:=Hd (i2.o.trans hE)
  obtain⟨x0,i3⟩:=vE (ja8 l cs)
  have o8:=Hd i3.symm;rw[<-i3]at h0 ⊢;clear hE i3;go_wp2_with fail
  go_ret2;exact .inl ⟨x0,h0,fun h=>(by cases h),rfl,HX.o⟩
 rw[if_pos h0]at d8
 obtain⟨r,rfl,h3⟩:=d8
 have HK:=Hd (jil h0).1;have g2:=jcP h0
 obtain⟨m,hm⟩:=vE (jc8 (jdC l cs))
 rw[<-hm]at h3 g2;have l5:=Hd g2;have i4:=jaE g2;have f4:=Hd (show (m.length<=9223372036854775807)/\∀ p∈m,p.1.size<=9223372036854775807/\p.2.size<=9223372036854775807 from⟨by have:=i4.len;omega,fun p hp=>by have:=i4.size p hp;omega⟩);have l6:=Hd (i2.o.trans h3.ext);have f5:=Hd (bB (f3.o.1.ext h3.ext) (bH f3.o.2 h3.ext.size));have HV:=Hd (bB (ERow.rd (H1.o.mono h3.ext)) h3.rd)
 obtain⟨a2,c2,hr⟩:=h3.sl
 subst hr;have g3:=Hd (jlw w3 _ l (d7.o.1.ext l6.o) HV.o.1 HK.o)
 obtain⟨rm,l7⟩:=vE (shaB (jay l).text)
 rw[<-l7]at g3;clear h3 i4 g2 hm h0 HA H1 l7;go_wp2_with fail
 refine g3.o.mono ?_;rintro e w4 ⟨rfl,hE⟩;have l8:=Hd (l6.o.trans hE)
 by_cases hrt:rm=rt
 case neg =>
  have o9:=jb6 hrt;clear hE g3;go_wp2_with fail
  go_ret2;exact .inl ⟨4,by decide,fun _=>rfl,rfl,l8.o⟩
 subst hrt;have d2:=Hd (bB (f5.o.1.ext hE) (bH f5.o.2 hE.size));have l9:=Hd (jmj w4 _ _ l m (HV.o.1.ext hE) (HV.o.2.ext hE) i1.o.1 f4.o.1 i1.o.2 f4.o.2);clear hE g3;go_wp2_with fail
 refine l9.o.mono ?_;rintro e w5 ⟨dv,rfl,hd⟩;have HD:=Hd hd;have n3:=Hd (l8.o.trans hd.ext);have k5:=Hd (bB (d2.o.1.ext hd.ext) (bH d2.o.2 hd.ext.size));have i5:=jjQ HK.o l5.o;have m0:=jjP (jaE HK.o).len (jaE l5.o).len
 obtain⟨ds,i6⟩:=vE (jdz l m)
 rw[<-i6]at HD i5 m0;have i7:=Hd i5;have n4:=Hd m0
 obtain⟨a3,c3,m1⟩:=hd.sl
 rw[<-i6]at m1;subst m1;clear hd i5 i6 l9;have k6:=Hd HD.o.rdT;go_wp2_with fail
 go_loopw [8,56] (fun pv iv wr=>jw6 w5 (jha w w1) P ds pv iv wr) (fun _ iv _=>ds.length - (intOf iv).toNat)
 case atStart=>exact⟨0,T,x,jha w w1,by omega,rfl,rfl,k5.o.1,fun z hz=>.inl hz,(ExtR w5).mono (fun _ _ e=>e.elim)⟩
 case round =>
  obtain⟨k,Tk,xk,D,hk,rfl,rfl,b6,hD,c4⟩:=hrel
  by_cases hlt:k < ds.length
  ·rcases k6.o with⟨_,_,_,hz⟩ |⟨b,o,cd,hh,hb,hcd,hcell⟩
   ·rw[hz]at hlt;cases hlt
   cases hh
   obtain⟨p,hp⟩:∃ p,ds[k]?=some p:=⟨_,bA hlt⟩
   obtain⟨q1,q2,q3⟩:=hcell k p hp
   have g4:¬ jha w w1 b:=fun e=>by have h1:=HD.o.new b rfl;have h2:=d2.o.2;have h3:=e.2;omega
   have q1:=jaF q1 c4 g4;have q2:=jaF q2 c4 g4;have q3:=jaF q3 c4 g4;have K:p.bad=false:=by
    cases e:p.bad with
    | false=>rfl
    | true=>exact absurd (jrU hp e) (by rw[i7.o.fine];simp)
   have i8:=jia K;have b1:(k:Int) < (ds.length:Int):=vO
   have b2:=f1.o.takes vI ds i7.o.fine k;have a8:(ds.take (k+1)).foldl jbp P=jbp ((ds.take k).foldl jbp P) p:=by rw[jhG hp,fM];rfl
   obtain⟨Q,hQ⟩:=vE ((ds.take k).foldl jbp P)
   rw[<-hQ]at b6 b2 a8;have d6:=Hd (bB b2 (b2.step vI K));have c0:=Hd a8;have d5:=b6.at'.meth;have J:=Hd (bB b6 (bB hD c4))
   obtain⟨ky,vl,gn⟩:=p
   simp only at q1 q2 q3 i8;clear hcell hp hb hcd g4 K b2 a8 b6 hD c4 hQ;have p0:=jex Q;have p1:=jgC Q;have p2:∀ w,(Go.method (403+1) Tk xk "guilloche/trie.drop").run Tryz.prog w=.ok (jfc Q,xk) w:=d5.drop;have p3:∀ w,(Go.method (403+1) Tk xk "guilloche/trie.put").run Tryz.prog w=.ok (jjw Q,xk) w:=d5.put;clear d5;go_wp2_with fail
   have p4:=Hd i8;clear q1 q2 q3;refine vC (jft _ ky vO) fun w6 c5=>?_;have i9:=(Blk.new wr (.cells #[.string ky,.string vl,.bool gn] 50)).keeps c5 (fun e=>e);have f6:=((ExtR wr).alloc (.cells #[.string ky,.string vl,.bool gn] 50)).trans c5;have q1:w6.cell? ⟨wr.heap.size,1,none⟩=some (.string vl):=i9.cell (i:=1) vF;have q2:w6.cell? ⟨wr.heap.size,2,none⟩=some (.bool gn):=i9.cell (i:=2) vF;have b8:=Hd f6;have m2:(jaM ky).size<=900000:=by have:=jcJ ky;omega
   have m3:=Hd m2;clear c5 i9 f6 i8 m2;cases gn with
   | true =>
    have O:=Hd (jgO Q d6.o.1.va w6 Tk xk D (jaM ky) (J.o.1.ext b8.o) m3.o (jbL ky) (jbO _ _ _ d6.o.1.dp vI))
    obtain⟨pb,K⟩:=vE (jaM ky)
    have d9:=Hd K;rw[<-K]at O ⊢;clear K;go_wp2_with fail
    refine O.o.mono ?_;rintro e H ⟨v7,rfl,c6,c8⟩;have a0:(ds.take (k+1)).foldl jbp P=jbn Q pb:=by rw[c0.o,d9.o];rfl
    have c9:=d6.o.2.there;rw[show jbp Q ⟨ky,vl,true⟩=jbn Q pb by rw[d9.o];rfl]at c9
    obtain⟨T7,x7,rfl⟩:=c6.form c9
    have HF:=Hd (show PaO ((ds.take (k+1)).foldl jbp P) (.iface T7 x7) (Grow D w6 H) H from by rw[a0];exact PaTo.own c6 c8 (J.o.1.ext b8.o).lt);have j0:=Hd c8;clear c6 c8 a0 c9;go_wp2_with fail
    go_roundw
    case rel=>exact⟨k+1,T7,x7,_,by omega,by go_num,rfl,HF.o,fun z hz=>by
     rcases hz with hz | hz
     ·exact J.o.2.1 z hz
     ·exact .inr (bH J.o.2.2.size (bH b8.o.size hz.1)),J.o.2.2.trans' ((b8.o.mono (fun _ _ e=>e.elim)).trans j0.o) (fun z hz e=>(J.o.2.1 z e).resolve_right vO)⟩
    case measure=>exact vJ
   | false =>
    have O:=Hd (jlh Q d6.o.1.va w6 Tk xk D (jaM ky) vl (J.o.1.ext b8.o) m3.o (jbL ky) (jbO _ _ _ d6.o.1.dp vI))
    obtain⟨pb,K⟩:=vE (jaM ky)
    have d9:=Hd K;rw[<-K]at O ⊢;clear K;go_wp2_with fail
    refine O.o.mono ?_;rintro e H ⟨v7,rfl,c6,c8⟩;have a0:(ds.take (k+1)).foldl jbp P=putP Q pb vl:=by rw[c0.o,d9.o];rfl
    have c9:=d6.o.2.there;rw[show jbp Q ⟨ky,vl,false⟩=putP Q pb vl by rw[d9.o];rfl]at c9
    obtain⟨T7,x7,rfl⟩:=c6.form c9
    have HF:=Hd (show PaO ((ds.take (k+1)).foldl jbp P) (.iface T7 x7) (Grow D w6 H) H from by rw[a0];exact PaTo.own c6 c8 (J.o.1.ext b8.o).lt);have j0:=Hd c8;clear c6 c8 a0 c9;go_wp2_with fail
    go_roundw
    case rel=>exact⟨k+1,T7,x7,_,by omega,by go_num,rfl,HF.o,fun z hz=>by
     rcases hz with hz | hz
     ·exact J.o.2.1 z hz
     ·exact .inr (bH J.o.2.2.size (bH b8.o.size hz.1)),J.o.2.2.trans' ((b8.o.mono (fun _ _ e=>e.elim)).trans j0.o) (fun z hz e=>(J.o.2.1 z e).resolve_right vO)⟩
    case measure=>exact vJ
  ·obtain rfl:k=ds.length:=vO
   have hQ:=f1.o.takes vI ds i7.o.fine ds.length;rw[cF]at b6 hQ
   obtain⟨Q,m4⟩:=vE (ds.foldl jbp P)
   rw[<-m4]at b6 hQ;have hQ:=hQ.more (show 160+3 * ds.length<=400 by have:=n4.o;omega);have HQ:=Hd hQ;clear m4;have j1:Hid (Ext w wr):=(n3.o.trans' c4 (fun z hz e=>by have:=e.1;omega))
   obtain⟨W6,g5⟩:=vE (wr.alloc (.cells #[.slice none 0 0] 80))
   have c5:Ext wr W6:=by rw[g5];exact (ExtR wr).alloc _
   have j2:WrAt wr.heap.size wr.heap.size (.slice none 0 0) [] W6:=⟨bL _,by rw[g5];exact Blk.new wr _,fL _ _ _ _,fun b hb=>(by cases hb),fun _=>rfl⟩;have b3:=(hQ.top vI) wr W6 Tk xk D wr.heap.size (.slice none 0 0) [] (d7.o.1.ext j1.o) (d7.o.2.ext j1.o) b6 c5 j2 (by have:=hQ.cnt;have:([]:vM).length=0:=rfl;omega);rw[cM]at b3;have m5:=jdx Q hQ.there;have g6:=Hd (show (underP Q).length<=400 by have:=hQ.cnt;omega);have f7:=Hd (show newX S Q=textP Q :: freshU S (underP Q)from rfl)
   obtain⟨t,ht⟩:=vE (textP Q)
   obtain⟨U,hU⟩:=vE (underP Q)
   rw[<-ht, <-hU]at f7;rw[<-hU]at g6;rw[<-ht, <-hU]at b3;have k7:=Hd b3;have j3:=Hd (bB j2 (bB c5 g5));clear b6 hD c4 c5 j2 b3 ht hU g5 m5 hQ;go_wp2_with fail
   rw[<-j3.o.2.2];refine k7.o.mono ?_;rintro e H ⟨rfl,v7,g7⟩;have b0:=Hd (bB g7.at' (bB (j1.o.trans (g7.ext0 j3.o.1 j3.o.2.1 (bL _))) g7.at'.var.lt))
   obtain⟨g,hg⟩:=vE wr.heap.size
   rw[<-hg]at b0 ⊢;clear g7 hg
   obtain⟨a7,c7,m6⟩:=jaL b0.o.1.row
   obtain⟨n7,j4⟩:∃ n,n=U.length:=⟨_,rfl⟩
   have a9:=Hd b0.o.1.row;rw[<-j4]at m6 a9;subst m6;have j5:=Hd j4;have q7:=b0.o.1.var.cell (i:=0) (v:=.slice a7 n7 c7) vF;clear j4;have n5:(Instr.makeMap 82 none).run Tryz.prog (H.alloc (.cells #[.string t] 9))=.ok (.map (some (H.heap.size+1))) ((H.alloc (.cells #[.string t] 9)).alloc (.map #[] 0)):=by
    rw[<-bK H (.cells #[.string t] 9)];exact Tryz.makeMapSI _
   obtain⟨W8,e0⟩:=vE ((H.alloc (.cells #[.string t] 9)).alloc (.map #[] 0))
   obtain⟨mb,j6⟩:=vE (H.heap.size+1)
   rw[<-e0, <-j6]at n5;have m7:Ext H W8:=by rw[e0];exact ((ExtR H).alloc _).alloc _
   have m8:Blk W8 mb (.map (Tryz.ES.arr []) 0):=by
    rw[e0,j6, <-bK H (.cells #[.string t] 9)];exact Blk.new _ _
   have g8:SRow H (H.alloc (.cells #[.string t] 9)) (.slice (some ⟨H.heap.size,0,none⟩) 1 1) 1 [t]:=ORow.lit (n:=1) #[.string t] (ExtR H) vI rfl;have g8:SRow H W8 (.slice (some ⟨H.heap.size,0,none⟩) 1 1) 1 [t]:=by rw[e0];exact g8.mono ((ExtR _).alloc _)
   have n6:=Hd (show UpB H S mb t U 0 (.slice (some ⟨H.heap.size,0,none⟩) 1 1) W8 from⟨⟨1,g8⟩,fun e=>by injection e with e;have e:H.heap.size=mb:=e;omega,[],0,m8,fun y=>rfl⟩);have q7:=jaa q7 m7;have n8:=Hd (show H.heap.size<=mb by omega);clear e0 j6 m7 m8 g8;go_wp2_with fail
   go_loopw [19,86] (fun rv iv wr=>jw7 H S mb t U rv iv wr) (fun _ iv _=>U.length - (intOf iv).toNat)
   case atStart=>exact⟨0,by omega,rfl,n6.o⟩
   case round =>
    obtain⟨k,hk,rfl,m9⟩:=hrel
    by_cases hlt:k < U.length
    ·rcases Nat.eq_zero_or_pos n7 with h0 | h0
     ·have:=j5.o;omega
     obtain⟨b7,rfl⟩:=jlc a9.o vO
     obtain⟨x,hx⟩:∃ x,U[k]?=some x:=⟨_,bA hlt⟩
     obtain⟨⟨n,q⟩,d3,es,ck,h5,h6⟩:=m9
     obtain⟨ar,cr,j7⟩:=q.sl
     subst j7;have HX:=Hd q.ext;have qx:=jaa (jdf a9.o (j:=k) (u:=.string x) (by rw[cA,hx];rfl)) q.ext
     obtain⟨cn,e2⟩:=vE (cntB (U.take k) x)
     have p5:cn<=1000000:=by
      rw[e2];unfold cntB;refine bH iG ?_;rw[cB,dM];have:=g6.o;omega
     have e6:=h6 x;rw[<-e2]at e6;have j8:(Instr.lookup 82 (.map (some mb)) (.string x) false).run Tryz.prog wr=.ok (.int .i64 (cn:Int)) wr:=by
      have:=jcg Tryz.ES Tryz.uMapSI h5 (Tryz.zeroI wr) x.data.toList false
      rw[e6]at this;unfold cntV at this
      by_cases h0:cn=0
      ·rw[if_pos h0]at this;rw[h0];exact this
      ·rw[if_neg h0]at this;exact this
     obtain⟨a4,b4⟩:∃ es2,es2=jbo es x.data.toList (.int .i64 ((cn:Int)+1)) ck:=⟨_,rfl⟩
     obtain⟨b5,f8⟩:∃ ck2,ck2=(if (jaS es x.data.toList).isSome then ck else ck+1):=⟨_,rfl⟩
     obtain⟨W2,g9⟩:=vE (wr.putObj mb (.map (Tryz.ES.arr a4) b5))
     have j9:(Instr.mapUpdate 82 (.map (some mb)) (.string x) (.int .i64 ((cn:Int)+1))).run Tryz.prog wr=.ok () W2:=by
      have:=jb5 Tryz.ES Tryz.uMapSI h5 x.data.toList (.int .i64 ((cn:Int)+1))
      rw[<-b4, <-f8, <-g9]at this;exact this
     have B2:Blk W2 mb (.map (Tryz.ES.arr a4) b5):=by rw[g9];exact h5.put_same _
     have e7:∀ y:vB,jaS a4 y.data.toList=cntV (cntB (U.take (k+1)) y):=fun y=>by
      rw[b4,jcy,h6 y,jhG hx,jjM]
      by_cases hxy:y.data.toList=x.data.toList
      ·have n9:y=x:=ByteArray.ext (Array.ext' hxy)
       subst n9;rw[if_pos rfl,if_pos rfl, <-e2];unfold cntV;rw[if_neg vO];simp
      ·rw[if_neg hxy,if_neg (fun e=>hxy e.symm)];rfl
     have f9:∀ W3,Ext W2 W3->(Instr.lookup 82 (.map (some mb)) (.string x) false).run Tryz.prog W3=.ok (.int .i64 ((cn:Int)+1)) W3:=fun W3 e3=>by
      have:=jcg Tryz.ES Tryz.uMapSI (B2.keeps e3 (fun e=>e)) (Tryz.zeroI W3) x.data.toList false
      rw[b4,jcy,if_pos rfl]at this;exact this
     have K2:jag (fun z=>z=mb) wr W2:=by rw[g9];exact jag.onePut _ _ _
     have O2:SRow H W2 (.slice ar n cr) n (t :: freshU S (U.take k)):=q.keeps K2 (fun b hb e=>d3 (by rw[hb];exact congrArg some e)) (fun b hb e=>by have e:b=mb:=e;have:=n8.o;omega);have g0:=Hd (show n<=401 by
      have h1:=q.len;rw[cB,bO]at h1;have h2:=jgF S (U.take k);rw[dM]at h2
      have:=g6.o;omega)
     have g1:=Hd (show memB (ja7 (U.take k)) x=true↔cn≠0 from by
      rw[jeZ,jaQ,e2];unfold cntB;rw[<-jA,gG,bI]
      exact⟨fun hm=>⟨x,hm,rfl⟩,fun ⟨y,hy,e⟩=>by rw[<-show y=x from ByteArray.ext (Array.ext' e)];exact hy⟩)
     have h4:=Hd (jjZ S (U.take k) x);rw[<-jhG hx]at h4;have d4:=Hd (show ∀ W3,Ext W2 W3->∃ es ck,Blk W3 mb (.map (Tryz.ES.arr es) ck)/\∀ y:vB,jaS es y.data.toList=cntV (cntB (U.take (k+1)) y)from fun W3 e3=>⟨a4,b5,B2.keeps e3 (fun e=>e),e7⟩);have k1:=Hd (bB B2 e7);have k2:=Hd f9;have b9:=Hd O2;have a5:=Hd d3;have b1:(k:Int) < (n7:Int):=by have:=j5.o;omega
     have h7:=Hd (bB hk hlt);have m5:=g6.o;clear q d3 h5 h6 hx e2 e6 b4 f8 g9 B2 e7 f9 K2 O2 h0
     by_cases hc0:cn=0
     ·subst hc0
      have h8:=Hd (show memB (ja7 (U.take k)) x=false by
       cases hm:memB (ja7 (U.take k)) x with
       | false=>rfl
       | true=>exact absurd rfl (g1.o.1 hm))
      have o5:(Instr.lookup 82 (.map (some mb)) (.string x) false).run Tryz.prog wr=.ok (.int .i64 0) wr:=j8;have o6:(Instr.mapUpdate 82 (.map (some mb)) (.string x) (.int .i64 1)).run Tryz.prog wr=.ok () W2:=j9;have k8:Hid (∀ W3,Ext W2 W3->(Instr.lookup 82 (.map (some mb)) (.string x) false).run Tryz.prog W3=.ok (.int .i64 1) W3):=k2.o;clear j8 j9 k2;go_wp2_with fail
      refine vC (of_t _ _ [x] (by simp) (jbK W2 [x] 9) (d7.o.1.ext (b0.o.2.1.trans (b9.o.ext.alloc _)))) fun w8 X=>?_;rw[jc1];have X:=((ExtR W2).alloc (.cells #[.string x] 9)).trans X;have e4:=Hd X;have A:=Hd (jdF w8 s bm room S (shaB x) (l1.o.ext (b0.o.2.1.trans (b9.o.ext.trans X))));have k3:Hid (lackB S x=(atL S (shaB x).data.toList).isNone):=rfl
      obtain⟨ag,e5⟩:=vE (atL S (shaB x).data.toList)
      rw[<-e5]at A k3
      obtain⟨sx,e8⟩:=vE (shaB x)
      rw[<-e8]at A ⊢;clear X e5 e8 qx;cases ag with
      | some y =>
       obtain⟨ty,e9⟩:=vE y.2.2.text
       have d0:=Hd (show vQ 13 #[.pointer (some ⟨s,0,none⟩),.string sx] w8 (fun e w'=>e=.returned (.tuple #[.string y.2.2.text,.bool true])/\Ext w8 w')from A.o);go_wp2_with fail
       refine d0.o.mono ?_;rintro e w9 ⟨rfl,Z⟩;have E:=Hd (e4.o.trans Z);clear Z;rw[<-e9];clear e9;have f0:freshU S (U.take (k+1))=freshU S (U.take k):=by rw[h4.o];rw[if_neg (by rw[h8.o];simp),if_neg (by rw[k3.o];simp),bU]
       have HF:=Hd f0;clear f0;go_wp2_with fail
       go_roundw
       case rel=>exact⟨k+1,by have:=h7.o;omega,by go_num,⟨n,by rw[HF.o];exact b9.o.mono E.o⟩,a5.o,d4.o w9 E.o⟩
       case measure=>exact vJ
      | none =>
       have d0:=Hd (show vQ 13 #[.pointer (some ⟨s,0,none⟩),.string sx] w8 (fun e w'=>e=.returned (.tuple #[.string ⟨#[]⟩,.bool false])/\Ext w8 w')from A.o);go_wp2_with fail
       refine d0.o.mono ?_;rintro e w9 ⟨rfl,Z⟩;have E:=Hd (e4.o.trans Z);clear Z;have k9:=k8.o w9 E.o;have o0:n+1<=maxLen:=by have:=g0.o;unfold maxLen;omega
       have o1:(n+1) * 16<=140737488355328:=by have:=g0.o;omega
       go_wp2_with (at_builtin;refine jba Tryz.sStrs ((b9.o.mono E.o).mono ((ExtR w9).alloc _)) (.tmp 110) (.tmp 112) rfl rfl rfl (ja3 (Blk.new w9 _)) (news:=[.string x]) (by intro u hu;simp at hu;rcases hu with rfl;rfl) rfl rfl o0 o1 ?_;intro v' w' r1 r2 r3)
       have k4:SRow H w' v' (n+1) (t :: freshU S (U.take (k+1))):=by
        have e1:freshU S (U.take (k+1))=freshU S (U.take k)++[x]:=by rw[h4.o,if_neg (by rw[h8.o];simp),if_pos (by rw[k3.o];rfl)]
        unfold SRow;rw[e1, <-cQ,bZ];exact r1
       obtain⟨o2,o3,rfl⟩:=k4.sl
       have l0:=(k1.o.1.keeps E.o (fun e=>e)).lt;have n0:=Hd (bB k4 (show (Value.slice o2 (n+1) o3).ownBlock≠some mb from fun e=>by
        rcases r3 with r3 | r3
        ·exact a5.o (r3 ▸ e)
        ·have:=r3 mb e;rw[bK]at this;omega))
       have o4:=Hd (((k1.o.1.keeps E.o (fun e=>e)).alloc (.cells #[.string x] 9)).keeps r2 (fun e=>a5.o e));clear r1 r2 r3 k4 l0;go_wp2_with fail
       go_roundw
       case rel=>exact⟨k+1,by have:=h7.o;omega,by go_num,⟨n+1,n0.o.1⟩,n0.o.2,a4,b5,o4.o,k1.o.2⟩
       case measure=>exact vJ
     ·have p6:¬((cn:Int)+1=1):=vO
      have p7:(((cn:Int)+1) == 1)=false:=by simp;omega
      have h8:=Hd (g1.o.2 hc0);go_wp2_with fail
      refine vC (of_t _ _ [x] (by simp) (jbK W2 [x] 9) (d7.o.1.ext (b0.o.2.1.trans (b9.o.ext.alloc _)))) fun w8 X=>?_;rw[jc1];have X:=((ExtR W2).alloc (.cells #[.string x] 9)).trans X;have e4:=Hd X;have A:=Hd (jdF w8 s bm room S (shaB x) (l1.o.ext (b0.o.2.1.trans (b9.o.ext.trans X))))
      obtain⟨ag,e5⟩:=vE (atL S (shaB x).data.toList)
      rw[<-e5]at A
      obtain⟨sx,e8⟩:=vE (shaB x)
      rw[<-e8]at A ⊢;clear X e5 e8 qx j8 j9;have f0:freshU S (U.take (k+1))=freshU S (U.take k):=by rw[h4.o,if_pos h8.o,bU]
      have HF:=Hd f0;clear f0;cases ag with
      | some y =>
       obtain⟨ty,e9⟩:=vE y.2.2.text
       have d0:=Hd (show vQ 13 #[.pointer (some ⟨s,0,none⟩),.string sx] w8 (fun e w'=>e=.returned (.tuple #[.string y.2.2.text,.bool true])/\Ext w8 w')from A.o);go_wp2_with fail
       refine d0.o.mono ?_;rintro e w9 ⟨rfl,Z⟩;have E:=Hd (e4.o.trans Z);clear Z;rw[<-e9];clear e9;go_wp2_with fail
       go_roundw
       case rel=>exact⟨k+1,by have:=h7.o;omega,by go_num,⟨n,by rw[HF.o];exact b9.o.mono E.o⟩,a5.o,d4.o w9 E.o⟩
       case measure=>exact vJ
      | none =>
       have d0:=Hd (show vQ 13 #[.pointer (some ⟨s,0,none⟩),.string sx] w8 (fun e w'=>e=.returned (.tuple #[.string ⟨#[]⟩,.bool false])/\Ext w8 w')from A.o);go_wp2_with fail
       refine d0.o.mono ?_;rintro e w9 ⟨rfl,Z⟩;have E:=Hd (e4.o.trans Z);clear Z;have k9:=k2.o w9 E.o;go_wp2_with fail
       go_roundw
       case rel=>exact⟨k+1,by have:=h7.o;omega,by go_num,⟨n,by rw[HF.o];exact b9.o.mono E.o⟩,a5.o,d4.o w9 E.o⟩
       case measure=>exact vJ
    ·obtain rfl:k=U.length:=vO
     obtain⟨⟨n,q⟩, -, -⟩:=m9
     obtain⟨ar,cr,j7⟩:=q.sl
     subst j7;rw[cF]at q;have a6:=Hd q;have p8:¬((U.length:Int) < (n7:Int)):=by have:=j5.o;omega
     clear q;go_wp2_with fail
     go_ret2;refine .inr ⟨_,Q,fun h=>(by cases h),rfl,HQ.o,?_⟩;rw[f7.o];have hn:(t :: freshU S U).length=n:=by have:=a6.o.len;simpa using this
     rw[hn]
     exact⟨a6.o.sl,a6.o.own,b0.o.2.1.trans a6.o.ext,fun b hb=>bH b0.o.2.1.size (a6.o.new b hb)⟩
def jgX:vV:=.iface 28 (.int .i64 4)
theorem jfq(w:vW):vQ 37 #[.nilIface,jgX] w fun e w'=>e=.returned (.bool false)/\w=w':=by
 unfold jgX;have o:∀ w,(binOp .eql 89 .nilIface (.iface 28 (.int .i64 4))).run Tryz.prog w=.ok (.bool false) w:=fun w=>by kernel_rfl
 go_enter Tryz.func37,Tryz.ntmps37;go_wp2_with fail
 go_ret
 exact⟨rfl,rfl⟩
theorem jBS(w:vW):vQ 64 #[jgX,jgX,.bool true] w fun e w'=>e=.returned (.bool true)/\w=w':=by
 have o:∀ w,(binOp .eql 89 jgX jgX).run Tryz.prog w=.ok (.bool true) w:=fun w=>by kernel_rfl
 unfold jgX at *;go_enter Tryz.func64,Tryz.ntmps64;go_wp2_with fail
 refine wp_loop_rounds 1 ?_;rw[rounds_succ];go_wp2_with fail
 go_ret
 exact⟨rfl,rfl⟩
theorem jfP(w:vW):vQ 37 #[jgX,jgX] w fun e w'=>e=.returned (.bool true)/\w=w':=by
 have q:=Hd (jBS w);have z:∀ w,(binOp .eql 89 jgX .nilIface).run Tryz.prog w=.ok (.bool false) w:=fun w=>by kernel_rfl
 unfold jgX at *;have E:∀ w,(callFunc 63 #[.iface 28 (.int .i64 4)]).run Tryz.prog w=.ok (.value (.iface 161 (.agg #[.pointer (some ⟨3,28,none⟩)]))) w:=fun w=>by kernel_rfl
 have A:∀ w,(callFunc 185 #[.agg #[.pointer (some ⟨3,28,none⟩)]]).run Tryz.prog w=.ok (.value (.bool true)) w:=fun w=>by kernel_rfl
 have H:=Tryz.isMethodComparable 403;go_enter Tryz.func37,Tryz.ntmps37;go_wp2_with fail
 refine q.o.mono ?_;rintro e w1 ⟨rfl,rfl⟩;go_wp2_with fail
 go_ret
 exact⟨rfl,rfl⟩
def jbA(S:vT)(r:vB):Bool:=(atL S r.data.toList).isSome
def KnR(w:vW)(S:vT)(rs:vM)(iv:vV)(wr:vW):Prop:=∃ i:Nat,i<=rs.length/\iv=.int .i64 i/\Ext w wr/\∀ r∈rs.take i,jbA S r=true
theorem jen(w:vW)(s bm:Nat)(room:Int)(S:vT)(hs:jax w s bm room S)(v:vV)(rs:vM)(hv:RdS w v rs)(hn:rs.length<=1000) :
  vR 38 #[.pointer (some ⟨s,0,none⟩),v] w (if rs.all (jbA S)then .nilIface else jgX):=by
 have HS:=Hd hs;have HV:=Hd hv
 obtain⟨a,c,rfl,O⟩:=hv.slice
 have a0:=Hd O;clear hs hv O;go_enter Tryz.func38,Tryz.ntmps38;go_wp2_with fail
 go_loopw [11] (fun iv wr=>KnR w S rs iv wr) (fun iv _=>rs.length - (intOf iv).toNat)
 case atStart=>exact⟨0,bY _,rfl,ExtR w,by simp⟩
 case round =>
  obtain⟨i,hi,rfl,H,z⟩:=hrel
  have J:=Hd H;have HA:=Hd z;clear H z
  by_cases hlt:i < rs.length
  ·have b1:(i:Int) < (rs.length:Int):=vO
   obtain⟨r,hr⟩:∃ r,rs[i]?=some r:=⟨_,bA hlt⟩
   obtain⟨b,o,rfl,q⟩:=a0.o i r hr
   have q1:=jaa q J.o;have e:=fun Z (h:jax Z s bm room S)=>jdF Z s bm room S r h;have HR:=Hd hr;clear q hr;cases hy:atL S r.data.toList with
   | none =>
    have hF:¬(rs.all (jbA S)=true):=by
     rw[dN];intro h
     have:=h r (bJ HR.o)
     unfold jbA at this;rw[hy]at this;cases this
    rw[hy]at e;have A:=Hd e;clear e hy;go_wp2_with fail
    refine vH (A.o wr (HS.o.ext J.o)) fun Z H=>?_;rw[show optV ((none:Option Nd5).map (·.2.2.text))=.tuple #[.string ⟨#[]⟩,.bool false]from rfl];have E:=Hd (J.o.trans H);go_wp2_with fail
    go_ret
    exact⟨rfl,E.o⟩
   | some y =>
    have Q:jbA S r=true:=by unfold jbA;rw[hy];rfl
    rw[hy]at e;have A:=Hd e;have a1:=Hd Q;clear e hy Q;go_wp2_with fail
    refine vH (A.o wr (HS.o.ext J.o)) fun Z H=>?_;rw[show optV ((some y:Option Nd5).map (·.2.2.text))=.tuple #[.string y.2.2.text,.bool true]from rfl];have E:=Hd (J.o.trans H)
    obtain⟨tx,X⟩:=vE y.2.2.text
    rw[<-X];clear X;have a3:i<=1000:=vO
    go_wp2_with fail
    go_roundw
    case rel=>exact⟨i+1,by omega,by go_num,E.o,by rw[cE,HR.o];intro x K;rcases bT.1 K with K | K;exact HA.o x K;simp at K;rw[K];exact a1.o⟩
    case measure=>exact vJ
  ·have b1:¬(i:Int) < (rs.length:Int):=vO
   have a2:i=rs.length:=vO
   have hF:rs.all (jbA S)=true:=by
    rw[dN];have h:=HA.o;subst a2;rw[cF]at h;exact h
   clear HA;go_wp2_with fail
   go_ret
   exact⟨rfl,J.o⟩
end
end Go.Proofs.YtepbencaoiompaaGreatDoor
