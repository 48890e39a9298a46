/- Parts of the proof, one behind the other: TrV, TrW, TrX, TrY, TrZ, TrZb, ComA, ComB, TriB, WayE, FolA, TriC, FolB, TWorks, TWorksB, NewA, StepPl, TGonePl, NodesR, TGone, FewC. Each is under no condition but those that it states. -/
import Derived.Test.YtpaacnhboilkkaaGreatDoorPh47
import Derived.Test.YtpaacnhboilkkaaGreatDoorPh35
import Derived.Test.YtpaacnhboilkkaaGreatDoorPh36
import Derived.Test.YtpaacnhboilkkaaGreatDoorPh38
import Derived.Test.YtpaacnhboilkkaaGreatDoorPh42
import Derived.Test.YtpaacnhboilkkaaGreatDoorPh46
import Derived.Test.YtpaacnhboilkkaaGreatDoorPh37
import Derived.Test.YtpaacnhboilkkaaGreatDoorPh43
namespace Go.Proofs.YtpaacnhboilkkaaGreatDoor
set_option linter.unusedSimpArgs false
set_option linter.unusedVariables false
set_option maxRecDepth 100000
set_option maxHeartbeats 16000000
section
open Go Go.RowKit
attribute [local go_sem] Oper.semAt_some
theorem WrAt.push{z g:Nat}{v v':Value}{Tx New:List ByteArray}{W w6:World}(h:WrAt z g v Tx W){n:Nat}(hn:n=(Tx++New).length)(r1:w6.ownsRow 0 9 1 v' n ((Tx++New).map Value.string))(r2:jac (fun b=>v.ownBlock=some b) W w6)(r3:v'.ownBlock=v.ownBlock∨∀ b,v'.ownBlock=some b→W.heap.size≤b)(hz:z≤W.heap.size)(h0:New≠[]) :
  WrTo z g v W (w6.setCell ⟨g,0,none⟩ v') v' (Tx++New):=by
 subst hn;have hV6:=h.var.keeps r2 (fun e=>(h.own g e).2.1 rfl);have K7:=jac.oneSet w6 ⟨g,0,none⟩ v';have hgs:=h.var.lt;have hsub:∀ b,v'.ownBlock=some b→v.ownBlock=some b∨W.heap.size≤b:=fun b hb=>by
  rcases r3 with r3 | r3
  ·exact .inl (r3 ▸ hb)
  ·exact .inr (r3 b hb)
 have hne:∀ b,v'.ownBlock=some b→b≠g:=fun b hb=>by
  rcases hsub b hb with e | e
  ·exact (h.own b e).2.1
  ·omega
 refine⟨⟨h.lo,hV6.set_same (i:=0) _,jaG r1 K7 (fun b hb e=>hne b hb e),fun b hb=>⟨?_,hne b hb,Nat.lt_of_lt_of_le (jfy r1 hb) K7.size⟩,fun e=>?_⟩,?_,hsub⟩
 ·rcases hsub b hb with e | e
  ·exact (h.own b e).1
  ·omega
 ·exact absurd (List.append_eq_nil_iff.1 e).2 h0
 ·exact ((r2.mono (fun x _ e=>.inr e):jac (fun b=>b=g∨v.ownBlock=some b) W w6)).trans' K7 (fun x hx e=>.inl e)
theorem WrAt.sameTo{z g:Nat}{v:Value}{Tx:List ByteArray}{W:World}(h:WrAt z g v Tx W):WrTo z g v W (W.setCell ⟨g,0,none⟩ v) v Tx:=by
 have K:=jac.oneSet W ⟨g,0,none⟩ v;have hB:=h.var.set_same (i:=0) v
 exact⟨⟨h.lo,hB,jaG h.row K (fun b hb e=>(h.own b hb).2.1 e),fun b hb=>⟨(h.own b hb).1,(h.own b hb).2.1,Nat.lt_of_lt_of_le (h.own b hb).2.2 K.size⟩,h.nil⟩,K.mono (fun x _ e=>.inl e),fun b hb=>.inl hb⟩
theorem WrAt.same{z g:Nat}{v:Value}{Tx:List ByteArray}{W:World}(h:WrAt z g v Tx W):WrAt z g v Tx (W.setCell ⟨g,0,none⟩ v):=h.sameTo.at'
theorem jlQ{W:World}{T:TypeId}{sz:Nat}{a:Option Addr}{n c:Nat}{xs:List Value}(h:W.ownsRow 0 T sz (.slice a n c) n xs)(h0:n≠0):∃ b,a=some ⟨b,0,none⟩:=by
 obtain⟨_,⟨h1,h2⟩ |⟨g,cap,cur,h2,_⟩⟩:=h
 ·injection h1 with _ h1 _
  exact absurd h1 h0
 ·injection h2 with h2 _ _
  exact⟨g,h2⟩
theorem jgM{W:World}{T:TypeId}{b n c:Nat}{xs:List Value}(h:W.ownsRow 0 T 1 (.slice (some ⟨b,0,none⟩) n c) n xs){j:Nat}{u:Value}(hj:xs[j]?=some u):W.cell? ⟨b,j,none⟩=some u:=by
 have hl:=(List.getElem?_eq_some_iff.1 hj).1;have hx:=h.1;rw[h.cellAt j (by omega),hj]
theorem jsr(t:ByteArray)(h:¬ t.size < 32):ji7 (refB t)=some (shaB t):=by
 rw[jlH];unfold refB;rw[if_neg h];exact jfj (jb3 _)
theorem jlI(t:ByteArray)(h:t.size < 32):ji7 (refB t)=none:=by
 unfold refB;rw[if_pos h];cases e:ji7 t with
 | none=>rfl
 | some x =>
  have:=(juH (y:=t) (h:=x) e).size
  omega
theorem jqX(t:ByteArray):(refB t).size≤33:=by
 unfold refB;split
 ·omega
 ·exact Nat.le_of_eq (jfw.size ⟨_,jb3 t,rfl⟩)
theorem jqJ{W:World}{T:TypeId}{sz:Nat}{a:Option Addr}{n c:Nat}{xs:List Value}(h:W.ownsRow 0 T sz (.slice a n c) n xs):n≤c:=by
 obtain⟨_,⟨h1,h2⟩ |⟨g,cap,cur,h2,h3,h4,h5,h6⟩⟩:=h
 ·omega
 ·injection h2 with _ _ h2
  omega
theorem joC(P:PA)(hT:TopC P)(hz:(textP P).size < 32)(w0 W:World)(T:TypeId)(x:Value)(D:Nat→Prop)(g:Nat)(v:Value)(Tx:List ByteArray)(hc:jch w0)(he:ErrT w0)(hP:PaO P (.iface T x) D w0)(hE:Ext w0 W)(hW:WrAt w0.heap.size g v Tx W)(hl:Tx.length+cntP P≤100000) :
  Calls Tryz.prog 275 #[.pointer (some ⟨g,0,none⟩),.iface T x] W (FoP w0.heap.size g v W (.string (refB (textP P))) (Tx++underP P)):=by
 obtain⟨W1,hW1⟩:∃ W1,W1=W.alloc (.cells #[.slice none 0 0] 128):=⟨_,rfl⟩
 have hE1:Ext W W1:=by rw[hW1];exact (ExtR W).alloc _
 have hw1:WrAt w0.heap.size W.heap.size (.slice none 0 0) [] W1:=⟨hE.size,by rw[hW1];exact Blk.new W _,World.ownsRow_nil _ _ _ _,fun b hb=>(by cases hb),fun _=>rfl⟩;have htop:=hT w0 W1 T x D W.heap.size (.slice none 0 0) [] hc he hP (hE.trans hE1) hw1 (by have:([]:List ByteArray).length=0:=rfl;omega);rw[List.nil_append]at htop;have HTOP:=Hd htop;clear htop;have HW1:=Hd hW1;have hw0:=HW1;have HG:=Hd hW;have HWR:=Hd (And.intro hw1 (And.intro hE1 hE));have hC1:=hc;have HREF:=Hd (fun w (e:Ext w0 w)=>ju8 w (textP P) (hc.ext e));have HASH:=Hd (fun w=>jg8 w (refB (textP P)) (by have:=jqX (textP P);omega));rw[jlI _ hz]at HASH;have hul:Tx.length+(underP P).length≤100000:=by
  cases hn:P.isNil with
  | true=>rw[jbA hn];show Tx.length+0≤_;omega
  | false=>have:=jek P hn;omega
 have HUL:=Hd hul
 obtain⟨U,hU⟩:∃ U,U=underP P:=⟨_,rfl⟩
 obtain⟨t,ht⟩:∃ t,t=textP P:=⟨_,rfl⟩
 rw[←ht, ←hU]at HTOP;rw[←ht]at HREF HASH ⊢;rw[←hU]at HUL ⊢;clear hT hz hc he hP hE hW hl hE1 hw1 hul hU ht hW1 hw0 hC1;go_enter Tryz.func275,Tryz.ntmps275;go_wp2_with fail
 rw[←HW1.o];refine HTOP.o.mono ?_;rintro e w2 ⟨rfl,v2,hT2⟩;have hgh:g≠W.heap.size:=by have:=HG.o.var.lt;omega
 have hT2x:=hT2.ext0 HWR.o.1 (HWR.o.2.2.trans HWR.o.2.1) (Nat.le_refl _);have hg2:WrAt w0.heap.size g v Tx w2:=(HG.o.ext HWR.o.2.1).off hT2.kp (fun e=>e.elim hgh (fun e=>by cases e)) (fun b hb e=>e.elim (fun e=>by have:=(HG.o.own b hb).2.2;omega) (fun e=>by cases e));have hk2:Ext W w2:=HWR.o.2.1.trans' hT2.kp (fun x hx e=>e.elim (fun e=>by omega) (fun e=>by cases e));have HSUB:=Hd (show ∀ b,v2.ownBlock=some b→W.heap.size≤b from fun b hb=>(hT2.sub b hb).elim (fun e=>by cases e) (fun e=>Nat.le_trans HWR.o.2.1.size e));have HT2:=Hd (And.intro hT2.at' (And.intro hg2 (And.intro hk2 hT2x)));clear hT2 hg2 hk2 hT2x
 obtain⟨h,hh⟩:∃ h,h=W.heap.size:=⟨_,rfl⟩
 have HGH:=Hd (And.intro hgh hh);rw[←hh]at HT2 ⊢;clear hgh hh;go_wp2_with fail
 refine (HREF.o w2 HT2.o.2.2.2).mono ?_;rintro e w3 ⟨rfl,hE3⟩;have HE3:=Hd hE3;clear hE3;go_wp2_with fail
 refine (HASH.o w3).mono ?_;rintro e w4 ⟨rfl,hE4⟩;have hE4:=HE3.o.trans hE4;have HT4:=Hd (And.intro (HT2.o.1.ext hE4) (And.intro (HT2.o.2.1.ext hE4) (HT2.o.2.2.1.trans hE4)));clear hE4;unfold optV;go_wp2_with fail
 obtain⟨i0,hi0,hz0,hz1,hz2⟩:=info_parts Tryz.infoStr
 obtain⟨a1,c1,hv1⟩:=jay HT4.o.2.1.row
 obtain⟨n1,hn1⟩:∃ n,n=List.length Tx:=⟨_,rfl⟩
 rw[←hn1]at hv1;subst hv1;have HL1:=Hd hn1;have HR1:=Hd (show World.ownsRow w4 0 9 1 (.slice a1 n1 c1) n1 (List.map Value.string Tx) by have h9:=HT4.o.2.1.row;rw[←hn1]at h9;exact h9);have HCAP:=Hd (jqJ HR1.o);have QG:=Hd (HT4.o.2.1.var.cell (i:=0) (v:=.slice a1 n1 c1) (by rfl));clear hn1
 by_cases hU0:U=[]
 ·have hv2:=HT4.o.1.nil hU0
  subst hv2;have QH:=Hd (HT4.o.1.var.cell (i:=0) (v:=.slice none 0 0) (by rfl));have HU0:=Hd hU0;clear hU0;refine jar [0,1,2,3,4,5,6,7,8,9,10,11,12] [9,12] (Ext) ExtR ExtT (by kernel_rfl) (by kernel_rfl) (by kernel_rfl) ?_;iterate 2 (refine jah _ rfl (by kernel_rfl) rfl rfl (fun K hK=>?_);go_big_quiet_op;refine hK _ ?_;clear hK K)
  refine jbw _ ((.pointer (some ⟨g,0,none⟩))) rfl (by kernel_rfl) rfl (fun w1=>by kernel_rfl) ?_;simp only[Act.put,sA,sB,sC]
  (refine jah _ rfl (by kernel_rfl) rfl rfl (fun K hK=>?_);go_big_quiet_op;refine hK _ ?_;clear hK K)
  refine jaB ⟨g,0,none⟩ _ rfl (by kernel_rfl) rfl rfl (fun w1 h1=>jav (fun w=>by kernel_rfl) (jaa QG.o ((jak _).trans h1))) ?_;simp only[Act.put,sA,sB,sC]
  (refine jah _ rfl (by kernel_rfl) rfl rfl (fun K hK=>?_);go_big_quiet_op;refine hK _ ?_;clear hK K)
  refine jbw _ ((.pointer (some ⟨h,0,none⟩))) rfl (by kernel_rfl) rfl (fun w1=>by kernel_rfl) ?_;simp only[Act.put,sA,sB,sC]
  (refine jah _ rfl (by kernel_rfl) rfl rfl (fun K hK=>?_);go_big_quiet_op;refine hK _ ?_;clear hK K)
  refine jaB ⟨h,0,none⟩ _ rfl (by kernel_rfl) rfl rfl (fun w1 h1=>jav (fun w=>by kernel_rfl) (jaa QH.o ((jak _).trans h1))) ?_;simp only[Act.put,sA,sB,sC];refine jba _ rfl (by kernel_rfl) rfl (fun w5 he K hK=>?_);refine jcH (v:=.slice a1 n1 c1) (w':=w5) (jeu (jcZ (i:=i0) Tryz.uStrs hi0 a1 n1 c1 HCAP.o 0 w5) (by kernel_rfl)) (hK _ _ ?_);have HX5:=Hd ((jak _).trans he);clear hK K he;simp only[Act.put,sA,sB,sC];refine jbw _ ((.pointer (some ⟨g,0,none⟩))) rfl (by kernel_rfl) rfl (fun w1=>by kernel_rfl) ?_;simp only[Act.put,sA,sB,sC]
  (refine jah _ rfl (by kernel_rfl) rfl rfl (fun K hK=>?_);go_big_quiet_op;refine hK _ ?_;clear hK K)
  refine jba _ rfl (by kernel_rfl) rfl (fun w8 he8 K hK=>?_);have hg8:=HT4.o.2.1.ext (HX5.o.trans he8);have q8:w8.cell? ⟨g,0,none⟩=some (.slice a1 n1 c1):=hg8.var.cell (i:=0) (by rfl);have f8:w8.frozen? ⟨g,0,none⟩=false:=hg8.var.frozen;have hs8:WrAt w0.heap.size g (.slice a1 n1 c1) Tx (w8.setCell ⟨g,0,none⟩ (.slice a1 n1 c1)):=hg8.same;have H8:=Hd (And.intro hs8 (And.intro (HX5.o.trans he8) hg8));clear hg8 hs8 he8;go_simp;refine hK _ _ ?_;clear hK K q8 f8;refine jbh (by kernel_rfl) (fun w7 he=>?_);have H9:=Hd (H8.o.1.ext he);have HE9:=Hd he;clear he;go_wp2_with fail
  go_ret;rw[HU0.o,List.append_nil]
  exact⟨rfl,_,(WrTo.refl HG.o (HT4.o.2.2.trans H8.o.2.1)).trans ((H8.o.2.2.sameTo).ext HE9.o)⟩
 ·obtain⟨a2,c2,hv2⟩:=jay HT4.o.1.row
  have hr2:=HT4.o.1.row
  obtain⟨n2,hn2⟩:∃ n,n=List.length U:=⟨_,rfl⟩
  rw[←hn2]at hv2 hr2;rw[hv2]at hr2
  obtain⟨b2,rfl⟩:=jlQ hr2 (fun e=>hU0 (List.eq_nil_of_length_eq_zero (by omega)))
  subst hv2;have HR2:=Hd hr2;have HLN:=Hd hn2.symm;have HU0:=Hd hU0;have HBD:=Hd (show n1+n2≤200000 by have:=HUL.o;have:=HL1.o;omega);have QH:=Hd (HT4.o.1.var.cell (i:=0) (v:=.slice (some ⟨b2,0,none⟩) n2 c2) (by rfl));clear hU0 hr2 hn2;refine jar [0,1,2,3,4,5,6,7,8,9,10,11,12] [9,12] (Ext) ExtR ExtT (by kernel_rfl) (by kernel_rfl) (by kernel_rfl) ?_;iterate 2 (refine jah _ rfl (by kernel_rfl) rfl rfl (fun K hK=>?_);go_big_quiet_op;refine hK _ ?_;clear hK K)
  refine jbw _ ((.pointer (some ⟨g,0,none⟩))) rfl (by kernel_rfl) rfl (fun w1=>by kernel_rfl) ?_;simp only[Act.put,sA,sB,sC]
  (refine jah _ rfl (by kernel_rfl) rfl rfl (fun K hK=>?_);go_big_quiet_op;refine hK _ ?_;clear hK K)
  refine jaB ⟨g,0,none⟩ _ rfl (by kernel_rfl) rfl rfl (fun w1 h1=>jav (fun w=>by kernel_rfl) (jaa QG.o ((jak _).trans h1))) ?_;simp only[Act.put,sA,sB,sC]
  (refine jah _ rfl (by kernel_rfl) rfl rfl (fun K hK=>?_);go_big_quiet_op;refine hK _ ?_;clear hK K)
  refine jbw _ ((.pointer (some ⟨h,0,none⟩))) rfl (by kernel_rfl) rfl (fun w1=>by kernel_rfl) ?_;simp only[Act.put,sA,sB,sC]
  (refine jah _ rfl (by kernel_rfl) rfl rfl (fun K hK=>?_);go_big_quiet_op;refine hK _ ?_;clear hK K)
  refine jaB ⟨h,0,none⟩ _ rfl (by kernel_rfl) rfl rfl (fun w1 h1=>jav (fun w=>by kernel_rfl) (jaa QH.o ((jak _).trans h1))) ?_;simp only[Act.put,sA,sB,sC];refine jba _ rfl (by kernel_rfl) rfl (fun w5 he K hK=>?_);have hX5:=(jak _).trans he;refine jdC w5 (.tmp 37) (.tmp 41) 34 rfl 9 i0 _ 1 16 Tryz.uStrs hi0 hz0 hz1 hz2 rfl (by decide) (.slice a1 n1 c1) n1 _ rfl (jbd HR1.o hX5) ⟨b2,0,none⟩ n2 c2 (U.map Value.string) rfl (by rw[List.length_map,HLN.o,Nat.mul_one]) (fun j u hj=>by rw[Addr.add_lit,Nat.zero_add];exact (jgM (jbd HR2.o hX5) hj)) (by intro u hu;obtain⟨y,_,rfl⟩:=List.mem_map.1 hu;rfl) (by have:=HBD.o;unfold maxLen;omega) (by have:=HBD.o;omega) ?_;intro v' w6 r1 r2 r3;have HA:=Hd (And.intro hX5 (And.intro r1 (And.intro r2 r3)))
  obtain⟨a',c',hv'⟩:=jay r1
  subst hv';refine hK _ _ ?_;clear hK K he hX5 r1 r2 r3;simp only[Act.put,sA,sB,sC];refine jbw _ ((.pointer (some ⟨g,0,none⟩))) rfl (by kernel_rfl) rfl (fun w1=>by kernel_rfl) ?_;simp only[Act.put,sA,sB,sC]
  (refine jah _ rfl (by kernel_rfl) rfl rfl (fun K hK=>?_);go_big_quiet_op;refine hK _ ?_;clear hK K)
  refine jba _ rfl (by kernel_rfl) rfl (fun w8 he8 K hK=>?_)
  obtain⟨hX5,r1,r2,r3⟩:=HA.o
  have hg5:=HT4.o.2.1.ext hX5;have hz5:w0.heap.size≤w5.heap.size:=Nat.le_trans hg5.lo (Nat.le_of_lt hg5.var.lt);have hp:=hg5.push (n:=n1+n2) (by rw[List.length_append, ←HL1.o,HLN.o]) (by rw[List.map_append];exact jbd r1 he8) (r2.trans (he8.mono (fun _ _ e=>e.elim))) r3 hz5 HU0.o;have hg8:=(hg5.var.keeps r2 (fun e=>(hg5.own g e).2.1 rfl)).keeps he8 (fun e=>e);have q8:w8.cell? ⟨g,0,none⟩=some (.slice a1 n1 c1):=hg8.cell (i:=0) (by rfl);have f8:w8.frozen? ⟨g,0,none⟩=false:=hg8.frozen;have H8:=Hd (And.intro hp hX5);clear hX5 r1 r2 r3 hg5 hz5 hp hg8 he8;go_simp;refine hK _ _ ?_;clear hK K q8 f8;refine jbh (by kernel_rfl) (fun w7 he=>?_);have HE9:=Hd he;clear he;go_wp2_with fail
  go_ret
  exact⟨rfl,_,((WrTo.refl HG.o (HT4.o.2.2.trans H8.o.2)).trans H8.o.1).ext HE9.o⟩
theorem jtp(P:PA)(hT:TopC P)(hz:¬(textP P).size < 32)(w0 W:World)(T:TypeId)(x:Value)(D:Nat→Prop)(g:Nat)(v:Value)(Tx:List ByteArray)(hc:jch w0)(he:ErrT w0)(hP:PaO P (.iface T x) D w0)(hE:Ext w0 W)(hW:WrAt w0.heap.size g v Tx W)(hl:Tx.length+cntP P≤100000) :
  Calls Tryz.prog 275 #[.pointer (some ⟨g,0,none⟩),.iface T x] W (FoP w0.heap.size g v W (.string (refB (textP P))) (Tx++(textP P :: underP P))):=by
 obtain⟨W1,hW1⟩:∃ W1,W1=W.alloc (.cells #[.slice none 0 0] 128):=⟨_,rfl⟩
 have hE1:Ext W W1:=by rw[hW1];exact (ExtR W).alloc _
 have hw1:WrAt w0.heap.size W.heap.size (.slice none 0 0) [] W1:=⟨hE.size,by rw[hW1];exact Blk.new W _,World.ownsRow_nil _ _ _ _,fun b hb=>(by cases hb),fun _=>rfl⟩;have htop:=hT w0 W1 T x D W.heap.size (.slice none 0 0) [] hc he hP (hE.trans hE1) hw1 (by have:([]:List ByteArray).length=0:=rfl;omega);rw[List.nil_append]at htop;have HTOP:=Hd htop;clear htop;have HW1:=Hd hW1;have hw0:=HW1;have HG:=Hd hW;have HWR:=Hd (And.intro hw1 (And.intro hE1 hE));have hC1:=hc;have HREF:=Hd (fun w (e:Ext w0 w)=>ju8 w (textP P) (hc.ext e));have HASH:=Hd (fun w=>jg8 w (refB (textP P)) (by have:=jqX (textP P);omega));rw[jsr _ hz]at HASH;have hul:Tx.length+(underP P).length≤100000:=by
  cases hn:P.isNil with
  | true=>rw[jbA hn];show Tx.length+0≤_;omega
  | false=>have:=jek P hn;omega
 have HUL:=Hd hul
 obtain⟨U,hU⟩:∃ U,U=underP P:=⟨_,rfl⟩
 obtain⟨t,ht⟩:∃ t,t=textP P:=⟨_,rfl⟩
 rw[←ht, ←hU]at HTOP;rw[←ht]at HREF HASH ⊢;rw[←hU]at HUL ⊢;clear hT hz hc he hP hE hW hl hE1 hw1 hul hU ht hW1 hw0 hC1;go_enter Tryz.func275,Tryz.ntmps275;go_wp2_with fail
 rw[←HW1.o];refine HTOP.o.mono ?_;rintro e w2 ⟨rfl,v2,hT2⟩;have hgh:g≠W.heap.size:=by have:=HG.o.var.lt;omega
 have hT2x:=hT2.ext0 HWR.o.1 (HWR.o.2.2.trans HWR.o.2.1) (Nat.le_refl _);have hg2:WrAt w0.heap.size g v Tx w2:=(HG.o.ext HWR.o.2.1).off hT2.kp (fun e=>e.elim hgh (fun e=>by cases e)) (fun b hb e=>e.elim (fun e=>by have:=(HG.o.own b hb).2.2;omega) (fun e=>by cases e));have hk2:Ext W w2:=HWR.o.2.1.trans' hT2.kp (fun x hx e=>e.elim (fun e=>by omega) (fun e=>by cases e));have HSUB:=Hd (show ∀ b,v2.ownBlock=some b→W.heap.size≤b from fun b hb=>(hT2.sub b hb).elim (fun e=>by cases e) (fun e=>Nat.le_trans HWR.o.2.1.size e));have HT2:=Hd (And.intro hT2.at' (And.intro hg2 (And.intro hk2 hT2x)));clear hT2 hg2 hk2 hT2x
 obtain⟨h,hh⟩:∃ h,h=W.heap.size:=⟨_,rfl⟩
 have HGH:=Hd (And.intro hgh hh);rw[←hh]at HT2 ⊢;clear hgh hh;go_wp2_with fail
 refine (HREF.o w2 HT2.o.2.2.2).mono ?_;rintro e w3 ⟨rfl,hE3⟩;have HE3:=Hd hE3;clear hE3;go_wp2_with fail
 refine (HASH.o w3).mono ?_;rintro e w4 ⟨rfl,hE4⟩;have hE4:=HE3.o.trans hE4;have HT4:=Hd (And.intro (HT2.o.1.ext hE4) (And.intro (HT2.o.2.1.ext hE4) (HT2.o.2.2.1.trans hE4)));clear hE4;unfold optV
 obtain⟨i0,hi0,hz0,hz1,hz2⟩:=info_parts Tryz.infoStr
 have hg4:=HT4.o.2.1
 obtain⟨a0,c0,hv0⟩:=jay hg4.row
 have q4:=hg4.var.cell (i:=0) (v:=v) (by rfl);have HL0:=Hd (show Tx.length≤100000 by have:=HUL.o;omega);have HR0:=Hd hg4.row;have HG4:=Hd hg4;clear hg4;subst hv0;go_wp2_with (at_builtin;refine jcw _ rfl (.tmp 27) (.tmp 29) 34 rfl 9 i0 _ 1 16 Tryz.uStrs hi0 hz0 hz1 hz2 rfl (by decide) (.slice a0 Tx.length c0) Tx.length _ rfl (jbd HR0.o ((ExtR w4).alloc _)) ⟨w4.heap.size,0,none⟩ 1 1 [.string t] rfl rfl (ja9 (Blk.new w4 _)) (by simp[Value.oneCell']) (by have:=HL0.o;unfold maxLen;omega) (by have:=HL0.o;omega) ?_;intro v' w6 r1 r2 r3;obtain⟨ad',cp',rfl⟩:=jay r1;have hgs:=HG4.o.var.lt;have hV6:=(HG4.o.var.alloc (.cells #[.string t] 9)).keeps r2 (fun e=>(HG4.o.own g e).2.1 rfl);have q56:w6.cell? ⟨g,0,none⟩=some (.slice a0 Tx.length c0):=hV6.cell (i:=0) (by rfl);have f56:w6.frozen? ⟨g,0,none⟩=false:=hV6.frozen)
 obtain⟨wS,hwS⟩:∃ wS,wS=w6.setCell ⟨g,0,none⟩ (.slice ad' (Tx.length+1) cp'):=⟨_,rfl⟩
 have hg4a:=HG4.o.ext ((ExtR w4).alloc (.cells #[.string t] 9));have hp:=hg4a.push (n:=Tx.length+1) (New:=[t]) (by simp) (by rw[List.map_append];exact r1) r2 r3 (by have:=HG4.o.lo;rw[World.size_alloc];omega) (by simp);rw[←hwS]at hp ⊢;have hp:=WrTo.ahead ((ExtR w4).alloc (.cells #[.string t] 9)) hp;have huS:=HT4.o.1.off hp.kp (fun e=>e.elim (fun e=>by have:=HG.o.var.lt;have:=HGH.o.2;omega) (fun e=>by have:=(HG.o.own h e).2.2;have:=HGH.o.2;omega)) (fun b hb e=>by
  have h1:=HSUB.o b hb;rcases e with e | e
  ·have:=HG.o.var.lt;omega
  ·have:=(HG.o.own b e).2.2;omega)
 have hall:WrTo w0.heap.size g (.slice a0 Tx.length c0) W wS (.slice ad' (Tx.length+1) cp') (Tx++[t]):=(WrTo.refl HG.o HT4.o.2.2).trans hp;have hex:∃ v1,WrAt w0.heap.size h v2 U wS∧WrAt w0.heap.size g v1 (Tx++[t]) wS∧WrTo w0.heap.size g (.slice a0 Tx.length c0) W wS v1 (Tx++[t]):=⟨_,huS,hp.at',hall⟩
 obtain⟨v1,hex⟩:=hex
 clear HT4 hp hg4a hwS huS hall q56 f56 hV6 r1 r2 r3 hgs q4;have HT4:=Hd hex;clear hex hi0 hz0 hz1 hz2
 obtain⟨i0,hi0,hz0,hz1,hz2⟩:=info_parts Tryz.infoStr
 obtain⟨a1,c1,hv1⟩:=jay HT4.o.2.1.row
 obtain⟨n1,hn1⟩:∃ n,n=List.length (Tx++[t]):=⟨_,rfl⟩
 rw[←hn1]at hv1;subst hv1;have HL1:=Hd hn1;have HR1:=Hd (show World.ownsRow wS 0 9 1 (.slice a1 n1 c1) n1 (List.map Value.string (Tx++[t])) by have h9:=HT4.o.2.1.row;rw[←hn1]at h9;exact h9);have HCAP:=Hd (jqJ HR1.o);have QG:=Hd (HT4.o.2.1.var.cell (i:=0) (v:=.slice a1 n1 c1) (by rfl));clear hn1
 by_cases hU0:U=[]
 ·have hv2:=HT4.o.1.nil hU0
  subst hv2;have QH:=Hd (HT4.o.1.var.cell (i:=0) (v:=.slice none 0 0) (by rfl));have HU0:=Hd hU0;clear hU0;refine jar [0,1,2,3,4,5,6,7,8,9,10,11,12] [9,12] (Ext) ExtR ExtT (by kernel_rfl) (by kernel_rfl) (by kernel_rfl) ?_;iterate 2 (refine jah _ rfl (by kernel_rfl) rfl rfl (fun K hK=>?_);go_big_quiet_op;refine hK _ ?_;clear hK K)
  refine jbw _ ((.pointer (some ⟨g,0,none⟩))) rfl (by kernel_rfl) rfl (fun w1=>by kernel_rfl) ?_;simp only[Act.put,sA,sB,sC]
  (refine jah _ rfl (by kernel_rfl) rfl rfl (fun K hK=>?_);go_big_quiet_op;refine hK _ ?_;clear hK K)
  refine jaB ⟨g,0,none⟩ _ rfl (by kernel_rfl) rfl rfl (fun w1 h1=>jav (fun w=>by kernel_rfl) (jaa QG.o ((jak _).trans h1))) ?_;simp only[Act.put,sA,sB,sC]
  (refine jah _ rfl (by kernel_rfl) rfl rfl (fun K hK=>?_);go_big_quiet_op;refine hK _ ?_;clear hK K)
  refine jbw _ ((.pointer (some ⟨h,0,none⟩))) rfl (by kernel_rfl) rfl (fun w1=>by kernel_rfl) ?_;simp only[Act.put,sA,sB,sC]
  (refine jah _ rfl (by kernel_rfl) rfl rfl (fun K hK=>?_);go_big_quiet_op;refine hK _ ?_;clear hK K)
  refine jaB ⟨h,0,none⟩ _ rfl (by kernel_rfl) rfl rfl (fun w1 h1=>jav (fun w=>by kernel_rfl) (jaa QH.o ((jak _).trans h1))) ?_;simp only[Act.put,sA,sB,sC];refine jba _ rfl (by kernel_rfl) rfl (fun w5 he K hK=>?_);refine jcH (v:=.slice a1 n1 c1) (w':=w5) (jeu (jcZ (i:=i0) Tryz.uStrs hi0 a1 n1 c1 HCAP.o 0 w5) (by kernel_rfl)) (hK _ _ ?_);have HX5:=Hd ((jak _).trans he);clear hK K he;simp only[Act.put,sA,sB,sC];refine jbw _ ((.pointer (some ⟨g,0,none⟩))) rfl (by kernel_rfl) rfl (fun w1=>by kernel_rfl) ?_;simp only[Act.put,sA,sB,sC]
  (refine jah _ rfl (by kernel_rfl) rfl rfl (fun K hK=>?_);go_big_quiet_op;refine hK _ ?_;clear hK K)
  refine jba _ rfl (by kernel_rfl) rfl (fun w8 he8 K hK=>?_);have hg8:=HT4.o.2.1.ext (HX5.o.trans he8);have q8:w8.cell? ⟨g,0,none⟩=some (.slice a1 n1 c1):=hg8.var.cell (i:=0) (by rfl);have f8:w8.frozen? ⟨g,0,none⟩=false:=hg8.var.frozen;have hs8:WrAt w0.heap.size g (.slice a1 n1 c1) (Tx++[t]) (w8.setCell ⟨g,0,none⟩ (.slice a1 n1 c1)):=hg8.same;have H8:=Hd (And.intro hs8 (And.intro (HX5.o.trans he8) hg8));clear hg8 hs8 he8;go_simp;refine hK _ _ ?_;clear hK K q8 f8;refine jbh (by kernel_rfl) (fun w7 he=>?_);have H9:=Hd (H8.o.1.ext he);have HE9:=Hd he;clear he;go_wp2_with fail
  go_ret;rw[HU0.o]
  exact⟨rfl,_,(HT4.o.2.2.ext H8.o.2.1).trans ((H8.o.2.2.sameTo).ext HE9.o)⟩
 ·obtain⟨a2,c2,hv2⟩:=jay HT4.o.1.row
  have hr2:=HT4.o.1.row
  obtain⟨n2,hn2⟩:∃ n,n=List.length U:=⟨_,rfl⟩
  rw[←hn2]at hv2 hr2;rw[hv2]at hr2
  obtain⟨b2,rfl⟩:=jlQ hr2 (fun e=>hU0 (List.eq_nil_of_length_eq_zero (by omega)))
  subst hv2;have HR2:=Hd hr2;have HLN:=Hd hn2.symm;have HU0:=Hd hU0;have HBD:=Hd (show n1+n2≤200000 by have:=HUL.o;have h9:=HL1.o;rw[List.length_append,List.length_singleton]at h9;omega);have QH:=Hd (HT4.o.1.var.cell (i:=0) (v:=.slice (some ⟨b2,0,none⟩) n2 c2) (by rfl));clear hU0 hr2 hn2;refine jar [0,1,2,3,4,5,6,7,8,9,10,11,12] [9,12] (Ext) ExtR ExtT (by kernel_rfl) (by kernel_rfl) (by kernel_rfl) ?_;iterate 2 (refine jah _ rfl (by kernel_rfl) rfl rfl (fun K hK=>?_);go_big_quiet_op;refine hK _ ?_;clear hK K)
  refine jbw _ ((.pointer (some ⟨g,0,none⟩))) rfl (by kernel_rfl) rfl (fun w1=>by kernel_rfl) ?_;simp only[Act.put,sA,sB,sC]
  (refine jah _ rfl (by kernel_rfl) rfl rfl (fun K hK=>?_);go_big_quiet_op;refine hK _ ?_;clear hK K)
  refine jaB ⟨g,0,none⟩ _ rfl (by kernel_rfl) rfl rfl (fun w1 h1=>jav (fun w=>by kernel_rfl) (jaa QG.o ((jak _).trans h1))) ?_;simp only[Act.put,sA,sB,sC]
  (refine jah _ rfl (by kernel_rfl) rfl rfl (fun K hK=>?_);go_big_quiet_op;refine hK _ ?_;clear hK K)
  refine jbw _ ((.pointer (some ⟨h,0,none⟩))) rfl (by kernel_rfl) rfl (fun w1=>by kernel_rfl) ?_;simp only[Act.put,sA,sB,sC]
  (refine jah _ rfl (by kernel_rfl) rfl rfl (fun K hK=>?_);go_big_quiet_op;refine hK _ ?_;clear hK K)
  refine jaB ⟨h,0,none⟩ _ rfl (by kernel_rfl) rfl rfl (fun w1 h1=>jav (fun w=>by kernel_rfl) (jaa QH.o ((jak _).trans h1))) ?_;simp only[Act.put,sA,sB,sC];refine jba _ rfl (by kernel_rfl) rfl (fun w5 he K hK=>?_);have hX5:=(jak _).trans he;refine jdC w5 (.tmp 37) (.tmp 41) 34 rfl 9 i0 _ 1 16 Tryz.uStrs hi0 hz0 hz1 hz2 rfl (by decide) (.slice a1 n1 c1) n1 _ rfl (jbd HR1.o hX5) ⟨b2,0,none⟩ n2 c2 (U.map Value.string) rfl (by rw[List.length_map,HLN.o,Nat.mul_one]) (fun j u hj=>by rw[Addr.add_lit,Nat.zero_add];exact (jgM (jbd HR2.o hX5) hj)) (by intro u hu;obtain⟨y,_,rfl⟩:=List.mem_map.1 hu;rfl) (by have:=HBD.o;unfold maxLen;omega) (by have:=HBD.o;omega) ?_;intro v' w6 r1 r2 r3;have HA:=Hd (And.intro hX5 (And.intro r1 (And.intro r2 r3)))
  obtain⟨a',c',hv'⟩:=jay r1
  subst hv';refine hK _ _ ?_;clear hK K he hX5 r1 r2 r3;simp only[Act.put,sA,sB,sC];refine jbw _ ((.pointer (some ⟨g,0,none⟩))) rfl (by kernel_rfl) rfl (fun w1=>by kernel_rfl) ?_;simp only[Act.put,sA,sB,sC]
  (refine jah _ rfl (by kernel_rfl) rfl rfl (fun K hK=>?_);go_big_quiet_op;refine hK _ ?_;clear hK K)
  refine jba _ rfl (by kernel_rfl) rfl (fun w8 he8 K hK=>?_)
  obtain⟨hX5,r1,r2,r3⟩:=HA.o
  have hg5:=HT4.o.2.1.ext hX5;have hz5:w0.heap.size≤w5.heap.size:=Nat.le_trans hg5.lo (Nat.le_of_lt hg5.var.lt);have hp:=hg5.push (n:=n1+n2) (by rw[List.length_append, ←HL1.o,HLN.o]) (by rw[List.map_append];exact jbd r1 he8) (r2.trans (he8.mono (fun _ _ e=>e.elim))) r3 hz5 HU0.o;have hg8:=(hg5.var.keeps r2 (fun e=>(hg5.own g e).2.1 rfl)).keeps he8 (fun e=>e);have q8:w8.cell? ⟨g,0,none⟩=some (.slice a1 n1 c1):=hg8.cell (i:=0) (by rfl);have f8:w8.frozen? ⟨g,0,none⟩=false:=hg8.frozen;have H8:=Hd (And.intro hp hX5);clear hX5 r1 r2 r3 hg5 hz5 hp hg8 he8;go_simp;refine hK _ _ ?_;clear hK K q8 f8;refine jbh (by kernel_rfl) (fun w7 he=>?_);have HE9:=Hd he;clear he;go_wp2_with fail
  go_ret;rw[show Tx++t :: U=Tx++[t]++U by rw[List.append_assoc];rfl]
  exact⟨rfl,_,((HT4.o.2.2.ext H8.o.2).trans H8.o.1).ext HE9.o⟩
theorem jtN(P:PA)(hT:TopC P):jt7 P:=by
 intro w0 W T x D g v Tx hc he hP hE hW hl;unfold bigs
 by_cases hz:(textP P).size < 32
 ·rw[if_pos hz]
  exact joC P hT hz w0 W T x D g v Tx hc he hP hE hW hl
 ·rw[if_neg hz]
  exact jtp P hT hz w0 W T x D g v Tx hc he hP hE hW hl
theorem jlt(k:Int)(p v r r':ByteArray):(jcj k p v r).toArray.setIfInBounds 3 (.string r')=(jcj k p v r').toArray:=by simp[jcj]
theorem juw(w0 W:World)(q:ByteArray)(n:PA)(T:TypeId)(x:Value)(Dn:Nat→Prop)(b:Nat)(hB:Blk w0 b (.cells #[.string q,.iface T x] 270))(hv:PaO n (.iface T x) Dn w0)(hR:jt7 n)(g:Nat)(v:Value)(Tx:List ByteArray)(hc:jch w0)(he:ErrT w0)(hE:Ext w0 W)(hW:WrAt w0.heap.size g v Tx W)(hl:Tx.length+cntP n≤100000) :
  Calls Tryz.prog 297 #[.pointer (some ⟨b,0,none⟩),.pointer (some ⟨g,0,none⟩)] W (FoP w0.heap.size g v W (jaf.V ⟨2,q,⟨#[]⟩,refB (textP n) :: jax 15⟩) (Tx++(bigs (textP n)++underP n))):=by
 have Q0:=Hd (hB.cell (i:=0) (v:=.string q) (by rfl));have Q1:=Hd (hB.cell (i:=1) (v:=.iface T x) (by rfl));have HW:=Hd (And.intro hW hE);have HREF:=Hd (fun w (e:Ext w0 w) (k:WrAt w0.heap.size g v Tx w)=>hR w0 w T x Dn g v Tx hc he hv e k hl)
 obtain⟨t,ht⟩:∃ t,t=refB (textP n):=⟨_,rfl⟩
 obtain⟨U,hU⟩:∃ U,U=Tx++(bigs (textP n)++underP n):=⟨_,rfl⟩
 rw[←ht, ←hU]at HREF;rw[←ht, ←hU];clear hB hv hR hc he hE hW hl ht hU;have hbd:∀ w,(Instr.build 144 #[(0,.int .i64 2),(1,.string q)]).run Tryz.prog w=.ok (.agg (jcj 2 q ⟨#[]⟩ ⟨#[]⟩).toArray) w:=fun w=>by kernel_rfl
 go_enter Tryz.func297,Tryz.ntmps297;go_wp2_with (first |(refine jaq (w:=W) Tryz.allocNode rfl rfl ?_;intro W1 hB1 hE1;have HB1:=Hd hB1;have HE1:=Hd hE1;have q0:=jaa Q0.o (HW.o.2.trans hE1);clear hB1 hE1) |(refine jaq (w:=W1) Tryz.allocNode rfl rfl ?_;intro W2 hB2 hE2) |(refine jaj (vs:=jcj 2 q ⟨#[]⟩ ⟨#[]⟩) rfl rfl rfl rfl hB2 rfl Tryz.szNode (jck _ _ _ _) ?_;intro W3 hB3 hE3;have q1:=jaa (jaa Q1.o (HW.o.2.trans HE1.o)) (hE2.trans' hE3 (fun x hx e=>by have e:x=W1.heap.size:=e;omega))))
 have hE3':Ext W1 W3:=hE2.trans' hE3 (fun x hx e=>by have e:x=W1.heap.size:=e;omega);have HB3:=Hd (And.intro hB3 (And.intro (HB1.o.keeps hE3' (fun e=>e)) (HE1.o.trans hE3')));have hlt:=HB1.o.lt;have HN:=Hd (show W.heap.size < W1.heap.size∧W1.heap.size < W3.heap.size from⟨hlt,hB3.lt⟩);clear hB2 hE2 hB3 hE3 hE3' hlt;refine (HREF.o W3 (HW.o.2.trans HB3.o.2.2) (HW.o.1.ext HB3.o.2.2)).mono ?_;rintro e w4 ⟨rfl,v4,hT4⟩;have hgw:=HW.o.1.var.lt;have hg1:W1.heap.size≠g:=by have:=HN.o.1;omega
 have ho1:v.ownBlock≠some W1.heap.size:=fun e=>by have:=(HW.o.1.own _ e).2.2;have:=HN.o.1;omega
 have hB4:=hT4.blk HB3.o.1 hg1 ho1;have hB4v:=hT4.blk HB3.o.2.1 (by omega) (fun e=>by have:=(HW.o.1.own _ e).2.2;omega);have qf:w4.cell? ⟨W1.heap.size,3,none⟩=some (.string ⟨#[]⟩):=hB4.cellL (i:=3) (by rfl);have ff:w4.frozen? ⟨W1.heap.size,3,none⟩=false:=hB4.frozen
 obtain⟨W5,hW5⟩:∃ W5,W5=w4.setCell ⟨W1.heap.size,3,none⟩ (.string t):=⟨_,rfl⟩
 have hB5:Blk W5 W1.heap.size (.cells (jcj 2 q ⟨#[]⟩ t).toArray 144):=by
  have:=hB4.set_same (i:=3) (.string t)
  rw[jlt]at this;rw[hW5];exact this
 have hK5:jac (fun z=>z=W1.heap.size) w4 W5:=by rw[hW5];exact jac.oneSet w4 ⟨W1.heap.size,3,none⟩ (.string t)
 have hB5v:Blk W5 W.heap.size (.cells jbb.cells.toArray 144):=hB4v.keeps hK5 (fun e=>by have:=HN.o.1;have e:W.heap.size=W1.heap.size:=e;omega);have hv4:v4.ownBlock≠some W1.heap.size:=fun e=>by
  rcases hT4.sub _ e with e | e
  ·exact ho1 e
  ·have:=HN.o.2;omega
 have hT5:=(WrTo.ahead HB3.o.2.2 hT4).fill hK5 hg1 hv4 (by have:=HN.o.1;omega);have hv4v:v4.ownBlock≠some W.heap.size:=fun e=>by
  rcases hT4.sub _ e with e | e
  ·have:=(HW.o.1.own _ e).2.2;omega
  ·have:=HN.o.1;have:=HN.o.2;omega
 have HT5:=Hd (And.intro hT5 (And.intro hB5v (And.intro hv4v (show W.heap.size≠g by omega))));have HW5:=Hd hW5;clear hT4 hgw hg1 ho1 hB4 hB4v hK5 hv4 hT5 hv4v hW5 hB5v q0 q1;have hL5:Blk (w4.setCell ⟨W1.heap.size,3,none⟩ (.string t)) W1.heap.size (.cells (jaf.cells ⟨2,q,⟨#[]⟩,t :: jax 15⟩).toArray 144):=by rw[←HW5.o];exact hB5
 have hF5:Blk (w4.setCell ⟨W1.heap.size,3,none⟩ (.string t)) W.heap.size (.cells jbb.cells.toArray 144):=by rw[←HW5.o];exact HT5.o.2.1
 go_wp2_with (refine jae 144 (.tmp 5) rfl rfl _ _ rfl (jaz _ _ ⟨2,q,⟨#[]⟩,t :: jax 15⟩ rfl hL5) ?_;refine jaj (vs:=jaf.cells ⟨2,q,⟨#[]⟩,t :: jax 15⟩) rfl rfl rfl rfl hF5 rfl Tryz.szNode (jaf.one _) ?_;intro W8 hB8 hE8)
 rw[←HW5.o]at hE8;refine bodyPost_ret (jdp rfl rfl (jaN W8 _ ⟨2,q,⟨#[]⟩,t :: jax 15⟩ rfl hB8)) rfl ?_
 exact⟨rfl,v4,HT5.o.1.fill hE8 HT5.o.2.2.2 HT5.o.2.2.1 (Nat.le_refl _)⟩
def bfN(u:ByteArray)(rs:List ByteArray)(k:Nat):jaf:=⟨3,⟨#[]⟩,u,rs.take k++jax (16 - k)⟩
theorem jug(u:ByteArray){rs:List ByteArray}(h:rs.length=16){k:Nat}(hk:k < 16)(r:ByteArray)(hr:rs[k]?=some r):(bfN u rs k).cells.set (3+k) (.string r)=(bfN u rs (k+1)).cells:=by
 have e1:(rs.take k++jax (16 - k)).set k r=rs.take (k+1)++jax (16 - (k+1)):=by
  rw[List.set_append_right _ _ (by simp[h];omega)]
  have:k - (rs.take k).length=0:=by simp[h];omega
  rw[this,show 16 - k=(16 - (k+1))+1 by omega];unfold jax;rw[List.replicate_succ,List.set_cons_zero,List.take_add_one,hr];simp
 unfold jaf.cells bfN;simp only;rw[show 3+k=k+1+1+1 by omega,List.set_cons_succ,List.set_cons_succ,List.set_cons_succ, ←e1,List.map_set]
theorem jrQ(u:ByteArray){rs:List ByteArray}(h:rs.length=16){k:Nat}(hk:k < 16)(hr:rs[k]?=some ⟨#[]⟩):bfN u rs (k+1)=bfN u rs k:=by
 unfold bfN;rw[List.take_add_one,hr,show 16 - k=(16 - (k+1))+1 by omega];unfold jax;rw[List.replicate_succ];simp
theorem juf(u:ByteArray){rs:List ByteArray}(h:rs.length=16){k:Nat}(hk:k≤16):(bfN u rs k).refs.length=16:=by
 unfold bfN jax;simp[h];omega
theorem jxx(u:ByteArray)(rs:List ByteArray):(bfN u rs 0).cells=jcj 3 ⟨#[]⟩ u ⟨#[]⟩:=rfl
theorem jwb(u:ByteArray){rs:List ByteArray}(h:rs.length=16):bfN u rs 16=⟨3,⟨#[]⟩,u,rs⟩:=by
 unfold bfN jax;rw[List.take_of_length_le (by omega)];simp
noncomputable def underK(ks:Nat→PA)(k:Nat):List ByteArray:=(List.range k).flatMap fun i=>if (ks i).isNil then []else bigs (textP (ks i))++underP (ks i)
theorem jl9(ks:Nat→PA)(k:Nat):underK ks (k+1)=underK ks k++(if (ks k).isNil then []else bigs (textP (ks k))++underP (ks k)):=by
 unfold underK;rw[List.range_succ,List.flatMap_append]
 simp
theorem joz(ks:Nat→PA)(k:Nat):(underK ks k).length≤sumF (fun i=>cntP (ks i)) k:=jf5 _ _ (fun i=>by
 show (if (ks i).isNil=true then ([]:List ByteArray)else bigs (textP (ks i))++underP (ks i)).length≤cntP (ks i);cases hn:(ks i).isNil with
 | true=>rw[if_pos rfl];exact Nat.zero_le _
 | false =>
  rw[if_neg ff,List.length_append];have h1:=jiZ (textP (ks i))
  have:=jek (ks i) hn
  omega) k
noncomputable def refsK(ks:Nat→PA):List ByteArray:=(List.range 16).map fun i=>if (ks i).isNil then ⟨#[]⟩else refB (textP (ks i))
theorem jdo(ks:Nat→PA):(refsK ks).length=16:=by unfold refsK;simp
theorem js2(ks:Nat→PA){k:Nat}(hk:k < 16):(refsK ks)[k]?=some (if (ks k).isNil then ⟨#[]⟩else refB (textP (ks k))):=by
 unfold refsK;rw[List.getElem?_map,List.getElem?_range hk];rfl
def jw8(z g:Nat)(v:Value)(W:World)(L:Nat)(u:ByteArray)(rs:List ByteArray)(Tx:List ByteArray)(ks:Nat→PA)(iv:Value)(wr:World):Prop:=
 ∃ k:Nat,k≤16∧iv=.int .i64 k∧∃ v',WrTo z g v W wr v' (Tx++underK ks k)∧Blk wr L (.cells (bfN u rs k).cells.toArray 144)∧Blk wr W.heap.size (.cells jbb.cells.toArray 144)∧v'.ownBlock≠some L∧v'.ownBlock≠some W.heap.size
theorem juh(w0 W:World)(u:ByteArray)(ks:Nat→PA)(b:Nat)(vk:Nat→Value)(Dk:Nat→Nat→Prop)(hb:BrRd u ks b vk Dk w0)(hR:∀ i,i < 16→(ks i).isNil=false→jt7 (ks i))(g:Nat)(v:Value)(Tx:List ByteArray)(hc:jch w0)(he:ErrT w0)(hE:Ext w0 W)(hW:WrAt w0.heap.size g v Tx W)(hl:Tx.length+(1+sumF (fun i=>cntP (ks i)) 16)≤100000) :
  Calls Tryz.prog 301 #[.pointer (some ⟨b,0,none⟩),.pointer (some ⟨g,0,none⟩)] W (FoP w0.heap.size g v W (jaf.V ⟨3,⟨#[]⟩,u,refsK ks⟩) (Tx++underK ks 16)):=by
 have q0:=jaa (hb.blk.cellL (i:=0) (v:=.string u) (by rfl)) hE;have HB:=Hd hb;have HW:=Hd (And.intro hW hE);have HREF:=Hd (fun(k:Nat) (hk:k < 16) (hn:(ks k).isNil=false) (T:TypeId) (x:Value) (hx:vk k=.iface T x) (w:World) (v':Value) (e:Ext w0 w) (h:WrAt w0.heap.size g v' (Tx++underK ks k) w)=>hR k hk hn w0 w T x (Dk k) g v' (Tx++underK ks k) hc he (hx ▸ hb.kid k hk) e h (by
  have h1:=joz ks k;have h2:=jej (fun i=>cntP (ks i)) (k+1) (15 - k);rw[show k+1+(15 - k)=16 by omega]at h2;have h3:sumF (fun i=>cntP (ks i)) k+cntP (ks k)≤sumF (fun i=>cntP (ks i)) 16:=h2;rw[List.length_append];omega))
 have hnn:=jjj;clear hR hc he hl;have hbd:∀ w,(Instr.build 144 #[(0,.int .i64 3),(2,.string u)]).run Tryz.prog w=.ok (.agg (jcj 3 ⟨#[]⟩ u ⟨#[]⟩).toArray) w:=fun w=>by kernel_rfl
 clear hb hW hE;go_enter Tryz.func301,Tryz.ntmps301;go_wp2_with (first |(refine jaq (w:=W) Tryz.allocNode rfl rfl ?_;intro W1 hB1 hE1;have HB1:=Hd hB1;have HE1:=Hd hE1;have q1:=jaa q0 hE1;clear hB1 hE1) |(refine jaq (w:=W1) Tryz.allocNode rfl rfl ?_;intro W2 hB2 hE2) |(refine jaj (vs:=jcj 3 ⟨#[]⟩ u ⟨#[]⟩) rfl rfl rfl rfl hB2 rfl Tryz.szNode (jck _ _ _ _) ?_;intro W3 hB3 hE3;have hE3':Ext W1 W3:=hE2.trans' hE3 (fun x hx e=>by have e:x=W1.heap.size:=e;omega);have hla:=jbk (HB.o.blk.keeps ((HW.o.2.trans HE1.o).trans hE3') (fun e=>e))) |(refine jae 272 (.tmp 15) rfl rfl _ _ rfl hla ?_))
 have HB3:=Hd (And.intro hB3 (And.intro (HB1.o.keeps hE3' (fun e=>e)) (HE1.o.trans hE3')));have hlt:=HB1.o.lt;have HN:=Hd (show W.heap.size < W1.heap.size∧W1.heap.size < W3.heap.size from⟨hlt,hB3.lt⟩);clear hB2 hE2 hB3 hE3 hE3' hlt hla q0 q1
 obtain⟨L,hL⟩:∃ L,L=W1.heap.size:=⟨_,rfl⟩
 rw[←hL]at HB3 HN ⊢;clear hL HB1 HE1;have HG:=Hd HW.o.1.var.lt;go_loopw [17] (fun iv wr=>jw8 w0.heap.size g v W L u (refsK ks) Tx ks iv wr) (fun iv _=>16 - (intOf iv).toNat)
 case atStart =>
  have:=HN.o
  have hg:=HG.o
  exact⟨0,by omega,rfl,v,by rw[show underK ks 0=[]from rfl,List.append_nil];exact WrTo.refl HW.o.1 HB3.o.2.2,by rw[jxx];exact HB3.o.1,HB3.o.2.1,fun e=>by have:=(HW.o.1.own _ e).2.2;omega,fun e=>by have:=(HW.o.1.own _ e).2.2;omega⟩
 case round =>
  obtain⟨k,hk,rfl,v1,hT,hBL,hBr,ho1,ho2⟩:=hrel
  have HT:=Hd (And.intro hT (And.intro hBL (And.intro hBr (And.intro ho1 ho2))));clear hT hBL hBr ho1 ho2
  by_cases hlt:k < 16
  ·have hix:=jeB vk hlt
   have hst:=jl9 ks k;have hra:=js2 ks hlt;rcases (HB.o.kid k hlt).at'.kid with⟨hn,hv⟩ |⟨hn,T,x,hv⟩
   ·rw[hn,if_pos rfl,List.append_nil]at hst
    rw[hn,if_pos rfl]at hra;rw[hv]at hix;have HST:=Hd hst;have HSK:=Hd (jrQ u (jdo ks) hlt hra);clear hst hn hv hra;go_wp2;go_roundw
    case rel=>exact⟨k+1,by omega,by go_num,v1,by rw[HST.o];exact HT.o.1,by rw[HSK.o];exact HT.o.2.1,HT.o.2.2.1,HT.o.2.2.2⟩
    case measure=>simp[intOf];omega
   ·rw[hn,if_neg ff]at hst
    rw[hn,if_neg ff]at hra;rw[hv]at hix;have hq:=jdA T x;have HCALL:=Hd (HREF.o k hlt hn T x hv wr v1 (HT.o.1.ext0 HW.o.1 HW.o.2 (Nat.le_refl _)) HT.o.1.at');rw[List.append_assoc, ←hst]at HCALL
    obtain⟨r,hr⟩:∃ r,r=refB (textP (ks k)):=⟨_,rfl⟩
    rw[←hr]at hra HCALL;have HRA:=Hd hra;clear hst hn hv hra hr;have b2:(k:Int) < 16:=by omega
    go_wp2_with fail
    refine HCALL.o.mono ?_;rintro e w4 ⟨rfl,v4,hT4⟩;have hg1:L≠g:=by have:=HN.o.1;have:=HG.o;omega
    have hg2:W.heap.size≠g:=by have:=HG.o;omega
    have hB4:=hT4.blk HT.o.2.1 hg1 HT.o.2.2.2.1;have hB4v:=hT4.blk HT.o.2.2.1 hg2 HT.o.2.2.2.2;have hv4:∀ y,y < wr.heap.size→v1.ownBlock≠some y→v4.ownBlock≠some y:=fun y hy h1 e=>by
     rcases hT4.sub y e with e | e
     ·exact h1 e
     ·omega
    have hvL:=hv4 L HT.o.2.1.lt HT.o.2.2.2.1;have hvr:=hv4 W.heap.size HT.o.2.2.1.lt HT.o.2.2.2.2;have hl3:(bfN u (refsK ks) k).cells.length=19:=jaf.cells_len _ (juf u (jdo ks) hk)
    obtain⟨old,qf⟩:∃ v,w4.cell? ⟨L,3+k,none⟩=some v:=⟨_,hB4.cellL (List.getElem?_eq_getElem (by omega))⟩
    have ff4:w4.frozen? ⟨L,3+k,none⟩=false:=hB4.frozen;have hB5:=hB4.set_same (i:=3+k) (.string r);rw[show (bfN u (refsK ks) k).cells.toArray.setIfInBounds (3+k) (.string r)=((bfN u (refsK ks) k).cells.set (3+k) (.string r)).toArray by simp,jug u (jdo ks) hlt r HRA.o]at hB5;have K5:jac (fun z=>z=L) w4 (w4.setCell ⟨L,3+k,none⟩ (.string r)):=jac.oneSet w4 ⟨L,3+k,none⟩ (.string r);have hB5v:=hB4v.keeps K5 (fun e=>by have e:W.heap.size=L:=e;have:=HN.o.1;omega);have hT5:=(HT.o.1.trans hT4).fill K5 hg1 hvL (by have:=HN.o.1;omega);have H5:=Hd (And.intro hT5 (And.intro hB5 (And.intro hB5v (And.intro hvL hvr))));clear hT4 hg1 hg2 hB4 hB4v hv4 hvL hvr hl3 hB5 K5 hB5v hT5;go_wp2_with fail
    go_roundw
    case rel=>exact⟨k+1,by omega,by go_num,v4,H5.o⟩
    case measure=>simp[intOf];omega
  ·obtain rfl:k=16:=by omega
   have hL5:=HT.o.2.1;rw[jwb u (jdo ks)]at hL5;have hF5:=HT.o.2.2.1;go_wp2_with (refine jae 144 (.tmp 5) rfl rfl _ _ rfl (jaz _ _ ⟨3,⟨#[]⟩,u,refsK ks⟩ (jdo ks) hL5) ?_;refine jaj (vs:=jaf.cells ⟨3,⟨#[]⟩,u,refsK ks⟩) rfl rfl rfl rfl hF5 (by rw[jaf.cells_len _ (jdo ks)];rfl) (by rw[jaf.cells_len _ (jdo ks)];exact Tryz.szNode) (jaf.one _) ?_;intro W8 hB8 hE8)
   refine bodyPost_ret (jdp rfl rfl (jaN W8 _ ⟨3,⟨#[]⟩,u,refsK ks⟩ (jdo ks) hB8)) rfl ?_
   exact⟨rfl,v1,HT.o.1.fill hE8 (by have:=HG.o;omega) HT.o.2.2.2.2 (Nat.le_refl _)⟩
end
section
open Go Go.RowKit
theorem jjo:∀ (P:PA),PutP P→jvJ P
 | .nil=>fun _ w0 W T x D g v Tx hc he h hE hW hl=>by cases h.at'
 | .no=>fun _ w0 W T x D g v Tx hc he h hE hW hl=>by
  have e:Value.iface T x=noV:=h.at';unfold noV at e;injection e with e1 e2;subst e1 e2;show Calls _ _ _ W (FoP w0.heap.size g v W jbb.V (Tx++[]));rw[List.append_nil];exact jsM _ g v Tx W hW
 | .leaf q u=>fun _ w0 W T x D g v Tx hc he h hE hW hl=>by
  obtain⟨b,e,h1,h2⟩:=h.at'
  unfold jh9 at e;injection e with e1 e2;subst e1 e2;show Calls _ _ _ W (FoP w0.heap.size g v W (jaf.V ⟨1,q,u,jax 16⟩) (Tx++[]));rw[List.append_nil];exact juR w0 _ g v Tx W hE q u b h2 hW
 | .ext q m=>fun hp w0 W T x D g v Tx hc he h hE hW hl=>by
  obtain⟨b,T',x',Dn,e,h1,h2,h3,h4,h5⟩:=h.at'
  unfold extV at e;injection e with e1 e2;subst e1 e2;have hl:Tx.length+(1+cntP m)≤100000:=hl;have hn:m.isNil=false:=by
   cases m with
   | nil=>cases h3
   | _=>rfl
  exact juw w0 W q m T' x' Dn b h2 ⟨h3,fun z hz=>h.lt z (h5 z hz)⟩ (jtN m (jru m hn hp.2 (jjo m hp.2))) g v Tx hc he hE hW (by omega)
 | .br u ks=>fun hp w0 W T x D g v Tx hc he h hE hW hl=>by
  obtain⟨b,vk,Dk,e,h1,h2,h3,h4⟩:=h.at'
  unfold brV at e;injection e with e1 e2;subst e1 e2;have hb:BrRd u ks b vk Dk w0:=⟨h2,fun i hi=>⟨(h3 i hi).1,fun z hz=>h.lt z ((h3 i hi).2.2 z hz)⟩⟩;exact juh w0 W u ks b vk Dk hb (fun i _ hn=>jtN (ks i) (jru (ks i) hn (hp.2 i) (jjo (ks i) (hp.2 i)))) g v Tx hc he hE hW hl
theorem jkP:∀ (f:Nat) (l:List Pair),jaQ f l→PutP (ja2 (f+1) l):=by
 intro f;induction f with
 | zero =>
  intro l h;have hl:=jcf h;have hg:=(good 0 l h).1;have hn:=(jfn 0 l h).1;rw[←hn]at hg;have hp:=jkZ hg
  by_cases h0:l.length=0
  ·rw[jbV _ h0]at hp ⊢;exact hp
  ·rw[jb5 _ (by omega)]at hp ⊢;exact hp
 | succ f ih =>
  intro l h;have hg:=(good (f+1) l h).1;have hn:=(jfn (f+1) l h).1;rw[←hn]at hg;have hp:=jkZ hg
  by_cases h0:l.length=0
  ·rw[jbV _ h0]at hp ⊢;exact hp
  by_cases h1:l.length=1
  ·rw[jb5 _ h1]at hp ⊢;exact hp
  have h2:2≤l.length:=by omega
  by_cases hk:0 < comK l
  ·obtain⟨k1,k2,_,_⟩:=jfO h h2 hk
   rw[jdB _ h2 hk]at hp ⊢
   exact⟨hp,ih _ k1⟩
  ·rw[jey _ h2 hk]at hp ⊢
   refine⟨hp,fun i=>?_⟩
   show PutP (if (cutL i l).length=0 then PA.nil else ja2 (f+1) (jam 1 (cutL i l)))
   by_cases hc:(cutL i l).length=0
   ·rw[if_pos hc];exact trivial
   ·rw[if_neg hc];exact ih _ (jga h hc).1
theorem jqO(f:Nat)(l:List Pair)(h:jaQ f l):TopC (ja2 (f+1) l):=jru _ jdF (jkP f l h) (jjo _ (jkP f l h))
end
section
open Go Go.RowKit
attribute [local go_sem] Oper.semAt_some
noncomputable def rootM(l:List Pair):ByteArray:=shaB (jaT l).text
theorem jsh{l:List Pair}(h:jaS l=0):entP (ja2 13 (jaP l)) ⟨#[]⟩=l:=by
 have e0:∀ q:ByteArray,(⟨#[]⟩:ByteArray)++q=q:=fun q=>jcK (by rw[jjW];rfl);rw[jqL 12 _ (jbR (jaM h)) ⟨#[]⟩ (fun q hq=>by
  obtain⟨p,hp,rfl⟩:=List.mem_map.1 hq
  rw[e0];exact jm6 p.1)]
 unfold jaP;rw[List.map_map]
 conv=>rhs;rw[←List.map_id l]
 refine List.map_congr_left fun p hp=>?_;show (jbq (⟨#[]⟩++jbc p.1),p.2)=p;rw[e0,jeb]
structure PaM(w w1:World)(l:List Pair)(T:TypeId)(x:Value):Prop where
 ext:Ext w w1
 pa:PaO (ja2 13 (jaP l)) (.iface T x) (jjN w w1) w1
theorem juT(w:World)(s bm:Nat)(room:Int)(S:List Nd5)(hs:jas w s bm room S)(hN:jjM S)(l:List Pair)(h:HasM S l) :
  Calls Tryz.prog 62 #[.pointer (some ⟨s,0,none⟩),.string (rootM l)] w fun e w'=>∃ T x,e=.returned (.tuple #[.iface T x,.bool true])∧PaM w w' l T x:=by
 refine (jvu w s bm room S hs hN (rootM l)).mono ?_;rintro e w' ⟨hE,h1⟩
 obtain⟨k,hk⟩:=jqW w h
 unfold rootM at h1;rw[hk]at h1
 obtain⟨T,x,rfl,hp⟩:=h1
 exact⟨T,x,rfl,hE,hp,fun z hz=>hz.2⟩
theorem jwI(w1 W:World)(l:List Pair)(h:jaS l=0)(T:TypeId)(x:Value)(D:Nat→Prop)(hp:PaO (ja2 13 (jaP l)) (.iface T x) D w1)(hE:Ext w1 W) :
  Calls Tryz.prog (jgf (ja2 13 (jaP l))) #[x,.string ⟨#[]⟩,.slice none 0 0] W fun e w'=>∃ v,e=.returned v∧ERow w1 w' v l.length l:=by
 have hr:=jbR (jaM h);have hc:=ji2 (jaM h);refine (jlR _ w1 W T x D ⟨#[]⟩ (.slice none 0 0) 0 12 [] hp (ORow.nil _ _ hE) (jqK 12 _ 12 hr hr) (by have:(⟨#[]⟩:ByteArray).size=0:=rfl;omega) (by rw[ji3 12 _ hr];omega)).mono ?_;rintro e w' ⟨v,n,rfl,h1⟩;rw[List.nil_append,jsh h]at h1
 have:=h1.len'
 subst this
 exact⟨v,rfl,h1⟩
end
section
open Go Go.RowKit
theorem jhk:∀ (xs:List Chg) (j:Nat) (p:Chg),xs[j]?=some p→(jfW xs)[j * 3]?=some (.string p.key)∧(jfW xs)[j * 3+1]?=some (.string p.value)∧(jfW xs)[j * 3+2]?=some (.bool p.gone)
 | [],j,p,h=>by simp at h
 | x :: r,0,p,h=>by simp at h;subst h;exact⟨rfl,rfl,rfl⟩
 | x :: r,j+1,p,h=>by
  obtain⟨h1,h2,h3⟩:=jhk r j p (by simpa using h)
  rw[show (j+1) * 3=j * 3+3 by omega]
  exact⟨h1,h2,h3⟩
theorem CRow.rdT{w0 w:World}{v:Value}{n:Nat}{xs:List Chg}(h:CRow w0 w v n xs):RdC w v xs:=by
 have hl:xs.length=n:=by have:=h.len;rw[jij]at this;omega
 obtain⟨_,⟨rfl,h2⟩ |⟨g,cap,cur,rfl,h3,h4,h5,h6,h7⟩⟩:=h.own
 ·exact .inl ⟨none,0,rfl,List.eq_nil_of_length_eq_zero (by omega)⟩
 ·subst hl
  refine .inr ⟨g,0,cap,rfl,(Array.getElem?_eq_some_iff.1 h4).1,h5,fun j x hx=>?_⟩;have hj:=(List.getElem?_eq_some_iff.1 hx).1
  obtain⟨e1,e2,e3⟩:=jhk xs j x hx
  exact⟨by rw[Nat.zero_add,h.own.cellAt (j * 3) (by omega),e1],by rw[Nat.zero_add,h.own.cellAt (j * 3+1) (by omega),e2],by rw[Nat.zero_add,h.own.cellAt (j * 3+2) (by omega),e3]⟩
theorem jnS{l m:List Pair}(h1:l.length≤40)(h2:m.length≤40):(jgA l m).length≤80:=by
 have key:∀ l m:List Pair,(jbD l m).length≤l.length+m.length:=fun l m=>by
  fun_induction jbD l m <;> simp only[List.length_cons,List.length_nil]at * <;> omega
 unfold jgA;split
 ·have:=key l m;omega
 ·simp
theorem jmK{c:Chg}(h:c.bad=false):c.key.size≤6:=by
 unfold Chg.bad at h;have h1:jdV c.key=true:=by
  cases e:jdV c.key with
  | true=>rfl
  | false=>rw[e]at h;simp at h
 unfold jdV at h1;exact (of_decide_eq_true h1).2
structure OkP(P:PA):Prop where
 can:P=.no∨CanP P
 dp:Dp P 12
theorem OkP.va{P:PA}(h:OkP P):VaP P:=by
 rcases h.can with h | h
 ·subst h;trivial
 ·exact jpn P h
theorem OkP.there{P:PA}(h:OkP P):P.isNil=false:=by
 rcases h.can with h | h
 ·subst h;rfl
 ·cases P with
  | nil=>exact h.elim
  | _=>rfl
theorem OkP.dp9{P:PA}(h:OkP P):Dp P 900000:=jcl P 12 _ h.dp (by omega)
theorem OkP.step{P:PA}(h:OkP P){c:Chg}(hc:c.bad=false):OkP (jcq P c):=by
 refine⟨(jri h.can hc).1,?_⟩
 have hk:=jmK hc;have hs:=jb9 c.key;unfold jcq;split
 ·exact jhv P 12 _ h.dp
 ·exact jmw P 12 _ _ h.dp (by omega)
theorem jwN{l:List Pair}(h:jaS l=0):OkP (ja2 13 (jaP l)):=⟨jm4 (jbR (jaM h)),jqK 12 _ 12 (jbR (jaM h)) (jbR (jaM h))⟩
noncomputable def lackB(S:List Nd5)(t:ByteArray):Bool:=(atL S (shaB t).data.toList).isNone
noncomputable def freshU(S:List Nd5)(U:List ByteArray):List ByteArray:=(jbf U).filter (lackB S)
theorem jn1(S:List Nd5)(U:List ByteArray)(x:ByteArray):freshU S (U++[x])=freshU S U++(if memB (jbf U) x=true then []else if lackB S x=true then [x]else []):=by
 unfold freshU;rw[jfL];unfold addF
 by_cases h:memB (jbf U) x=true
 ·rw[if_pos h,if_pos h,List.append_nil]
 ·rw[if_neg h,if_neg h,List.filter_append]
  congr 1
  cases e:lackB S x <;> simp[e]
theorem jko(S:List Nd5)(U:List ByteArray):(freshU S U).length≤U.length:=Nat.le_trans (List.length_filter_le _ _) (jgB U)
noncomputable def belowM(m:List Pair):List ByteArray:=underP (ja2 13 (jaP m))
theorem jrM{m:List Pair}(h:jaS m=0):belowM m=jaK (jaw (jad 12) (jaP m)):=(jfn 12 _ (jbR (jaM h))).2.2
theorem jvt{m:List Pair}(h:jaS m=0):textP (ja2 13 (jaP m))=(jaT m).text:=(jfn 12 _ (jbR (jaM h))).2.1
theorem jjY{m:List Pair}(h:jaS m=0):(belowM m).length≤118:=by
 have h1:=jek (ja2 13 (jaP m)) jdF;have h2:cntP (ja2 13 (jaP m))=cntT 12 (jaP m):=ji3 12 _ (jbR (jaM h));have h3:=ji2 (jaM h);unfold belowM;omega
noncomputable def newM(S:List Nd5)(m:List Pair):List ByteArray:=(jaT m).text :: freshU S (belowM m)
def jeK(l:List Pair)(cs:List Chg):List Pair:=jds (jfx l cs)
def UpdP(w:World)(S:List Nd5)(l:List Pair)(cs:List Chg)(e:Ending)(w':World):Prop:=
 if jbX l cs=0 then ∃ r,e=.returned (.tuple #[r,.int .i64 0])∧SRow w w' r (newM S (jeK l cs)).length (newM S (jeK l cs))else e=.returned (.tuple #[.slice none 0 0,.int .i64 (jbX l cs)])∧Ext w w'
def jv4(W3:World)(D0:Nat→Prop)(P0:PA)(ds:List Chg)(pv iv:Value)(wr:World):Prop:=∃ (k:Nat) (T:TypeId) (x:Value) (D:Nat→Prop),k≤ds.length∧iv=.int .i64 k∧pv=.iface T x∧PaO ((ds.take k).foldl jcq P0) (.iface T x) D wr∧(∀ z,D z→D0 z∨W3.heap.size≤z)∧jac D0 W3 wr
theorem jmB{P:PA}(h:OkP P):∀ (ds:List Chg),(∀ c∈ds,c.bad=false)→OkP (ds.foldl jcq P)
 | [],_=>h
 | c :: ds,hc=>jmB (h.step (hc c List.mem_cons_self)) ds (fun d hd=>hc d (List.mem_cons_of_mem _ hd))
theorem jsn{P:PA}(h:OkP P)(ds:List Chg)(hc:ds.any Chg.bad=false)(k:Nat):OkP ((ds.take k).foldl jcq P):=jmB h _ fun c hcm=>by
 have:=List.any_eq_false.1 hc c (List.mem_of_mem_take hcm)
 cases e:c.bad with
 | false=>rfl
 | true=>exact absurd e this
structure UpB(W7:World)(S:List Nd5)(mb:Nat)(t:ByteArray)(U:List ByteArray)(k:Nat)(rv:Value)(wr:World):Prop where
 row:∃ n,SRow W7 wr rv n (t :: freshU S (U.take k))
 out:rv.ownBlock≠some mb
 tab:∃ es ck,Blk wr mb (.map (Tryz.ES.arr es) ck)∧∀ x:ByteArray,jaZ es x.data.toList=cntV (cntB (U.take k) x)
def jv5(W7:World)(S:List Nd5)(mb:Nat)(t:ByteArray)(U:List ByteArray)(rv iv:Value)(wr:World):Prop:=∃ k:Nat,k≤U.length∧iv=.int .i64 k∧UpB W7 S mb t U k rv wr
theorem jnP(L:List ByteArray)(x y:ByteArray):cntB (L++[x]) y=cntB L y+(if x.data.toList=y.data.toList then 1 else 0):=by
 unfold cntB;rw[List.map_append,List.count_append,List.map_cons,List.map_nil,List.count_singleton]
 simp
theorem jl7{α:Type}{l:List α}{k:Nat}{x:α}(h:l[k]?=some x):l.take (k+1)=l.take k++[x]:=by rw[List.take_add_one,h];rfl
end
section
open Go Go.RowKit
attribute [local go_sem] Oper.semAt_some
theorem UpdP.bad{w w':World}{S:List Nd5}{l:List Pair}{cs:List Chg}{x:Int}(h:jbX l cs=x)(h0:x≠0)(he:Ext w w'):UpdP w S l cs (.returned (.tuple #[.slice none 0 0,.int .i64 x])) w':=by
 unfold UpdP;rw[h,if_neg h0];exact⟨rfl,he⟩
theorem jxM(w:World)(hc:jch w)(he:ErrT w)(s bm:Nat)(room:Int)(S:List Nd5)(hs:jas w s bm room S)(hN:jjM S)(l:List Pair)(h:HasM S l)(u:Value)(cs:List Chg)(hu:RdC w u cs)(hnc:cs.length≤9223372036854775807)(hsc:∀ c∈cs,c.key.size≤9223372036854775807∧c.value.size≤9223372036854775807) :
  Calls Tryz.prog 33 #[.pointer (some ⟨s,0,none⟩),.string (rootM l),u] w (UpdP w S l cs):=by
 have HR:=Hd (juT w s bm room S hs hN l h);have HK:=Hd h.ok;have HCC:=Hd (And.intro hc he);have HST:=Hd hs;have hmo:=jaM h.ok;have HSM:=Hd (show (l.length≤9223372036854775807)∧∀ p∈l,p.1.size≤9223372036854775807∧p.2.size≤9223372036854775807 from⟨by have:=hmo.len;omega,fun p hp=>by have:=hmo.size p hp;omega⟩);have HAPP:=Hd (fun(w2:World) (v:Value) (hv:RdP w2 v l) (e:Ext w w2)=>jt9 w2 v u l cs hv (hu.ext e) HSM.o.1 hnc HSM.o.2 hsc)
 obtain⟨a,c,hus⟩:=hu.sl
 subst hus
 obtain⟨P,hP⟩:∃ P,P=ja2 13 (jaP l):=⟨_,rfl⟩
 have HP:=Hd hP;have hee:=jeP P;have HRR:=Hd (fun(w3:World) (v:Value) (hv:RdP w3 v l) (e:Ext w w3)=>jvi w3 v l (hc.ext e) hv h.ok);have HRD:=Hd (show shaB (jaT l).text=rootM l from rfl);rw[HRD.o]at HRR;clear hs hN h hP hc he hmo hu hsc HRD
 obtain⟨rt,hrt⟩:∃ rt,rt=rootM l:=⟨_,rfl⟩
 rw[←hrt]at HR HRR ⊢;clear hrt;go_enter Tryz.func33,Tryz.ntmps33;go_wp2_with fail
 refine HR.o.mono ?_;rintro e w1 ⟨T,x,rfl,hM⟩;have HM:=Hd hM;have hmt:=hM.pa.at'.meth;rw[←HP.o]at hmt;have hme:∀ w,(Go.method (469+1) T x "guilloche/trie.entries").run Tryz.prog w=.ok (jgf P,x) w:=hmt.ent;have HC:=Hd (jwI w1 w1 l HK.o T x _ hM.pa (ExtR w1));rw[←HP.o]at HC;clear hM hmt;go_wp2_with fail
 refine HC.o.mono ?_;rintro e w2 ⟨v,rfl,h1⟩;have H1:=Hd h1;have HE2:=Hd (HM.o.ext.trans h1.ext);have HPA2:=Hd (And.intro (HM.o.pa.ext h1.ext) h1.ext.size);rw[←HP.o]at HPA2;have HA:=Hd (HAPP.o w2 v h1.rd HE2.o)
 obtain⟨a1,c1,hv⟩:=h1.sl
 subst hv;clear h1 hme HAPP HC;go_wp2_with fail
 refine HA.o.mono ?_;rintro e w3 hap;unfold jeJ at hap
 by_cases h0:jbX l cs=0
 case neg =>
  rw[if_neg h0]at hap
  obtain⟨rfl,hE⟩:=hap
  have HX:=Hd (HE2.o.trans hE)
  obtain⟨x0,hx0⟩:∃ x0,x0=jbX l cs:=⟨_,rfl⟩
  have HX0:=Hd hx0.symm;rw[←hx0]at h0 ⊢;clear hE hx0;go_wp2_with fail
  go_ret2;exact UpdP.bad HX0.o h0 HX.o
 rw[if_pos h0]at hap
 obtain⟨r,rfl,h3⟩:=hap
 have HK0:=Hd h0;have hcm:=jfD h0
 obtain⟨m,hm⟩:∃ m,m=jds (jfx l cs):=⟨_,rfl⟩
 rw[←hm]at h3 hcm;have HMM:=Hd hm;have HCM:=Hd hcm;have hmo:=jaM hcm;have HSM2:=Hd (show (m.length≤9223372036854775807)∧∀ p∈m,p.1.size≤9223372036854775807∧p.2.size≤9223372036854775807 from⟨by have:=hmo.len;omega,fun p hp=>by have:=hmo.size p hp;omega⟩);have HE3:=Hd (HE2.o.trans h3.ext);have HPA3:=Hd (And.intro (HPA2.o.1.ext h3.ext) (Nat.le_trans HPA2.o.2 h3.ext.size));have HV:=Hd (And.intro (ERow.rd (H1.o.mono h3.ext)) h3.rd)
 obtain⟨a2,c2,hr⟩:=h3.sl
 subst hr;have HRO:=Hd (HRR.o w3 _ HV.o.1 HE3.o);clear h3 hmo hcm hm h0 HA H1 HRR;go_wp2_with fail
 refine HRO.o.mono ?_;rintro e w4 ⟨rfl,hE⟩;have HE4:=Hd (HE3.o.trans hE);have HPA4:=Hd (And.intro (HPA3.o.1.ext hE) (Nat.le_trans HPA3.o.2 hE.size));have HDI:=Hd (jwk w4 _ _ l m (HV.o.1.ext hE) (HV.o.2.ext hE) HSM.o.1 HSM2.o.1 HSM.o.2 HSM2.o.2);clear hE HRO;go_wp2_with fail
 refine HDI.o.mono ?_;rintro e w5 ⟨dv,rfl,hd⟩;have HD:=Hd hd;have HE5:=Hd (HE4.o.trans hd.ext);have HPA5:=Hd (And.intro (HPA4.o.1.ext hd.ext) (Nat.le_trans HPA4.o.2 hd.ext.size));have hmk:=jnT HK.o HCM.o;have hdl:=jnS (jaM HK.o).len (jaM HCM.o).len
 obtain⟨ds,hds⟩:∃ ds,ds=jgA l m:=⟨_,rfl⟩
 rw[←hds]at HD hmk hdl;have HMK:=Hd hmk
 obtain⟨a3,c3,hdv⟩:=hd.sl
 rw[←hds]at hdv;subst hdv;clear hd hmk hds HDI;have HOKP:=Hd (jwN HK.o);rw[←HP.o]at HOKP;have HRDD:=Hd HD.o.rdT;go_wp2_with fail
 go_loopw [8,56] (fun pv iv wr=>jv4 w5 (jjN w w1) P ds pv iv wr) (fun _ iv _=>ds.length - (intOf iv).toNat)
 case atStart=>exact⟨0,T,x,jjN w w1,by omega,rfl,rfl,HPA5.o.1,fun z hz=>.inl hz,(ExtR w5).mono (fun _ _ e=>e.elim)⟩
 case round =>
  obtain⟨k,Tk,xk,D,hk,rfl,rfl,hpo,hD,hkp⟩:=hrel
  by_cases hlt:k < ds.length
  ·rcases HRDD.o with⟨_,_,_,hz⟩ |⟨b,o,cd,hh,hb,hcd,hcell⟩
   ·rw[hz]at hlt;cases hlt
   cases hh
   obtain⟨p,hp⟩:∃ p,ds[k]?=some p:=⟨_,List.getElem?_eq_getElem hlt⟩
   obtain⟨q1,q2,q3⟩:=hcell k p hp
   have hbw:¬ jjN w w1 b:=fun e=>by have h1:=HD.o.new b rfl;have h2:=HPA4.o.2;have h3:=e.2;omega
   have q1:=jat q1 hkp hbw;have q2:=jat q2 hkp hbw;have q3:=jat q3 hkp hbw;have hpb:p.bad=false:=by
    cases e:p.bad with
    | false=>rfl
    | true=>exact absurd (jtx hp e) (by rw[HMK.o.fine];simp)
   have hky:=jmK hpb;have b1:(k:Int) < (ds.length:Int):=by omega
   have hokk:=jsn HOKP.o ds HMK.o.fine k;have hstep:(ds.take (k+1)).foldl jcq P=jcq ((ds.take k).foldl jcq P) p:=by rw[jl7 hp,List.foldl_append];rfl
   obtain⟨Q,hQ⟩:∃ Q,Q=(ds.take k).foldl jcq P:=⟨_,rfl⟩
   rw[←hQ]at hpo hokk hstep;have HOK:=Hd (And.intro hokk (hokk.step hpb));have HSTEP:=Hd hstep;have hmt:=hpo.at'.meth;have HPO:=Hd (And.intro hpo (And.intro hD hkp))
   obtain⟨ky,vl,gn⟩:=p
   simp only at q1 q2 q3 hky;clear hcell hp hb hcd hbw hpb hokk hstep hpo hD hkp hQ;have hed:=jfg Q;have hep:=jhz Q;have hmd:∀ w,(Go.method (469+1) Tk xk "guilloche/trie.drop").run Tryz.prog w=.ok (jeX Q,xk) w:=hmt.drop;have hmp:∀ w,(Go.method (469+1) Tk xk "guilloche/trie.put").run Tryz.prog w=.ok (jjn Q,xk) w:=hmt.put;clear hmt;go_wp2_with fail
   have HKY:=Hd hky;clear q1 q2 q3;refine (jkQ _ ky (by omega)).mono ?_;rintro e w6 ⟨rfl,hE6⟩;have hB6:=(Blk.new wr (.cells #[.string ky,.string vl,.bool gn] 66)).keeps hE6 (fun e=>e);have hE6w:=((ExtR wr).alloc (.cells #[.string ky,.string vl,.bool gn] 66)).trans hE6;have q1:w6.cell? ⟨wr.heap.size,1,none⟩=some (.string vl):=hB6.cell (i:=1) (by rfl);have q2:w6.cell? ⟨wr.heap.size,2,none⟩=some (.bool gn):=hB6.cell (i:=2) (by rfl);have HE6:=Hd hE6w;have hps:(jbc ky).size≤900000:=by have:=jb9 ky;omega
   have HPS:=Hd hps;clear hE6 hB6 hE6w hky hps;cases gn with
   | true =>
    have HCALL:=Hd (jhd Q HOK.o.1.va w6 Tk xk D (jbc ky) (HPO.o.1.ext HE6.o) HPS.o (jed ky) HOK.o.1.dp9)
    obtain⟨pb,hpb⟩:∃ pb,pb=jbc ky:=⟨_,rfl⟩
    have HPB:=Hd hpb;rw[←hpb]at HCALL ⊢;clear hpb;go_wp2_with fail
    refine HCALL.o.mono ?_;rintro e w7 ⟨v7,rfl,hp7,hk7⟩;have hst7:(ds.take (k+1)).foldl jcq P=jbT Q pb:=by rw[HSTEP.o,HPB.o];rfl
    have hth:=HOK.o.2.there;rw[show jcq Q ⟨ky,vl,true⟩=jbT Q pb by rw[HPB.o];rfl]at hth
    obtain⟨T7,x7,rfl⟩:=hp7.form hth
    have HF:=Hd (show PaO ((ds.take (k+1)).foldl jcq P) (.iface T7 x7) (Grow D w6 w7) w7 from by rw[hst7];exact PaTo.own hp7 hk7 (HPO.o.1.ext HE6.o).lt);have HK7:=Hd hk7;clear hp7 hk7 hst7 hth;go_wp2_with fail
    go_roundw
    case rel=>exact⟨k+1,T7,x7,_,by omega,by go_num,rfl,HF.o,fun z hz=>by
     rcases hz with hz | hz
     ·exact HPO.o.2.1 z hz
     ·exact .inr (Nat.le_trans HPO.o.2.2.size (Nat.le_trans HE6.o.size hz.1)),HPO.o.2.2.trans' ((HE6.o.mono (fun _ _ e=>e.elim)).trans HK7.o) (fun z hz e=>(HPO.o.2.1 z e).resolve_right (by omega))⟩
    case measure=>simp[intOf];omega
   | false =>
    have HCALL:=Hd (jlU Q HOK.o.1.va w6 Tk xk D (jbc ky) vl (HPO.o.1.ext HE6.o) HPS.o (jed ky) HOK.o.1.dp9)
    obtain⟨pb,hpb⟩:∃ pb,pb=jbc ky:=⟨_,rfl⟩
    have HPB:=Hd hpb;rw[←hpb]at HCALL ⊢;clear hpb;go_wp2_with fail
    refine HCALL.o.mono ?_;rintro e w7 ⟨v7,rfl,hp7,hk7⟩;have hst7:(ds.take (k+1)).foldl jcq P=putP Q pb vl:=by rw[HSTEP.o,HPB.o];rfl
    have hth:=HOK.o.2.there;rw[show jcq Q ⟨ky,vl,false⟩=putP Q pb vl by rw[HPB.o];rfl]at hth
    obtain⟨T7,x7,rfl⟩:=hp7.form hth
    have HF:=Hd (show PaO ((ds.take (k+1)).foldl jcq P) (.iface T7 x7) (Grow D w6 w7) w7 from by rw[hst7];exact PaTo.own hp7 hk7 (HPO.o.1.ext HE6.o).lt);have HK7:=Hd hk7;clear hp7 hk7 hst7 hth;go_wp2_with fail
    go_roundw
    case rel=>exact⟨k+1,T7,x7,_,by omega,by go_num,rfl,HF.o,fun z hz=>by
     rcases hz with hz | hz
     ·exact HPO.o.2.1 z hz
     ·exact .inr (Nat.le_trans HPO.o.2.2.size (Nat.le_trans HE6.o.size hz.1)),HPO.o.2.2.trans' ((HE6.o.mono (fun _ _ e=>e.elim)).trans HK7.o) (fun z hz e=>(HPO.o.2.1 z e).resolve_right (by omega))⟩
    case measure=>simp[intOf];omega
  ·obtain rfl:k=ds.length:=by omega
   rw[List.take_length,HP.o,jsm HK.o HCM.o HMK.o]at hpo;have HWW:=Hd (show Ext w wr from HE5.o.trans' hkp (fun z hz e=>by have:=e.1;omega))
   obtain⟨W6,hW6⟩:∃ W6,W6=wr.alloc (.cells #[.slice none 0 0] 128):=⟨_,rfl⟩
   have hE6:Ext wr W6:=by rw[hW6];exact (ExtR wr).alloc _
   have hw6:WrAt wr.heap.size wr.heap.size (.slice none 0 0) [] W6:=⟨Nat.le_refl _,by rw[hW6];exact Blk.new wr _,World.ownsRow_nil _ _ _ _,fun b hb=>(by cases hb),fun _=>rfl⟩;have hcnt:cntP (ja2 13 (jaP m))=cntT 12 (jaP m):=ji3 12 _ (jbR (jaM HCM.o));have htop:=jqO 12 (jaP m) (jbR (jaM HCM.o)) wr W6 Tk xk D wr.heap.size (.slice none 0 0) [] (HCC.o.1.ext HWW.o) (HCC.o.2.ext HWW.o) hpo hE6 hw6 (by have:=ji2 (jaM HCM.o);have:([]:List ByteArray).length=0:=rfl;show 0+cntP (ja2 13 (jaP m))≤100000;omega);rw[List.nil_append,show textP (ja2 (12+1) (jaP m))=(jaT m).text from jvt HCM.o,show underP (ja2 (12+1) (jaP m))=belowM m from rfl]at htop;have HUL:=Hd (jjY HCM.o);have HRES:=Hd (show newM S (jeK l cs)=(jaT m).text :: freshU S (belowM m)from by unfold newM jeK;rw[←HMM.o])
   obtain⟨t,ht⟩:∃ t,t=(jaT m).text:=⟨_,rfl⟩
   obtain⟨U,hU⟩:∃ U,U=belowM m:=⟨_,rfl⟩
   rw[←ht, ←hU]at HRES;rw[←hU]at HUL;rw[←ht, ←hU]at htop;have HTOP:=Hd htop;have HW6:=Hd (And.intro hw6 (And.intro hE6 hW6));clear hpo hD hkp hE6 hw6 hcnt htop ht hU hW6;go_wp2_with fail
   rw[←HW6.o.2.2];refine HTOP.o.mono ?_;rintro e w7 ⟨rfl,v7,hT7⟩;have HT7:=Hd (And.intro hT7.at' (And.intro (HWW.o.trans (hT7.ext0 HW6.o.1 HW6.o.2.1 (Nat.le_refl _))) hT7.at'.var.lt))
   obtain⟨g,hg⟩:∃ g,g=wr.heap.size:=⟨_,rfl⟩
   rw[←hg]at HT7 ⊢;clear hT7 hg
   obtain⟨a7,c7,hv7⟩:=jay HT7.o.1.row
   obtain⟨n7,hn7⟩:∃ n,n=U.length:=⟨_,rfl⟩
   have HROW7:=Hd HT7.o.1.row;rw[←hn7]at hv7 HROW7;subst hv7;have HN7:=Hd hn7;have q7:=HT7.o.1.var.cell (i:=0) (v:=.slice a7 n7 c7) (by rfl);clear hn7;have hmm:(Instr.makeMap 101 none).run Tryz.prog (w7.alloc (.cells #[.string t] 9))=.ok (.map (some (w7.heap.size+1))) ((w7.alloc (.cells #[.string t] 9)).alloc (.map #[] 0)):=by
    rw[←World.size_alloc w7 (.cells #[.string t] 9)];exact Tryz.makeMapSI _
   obtain⟨W8,hW8⟩:∃ W8,W8=(w7.alloc (.cells #[.string t] 9)).alloc (.map #[] 0):=⟨_,rfl⟩
   obtain⟨mb,hmb⟩:∃ mb,mb=w7.heap.size+1:=⟨_,rfl⟩
   rw[←hW8, ←hmb]at hmm;have hX8:Ext w7 W8:=by rw[hW8];exact ((ExtR w7).alloc _).alloc _
   have hB8:Blk W8 mb (.map (Tryz.ES.arr []) 0):=by
    rw[hW8,hmb, ←World.size_alloc w7 (.cells #[.string t] 9)];exact Blk.new _ _
   have hL8:SRow w7 (w7.alloc (.cells #[.string t] 9)) (.slice (some ⟨w7.heap.size,0,none⟩) 1 1) 1 [t]:=ORow.lit (n:=1) #[.string t] (ExtR w7) (by decide) rfl;have hL8:SRow w7 W8 (.slice (some ⟨w7.heap.size,0,none⟩) 1 1) 1 [t]:=by rw[hW8];exact hL8.mono ((ExtR _).alloc _)
   have HU0:=Hd (show UpB w7 S mb t U 0 (.slice (some ⟨w7.heap.size,0,none⟩) 1 1) W8 from⟨⟨1,hL8⟩,fun e=>by injection e with e;have e:w7.heap.size=mb:=e;omega,[],0,hB8,fun y=>rfl⟩);have q7:=jaa q7 hX8;have HMB:=Hd (show w7.heap.size≤mb by omega);clear hW8 hmb hX8 hB8 hL8;go_wp2_with fail
   go_loopw [19,86] (fun rv iv wr=>jv5 w7 S mb t U rv iv wr) (fun _ iv _=>U.length - (intOf iv).toNat)
   case atStart=>exact⟨0,by omega,rfl,HU0.o⟩
   case round =>
    obtain⟨k,hk,rfl,hub⟩:=hrel
    by_cases hlt:k < U.length
    ·rcases Nat.eq_zero_or_pos n7 with h0 | h0
     ·have:=HN7.o;omega
     obtain⟨b7,rfl⟩:=jlQ HROW7.o (by omega)
     obtain⟨x,hx⟩:∃ x,U[k]?=some x:=⟨_,List.getElem?_eq_getElem hlt⟩
     obtain⟨⟨n,hrow⟩,hout,es,ck,h5,h6⟩:=hub
     obtain⟨ar,cr,hrv⟩:=hrow.sl
     subst hrv;have HX:=Hd hrow.ext;have qx:=jaa (jgM HROW7.o (j:=k) (u:=.string x) (by rw[List.getElem?_map,hx];rfl)) hrow.ext
     obtain⟨cn,hcn⟩:∃ cn,cn=cntB (U.take k) x:=⟨_,rfl⟩
     have hcl:cn≤1000000:=by
      rw[hcn];unfold cntB;refine Nat.le_trans List.count_le_length ?_;rw[List.length_map,List.length_take];have:=HUL.o;omega
     have e6:=h6 x;rw[←hcn]at e6;have hlk:(Instr.lookup 101 (.map (some mb)) (.string x) false).run Tryz.prog wr=.ok (.int .i64 (cn:Int)) wr:=by
      have:=jcN Tryz.ES Tryz.uMapSI h5 (Tryz.zeroI wr) x.data.toList false
      rw[e6]at this;unfold cntV at this
      by_cases h0:cn=0
      ·rw[if_pos h0]at this;rw[h0];exact this
      ·rw[if_neg h0]at this;exact this
     obtain⟨es2',hes2⟩:∃ es2,es2=jbz es x.data.toList (.int .i64 ((cn:Int)+1)) ck:=⟨_,rfl⟩
     obtain⟨ck2',hck2⟩:∃ ck2,ck2=(if (jaZ es x.data.toList).isSome then ck else ck+1):=⟨_,rfl⟩
     obtain⟨W2,hW2⟩:∃ W2,W2=wr.putObj mb (.map (Tryz.ES.arr es2') ck2'):=⟨_,rfl⟩
     have hmu:(Instr.mapUpdate 101 (.map (some mb)) (.string x) (.int .i64 ((cn:Int)+1))).run Tryz.prog wr=.ok () W2:=by
      have:=jcu Tryz.ES Tryz.uMapSI h5 x.data.toList (.int .i64 ((cn:Int)+1))
      rw[←hes2, ←hck2, ←hW2]at this;exact this
     have B2:Blk W2 mb (.map (Tryz.ES.arr es2') ck2'):=by rw[hW2];exact h5.put_same _
     have e7:∀ y:ByteArray,jaZ es2' y.data.toList=cntV (cntB (U.take (k+1)) y):=fun y=>by
      rw[hes2,jc6,h6 y,jl7 hx,jnP]
      by_cases hxy:y.data.toList=x.data.toList
      ·have hyx:y=x:=ByteArray.ext (Array.ext' hxy)
       subst hyx;rw[if_pos rfl,if_pos rfl, ←hcn];unfold cntV;rw[if_neg (by omega)];simp
      ·rw[if_neg hxy,if_neg (fun e=>hxy e.symm)];rfl
     have hlk2:∀ W3,Ext W2 W3→(Instr.lookup 101 (.map (some mb)) (.string x) false).run Tryz.prog W3=.ok (.int .i64 ((cn:Int)+1)) W3:=fun W3 e3=>by
      have:=jcN Tryz.ES Tryz.uMapSI (B2.keeps e3 (fun e=>e)) (Tryz.zeroI W3) x.data.toList false
      rw[hes2,jc6,if_pos rfl]at this;exact this
     have K2:jac (fun z=>z=mb) wr W2:=by rw[hW2];exact jac.onePut _ _ _
     have O2:SRow w7 W2 (.slice ar n cr) n (t :: freshU S (U.take k)):=hrow.keeps K2 (fun b hb e=>hout (by rw[hb];exact congrArg some e)) (fun b hb e=>by have e:b=mb:=e;have:=HMB.o;omega);have HLEN:=Hd (show n≤119 by
      have h1:=hrow.len;rw[List.length_map,List.length_cons]at h1;have h2:=jko S (U.take k);rw[List.length_take]at h2
      have:=HUL.o;omega)
     have HMEM:=Hd (show memB (jbf (U.take k)) x=true↔cn≠0 from by
      rw[jfl,jbm,hcn];unfold cntB;rw[←Nat.pos_iff_ne_zero,List.count_pos_iff,List.mem_map]
      exact⟨fun hm=>⟨x,hm,rfl⟩,fun ⟨y,hy,e⟩=>by rw[←show y=x from ByteArray.ext (Array.ext' e)];exact hy⟩)
     have HFS:=Hd (jn1 S (U.take k) x);rw[←jl7 hx]at HFS;have HTAB:=Hd (show ∀ W3,Ext W2 W3→∃ es ck,Blk W3 mb (.map (Tryz.ES.arr es) ck)∧∀ y:ByteArray,jaZ es y.data.toList=cntV (cntB (U.take (k+1)) y)from fun W3 e3=>⟨es2',ck2',B2.keeps e3 (fun e=>e),e7⟩);have HT2:=Hd (And.intro B2 e7);have HLK:=Hd hlk2;have HO2:=Hd O2;have HOUT:=Hd hout;have b1:(k:Int) < (n7:Int):=by have:=HN7.o;omega
     have HK1:=Hd (And.intro hk hlt);have hul:=HUL.o;clear hrow hout h5 h6 hx hcn e6 hes2 hck2 hW2 B2 e7 hlk2 K2 O2 h0
     by_cases hc0:cn=0
     ·subst hc0
      have HNM:=Hd (show memB (jbf (U.take k)) x=false by
       cases hm:memB (jbf (U.take k)) x with
       | false=>rfl
       | true=>exact absurd rfl (HMEM.o.1 hm))
      have hlk':(Instr.lookup 101 (.map (some mb)) (.string x) false).run Tryz.prog wr=.ok (.int .i64 0) wr:=hlk;have hmu':(Instr.mapUpdate 101 (.map (some mb)) (.string x) (.int .i64 1)).run Tryz.prog wr=.ok () W2:=hmu;have HLK':=Hd (show ∀ W3,Ext W2 W3→(Instr.lookup 101 (.map (some mb)) (.string x) false).run Tryz.prog W3=.ok (.int .i64 1) W3 from HLK.o);clear hlk hmu HLK;go_wp2_with fail
      refine (of_t _ _ [x] (by simp) (je0 W2 [x] 9) (HCC.o.1.ext (HT7.o.2.1.trans (HO2.o.ext.alloc _)))).mono ?_;rintro e w8 ⟨rfl,hE8⟩;rw[jer];have hE8:=((ExtR W2).alloc (.cells #[.string x] 9)).trans hE8;have HE8:=Hd hE8;have HGET:=Hd (jh2 w8 s bm room S (shaB x) (HST.o.ext (HT7.o.2.1.trans (HO2.o.ext.trans hE8))));have HLB:=Hd (show lackB S x=(atL S (shaB x).data.toList).isNone from rfl)
      obtain⟨ag,hag⟩:∃ ag,ag=atL S (shaB x).data.toList:=⟨_,rfl⟩
      rw[←hag]at HGET HLB
      obtain⟨sx,hsx⟩:∃ sx,sx=shaB x:=⟨_,rfl⟩
      rw[←hsx]at HGET ⊢;clear hE8 hag hsx qx;cases ag with
      | some y =>
       obtain⟨ty,hty⟩:∃ ty,ty=y.2.2.text:=⟨_,rfl⟩
       have HG2:=Hd (show Calls Tryz.prog 29 #[.pointer (some ⟨s,0,none⟩),.string sx] w8 (fun e w'=>e=.returned (.tuple #[.string y.2.2.text,.bool true])∧Ext w8 w')from HGET.o);go_wp2_with fail
       refine HG2.o.mono ?_;rintro e w9 ⟨rfl,hE9⟩;have HE9:=Hd (HE8.o.trans hE9);clear hE9;rw[←hty];clear hty;have hfr:freshU S (U.take (k+1))=freshU S (U.take k):=by rw[HFS.o];rw[if_neg (by rw[HNM.o];simp),if_neg (by rw[HLB.o];simp),List.append_nil]
       have HF:=Hd hfr;clear hfr;go_wp2_with fail
       go_roundw
       case rel=>exact⟨k+1,by have:=HK1.o;omega,by go_num,⟨n,by rw[HF.o];exact HO2.o.mono HE9.o⟩,HOUT.o,HTAB.o w9 HE9.o⟩
       case measure=>simp[intOf];omega
      | none =>
       have HG2:=Hd (show Calls Tryz.prog 29 #[.pointer (some ⟨s,0,none⟩),.string sx] w8 (fun e w'=>e=.returned (.tuple #[.string ⟨#[]⟩,.bool false])∧Ext w8 w')from HGET.o);go_wp2_with fail
       refine HG2.o.mono ?_;rintro e w9 ⟨rfl,hE9⟩;have HE9:=Hd (HE8.o.trans hE9);clear hE9;have hlk3:=HLK'.o w9 HE9.o;have hm1:n+1≤maxLen:=by have:=HLEN.o;unfold maxLen;omega
       have hm2:(n+1) * 16≤140737488355328:=by have:=HLEN.o;omega
       go_wp2_with (at_builtin;refine jbv Tryz.sStrs ((HO2.o.mono HE9.o).mono ((ExtR w9).alloc _)) (.tmp 110) (.tmp 112) rfl rfl rfl (ja9 (Blk.new w9 _)) (news:=[.string x]) (by intro u hu;simp at hu;rcases hu with rfl;rfl) rfl rfl hm1 hm2 ?_;intro v' w' r1 r2 r3)
       have r1':SRow w7 w' v' (n+1) (t :: freshU S (U.take (k+1))):=by
        have e1:freshU S (U.take (k+1))=freshU S (U.take k)++[x]:=by rw[HFS.o,if_neg (by rw[HNM.o];simp),if_pos (by rw[HLB.o];rfl)]
        unfold SRow;rw[e1, ←List.cons_append,List.map_append];exact r1
       obtain⟨ar',cr',rfl⟩:=r1'.sl
       have hlt9:=(HT2.o.1.keeps HE9.o (fun e=>e)).lt;have HR9:=Hd (And.intro r1' (show (Value.slice ar' (n+1) cr').ownBlock≠some mb from fun e=>by
        rcases r3 with r3 | r3
        ·exact HOUT.o (r3 ▸ e)
        ·have:=r3 mb e;rw[World.size_alloc]at this;omega))
       have HT9:=Hd (((HT2.o.1.keeps HE9.o (fun e=>e)).alloc (.cells #[.string x] 9)).keeps r2 (fun e=>HOUT.o e));clear r1 r2 r3 r1' hlt9;go_wp2_with fail
       go_roundw
       case rel=>exact⟨k+1,by have:=HK1.o;omega,by go_num,⟨n+1,HR9.o.1⟩,HR9.o.2,es2',ck2',HT9.o,HT2.o.2⟩
       case measure=>simp[intOf];omega
     ·have hc1:¬((cn:Int)+1=1):=by omega
      have hc2:(((cn:Int)+1) == 1)=false:=by simp;omega
      have HNM:=Hd (HMEM.o.2 hc0);go_wp2_with fail
      refine (of_t _ _ [x] (by simp) (je0 W2 [x] 9) (HCC.o.1.ext (HT7.o.2.1.trans (HO2.o.ext.alloc _)))).mono ?_;rintro e w8 ⟨rfl,hE8⟩;rw[jer];have hE8:=((ExtR W2).alloc (.cells #[.string x] 9)).trans hE8;have HE8:=Hd hE8;have HGET:=Hd (jh2 w8 s bm room S (shaB x) (HST.o.ext (HT7.o.2.1.trans (HO2.o.ext.trans hE8))))
      obtain⟨ag,hag⟩:∃ ag,ag=atL S (shaB x).data.toList:=⟨_,rfl⟩
      rw[←hag]at HGET
      obtain⟨sx,hsx⟩:∃ sx,sx=shaB x:=⟨_,rfl⟩
      rw[←hsx]at HGET ⊢;clear hE8 hag hsx qx hlk hmu;have hfr:freshU S (U.take (k+1))=freshU S (U.take k):=by rw[HFS.o,if_pos HNM.o,List.append_nil]
      have HF:=Hd hfr;clear hfr;cases ag with
      | some y =>
       obtain⟨ty,hty⟩:∃ ty,ty=y.2.2.text:=⟨_,rfl⟩
       have HG2:=Hd (show Calls Tryz.prog 29 #[.pointer (some ⟨s,0,none⟩),.string sx] w8 (fun e w'=>e=.returned (.tuple #[.string y.2.2.text,.bool true])∧Ext w8 w')from HGET.o);go_wp2_with fail
       refine HG2.o.mono ?_;rintro e w9 ⟨rfl,hE9⟩;have HE9:=Hd (HE8.o.trans hE9);clear hE9;rw[←hty];clear hty;go_wp2_with fail
       go_roundw
       case rel=>exact⟨k+1,by have:=HK1.o;omega,by go_num,⟨n,by rw[HF.o];exact HO2.o.mono HE9.o⟩,HOUT.o,HTAB.o w9 HE9.o⟩
       case measure=>simp[intOf];omega
      | none =>
       have HG2:=Hd (show Calls Tryz.prog 29 #[.pointer (some ⟨s,0,none⟩),.string sx] w8 (fun e w'=>e=.returned (.tuple #[.string ⟨#[]⟩,.bool false])∧Ext w8 w')from HGET.o);go_wp2_with fail
       refine HG2.o.mono ?_;rintro e w9 ⟨rfl,hE9⟩;have HE9:=Hd (HE8.o.trans hE9);clear hE9;have hlk3:=HLK.o w9 HE9.o;go_wp2_with fail
       go_roundw
       case rel=>exact⟨k+1,by have:=HK1.o;omega,by go_num,⟨n,by rw[HF.o];exact HO2.o.mono HE9.o⟩,HOUT.o,HTAB.o w9 HE9.o⟩
       case measure=>simp[intOf];omega
    ·obtain rfl:k=U.length:=by omega
     obtain⟨⟨n,hrow⟩, -, -⟩:=hub
     obtain⟨ar,cr,hrv⟩:=hrow.sl
     subst hrv;rw[List.take_length]at hrow;have HROW:=Hd hrow;have hb2:¬((U.length:Int) < (n7:Int)):=by have:=HN7.o;omega
     clear hrow;go_wp2_with fail
     go_ret2;unfold UpdP;rw[if_pos HK0.o,HRES.o];have hn:(t :: freshU S U).length=n:=by have:=HROW.o.len;simpa using this
     rw[hn]
     exact⟨_,rfl,HROW.o.sl,HROW.o.own,HT7.o.2.1.trans HROW.o.ext,fun b hb=>Nat.le_trans HT7.o.2.1.size (HROW.o.new b hb)⟩
def ComP(w:World)(s bm:Nat)(room:Int)(S:List Nd5)(l:List Pair)(cs:List Chg)(e:Ending)(w':World):Prop:=
 (jbX l cs≠0∧e=.returned (.tuple #[.string ⟨#[]⟩,.int .i64 (jbX l cs)])∧Ext w w')∨(jbX l cs=0∧∃ w1,Ext w w1∧joD False w1 s bm room S (newM S (jeK l cs)) e w')
theorem ComP.bad{w w':World}{s bm:Nat}{room:Int}{S:List Nd5}{l:List Pair}{cs:List Chg}{x:Int}(h:jbX l cs=x)(h0:x≠0)(hE:Ext w w'):ComP w s bm room S l cs (.returned (.tuple #[.string ⟨#[]⟩,.int .i64 x])) w':=by
 subst h;exact .inl ⟨h0,rfl,hE⟩
theorem ComP.go{w w1 w':World}{s bm:Nat}{room:Int}{S:List Nd5}{l:List Pair}{cs:List Chg}{L:List ByteArray}{e:Ending}(h:jbX l cs=0)(hL:L=newM S (jeK l cs))(hE:Ext w w1)(hA:joD False w1 s bm room S L e w'):ComP w s bm room S l cs e w':=by
 subst hL;exact .inr ⟨h,w1,hE,hA⟩
theorem jqv{S:List Nd5}{m:List Pair}(h:jaS m=0):(newM S m).length≤119:=by
 unfold newM;rw[List.length_cons];have h1:=jko S (belowM m);have h2:=jjY h;omega
theorem juU{S:List Nd5}{m:List Pair}(h:jaS m=0){t:ByteArray}(ht:t∈newM S m):t∈jaI (jaT m):=by
 unfold newM at ht;have e:jaI (jaT m)=(jaT m).text :: belowM m:=by rw[jrM h];show jaI (.mk _ _)=_;rw[jaI];rfl
 rw[e];rcases List.mem_cons.1 ht with rfl | ht
 ·exact List.mem_cons_self
 ·unfold freshU at ht
  exact List.mem_cons_of_mem _ ((jbm _ _).1 (List.mem_filter.1 ht).1)
theorem jqw{S:List Nd5}{m:List Pair}(h:jaS m=0):∀ t∈newM S m,∃ n,jbW t n:=fun t ht=>by
 obtain⟨n,hn,_⟩:=(jlb h).node t ((jbm _ _).2 (juU h ht))
 exact⟨n,hn⟩
theorem jrX(w:World)(hc:jch w)(he:ErrT w)(s bm:Nat)(room:Int)(S:List Nd5)(hs:jas w s bm room S)(hN:jjM S)(l:List Pair)(h:HasM S l)(u:Value)(cs:List Chg)(hu:RdC w u cs)(hnc:cs.length≤9223372036854775807)(hsc:∀ c∈cs,c.key.size≤9223372036854775807∧c.value.size≤9223372036854775807)(hr0:0≤room)(hr1:room≤9223372036854775807)(hS:S.length≤100000)(hSu:∀ x∈S,0≤x.2.2.used∧x.2.2.used≤1000000000)(hSh:∀ x∈S,0≤x.2.2.held∧x.2.2.held≤1000000000) :
  Calls Tryz.prog 35 #[.pointer (some ⟨s,0,none⟩),.string (rootM l),u] w (ComP w s bm room S l cs):=by
 have HU:=Hd (jxM w hc he s bm room S hs hN l h u cs hu hnc hsc);have HCC:=Hd (And.intro hc he);have HST:=Hd hs;have HB:=Hd (And.intro hS (And.intro hSu hSh));have HR:=Hd (And.intro hr0 hr1)
 obtain⟨a,c,hus⟩:=hu.sl
 subst hus
 obtain⟨rt,hrt⟩:∃ rt,rt=rootM l:=⟨_,rfl⟩
 rw[←hrt]at HU ⊢;clear hrt hs hN h hc he hu hnc hsc hS hSu hSh hr0 hr1;go_enter Tryz.func35,Tryz.ntmps35;go_wp2_with fail
 refine HU.o.mono ?_;rintro e w1 hU;unfold UpdP at hU
 by_cases h0:jbX l cs=0
 case neg =>
  rw[if_neg h0]at hU
  obtain⟨rfl,hE⟩:=hU
  have HX:=Hd hE
  obtain⟨x0,hx0⟩:∃ x0,x0=jbX l cs:=⟨_,rfl⟩
  have HX0:=Hd hx0.symm;rw[←hx0]at h0 ⊢;have H0:=Hd h0;have hne:(x0 != 0)=true:=by simpa using h0
  have hnb:(x0 == 0)=false:=by simpa using h0
  clear hE hx0 h0;go_wp2_with fail
  go_ret2;exact ComP.bad HX0.o H0.o HX.o
 rw[if_pos h0]at hU
 obtain⟨r,rfl,hR⟩:=hU
 have H0:=Hd h0;have hcm:=jfD h0;have hcm:jaS (jeK l cs)=0:=hcm;have hL1:=jqv (S:=S) hcm;have HRD:=Hd hR.rd;have HX:=Hd hR.ext;have HAN:=Hd (jie (jqw (S:=S) hcm));have HTOP:=Hd (show (newM S (jeK l cs))[0]?=some (jaT (jeK l cs)).text from rfl)
 obtain⟨L,hL⟩:∃ L,L=newM S (jeK l cs):=⟨_,rfl⟩
 rw[←hL]at HRD HAN HTOP hL1 hR;have HLL:=Hd hL;have HL1:=Hd hL1
 obtain⟨a3,c3,e3⟩:=hR.sl
 subst e3
 obtain⟨top,htop⟩:∃ top,top=(jaT (jeK l cs)).text:=⟨_,rfl⟩
 rw[←htop]at HTOP;clear hR hL h0 hcm hL1 htop;go_wp2_with fail
 refine (joP w1 (HCC.o.1.ext HX.o) (HCC.o.2.ext HX.o) s bm room S (HST.o.ext HX.o) _ L HRD.o False HAN.o (by have:=HL1.o;omega) top HTOP.o HR.o.1 HR.o.2 HB.o.1 HB.o.2.1 HB.o.2.2).mono ?_;intro e w2 hA;have HA:=Hd hA;rcases hA with⟨k,_,_,rfl,_⟩ |⟨_,_,_,_,hY⟩
 ·go_wp2_with fail
  go_ret2;exact ComP.go H0.o HLL.o HX.o HA.o
 ·have hre:=hY.res
  subst hre;clear hY;go_wp2_with fail
  go_ret2;exact ComP.go H0.o HLL.o HX.o HA.o
end
section
open Go Go.RowKit
end
section
open Go Go.RowKit
attribute [local go_sem] Oper.semAt_some
end
section
open Go Go.RowKit
end
section
open Go Go.RowKit
attribute [local go_sem] Oper.semAt_some
end
section
open Go Go.RowKit
end
section
open Go Go.RowKit
attribute [local go_sem] Oper.semAt_some
structure Tst(W0 W:World)(s bm:Nat)(room:Int)(U:List ByteArray)(S:List Nd5)(n:Nat):Prop where
 ext:Ext W0 W
 st:jas W s bm room S
 kp:Kp U S
 len:S.length≤n
 bnew:W0.heap.size≤bm
 new:∀ x∈S,W0.heap.size≤x.2.1
 hb:∀ x∈S,x.2.2.held≤n
theorem Tst.bds{W0 W:World}{s bm:Nat}{room:Int}{U:List ByteArray}{S:List Nd5}{n:Nat}(h:Tst W0 W s bm room U S n)(hn:n≤5000):S.length≤100000∧(∀ x∈S,0≤x.2.2.used∧x.2.2.used≤1000000000)∧(∀ x∈S,0≤x.2.2.held∧x.2.2.held≤1000000000):=
 ⟨by have:=h.len;omega,h.kp.bd (by have:=h.len;omega),fun x hx=>⟨h.kp.cnt.held x hx,by have:=h.hb x hx;omega⟩⟩
theorem jdQ.tst{l:List Pair}{w w':World}{s bm:Nat}{S:List Nd5}(h:jdQ l w s bm S w'):Tst w w' s bm 2000 (jcg l) S 121:=
 ⟨h.ext,h.st,h.kp,h.len,h.bnew,h.new,fun x hx=>by have:=h.hb x hx;omega⟩
end
section
open Go Go.RowKit
def je6(c:Chg):Bool:=decide (c.key.size≤20) && decide (c.value.size≤100)
def fewC(l:List Chg):Bool:=l.all je6 && decide (l.length≤45)
def jvK(w:World)(l:List Chg)(i:Value)(wr:World):Prop:=∃ k:Nat,k≤l.length∧k≤46∧i=.int .i64 k∧Ext w wr∧(l.take k).all je6=true
theorem joX{l:List Chg}{k:Nat}{p:Chg}(h:l[k]?=some p):(l.take (k+1)).all je6=((l.take k).all je6 && je6 p):=by
 rw[List.take_add_one,h,List.all_append];simp
theorem jmd{l:List Chg}{k:Nat}{p:Chg}(h:l[k]?=some p)(hb:je6 p=false):fewC l=false:=by
 unfold fewC
 have:l.all je6=false:=by
  rw[Bool.eq_false_iff];intro h2
  have:=List.all_eq_true.1 h2 p (List.mem_of_getElem? h)
  rw[hb]at this;cases this
 rw[this];rfl
theorem jtE(w:World)(v:Value)(l:List Chg)(hv:RdC w v l)(hn:l.length≤9223372036854775807)(hs:∀ p∈l,p.key.size≤9223372036854775807∧p.value.size≤9223372036854775807) :
  Calls Tryz.prog 24 #[v] w fun e w'=>e=.returned (.bool (fewC l))∧Ext w w':=by
 have HV:=Hd hv;have HS:=Hd hs
 obtain⟨a,c,hsl⟩:=hv.sl
 subst hsl;clear hv hs
 obtain⟨R,hR⟩:∃ R,R=fewC l:=⟨_,rfl⟩
 rw[←hR];have HR:=Hd hR;clear hR;go_enter Tryz.func24,Tryz.ntmps24;go_wp2_with fail
 go_loopw [3] (fun i wr=>jvK w l i wr) (fun i _=>l.length - (intOf i).toNat)
 case atStart=>exact⟨0,by omega,by omega,rfl,ExtR w,rfl⟩
 case round =>
  obtain⟨k,hk,hk6,rfl,hE,hall⟩:=hrel
  have HE:=Hd hE;have HALL:=Hd hall;clear hE hall
  by_cases hlt:k < l.length
  ·have b1:(k:Int) < (l.length:Int):=by omega
   by_cases h45:k≤45
   ·have b2:(k:Int)≤45:=by omega
    obtain⟨p,hp⟩:∃ p,l[k]?=some p:=⟨_,List.getElem?_eq_getElem hlt⟩
    rcases HV.o with⟨_,_,_,h0⟩ |⟨b,o,c1,hh,hb,hc,hcell⟩
    ·rw[h0]at hlt;cases hlt
    cases hh
    obtain⟨q1,q2,q3⟩:=hcell k p hp
    have q1:=jaa q1 HE.o;have q2:=jaa q2 HE.o;have q3:=jaa q3 HE.o;have hsp:=HS.o p (List.mem_of_getElem? hp);have HP:=Hd hp
    obtain⟨x,y,gn⟩:=p
    simp only at q1 q2 q3 hsp;clear hcell hb hc hp
    by_cases hx:20 < x.size
    ·have b3:(20:Int) < (x.size:Int):=by omega
     have HF:=Hd (show R=false by rw[HR.o];exact jmd HP.o (by unfold je6;simp;omega));clear hx;go_wp2_with fail
     go_ret
     exact⟨by rw[HF.o];rfl,HE.o⟩
    ·have b3:¬(20:Int) < (x.size:Int):=by omega
     by_cases hy:100 < y.size
     ·have b4:(100:Int) < (y.size:Int):=by omega
      have HF:=Hd (show R=false by rw[HR.o];exact jmd HP.o (by unfold je6;simp;omega));clear hx hy;go_wp2_with fail
      go_ret
      exact⟨by rw[HF.o];rfl,HE.o⟩
     ·have b4:¬(100:Int) < (y.size:Int):=by omega
      have HG:=Hd (show (l.take (k+1)).all je6=true by rw[joX HP.o,HALL.o];unfold je6;simp;omega);clear hx hy;go_wp2_with fail
      go_roundw
      case rel=>exact⟨k+1,by omega,by omega,by go_num,HE.o,HG.o⟩
      case measure=>simp[intOf];omega
   ·have b2:¬(k:Int)≤45:=by omega
    have b3:¬(l.length:Int)≤45:=by omega
    have HF:=Hd (show R=false by rw[HR.o];unfold fewC;simp;omega);clear h45;go_wp2_with fail
    go_ret
    exact⟨by rw[HF.o];rfl,HE.o⟩
  ·have hkl:k=l.length:=by omega
   have b1:¬(k:Int) < (l.length:Int):=by omega
   have hall:=HALL.o;rw[hkl,List.take_length]at hall
   by_cases h45:l.length≤45
   ·have b2:(l.length:Int)≤45:=by omega
    have HF:=Hd (show R=true by rw[HR.o];unfold fewC;rw[hall];simp;omega);clear hkl hall h45;go_wp2_with fail
    go_ret
    exact⟨by rw[HF.o];rfl,HE.o⟩
   ·have b2:¬(l.length:Int)≤45:=by omega
    have HF:=Hd (show R=false by rw[HR.o];unfold fewC;simp;omega);clear hkl hall h45;go_wp2_with fail
    go_ret
    exact⟨by rw[HF.o];rfl,HE.o⟩
end
end Go.Proofs.YtpaacnhboilkkaaGreatDoor
