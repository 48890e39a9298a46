/- Lemmas; each is under no condition but those that it states. -/
import Derived.Test.YtnkdaacmpceghaaGreatDoorPa25
namespace Go.Proofs.YtnkdaacmpceghaaGreatDoor
set_option linter.unusedSimpArgs false
set_option linter.unusedVariables false
set_option maxRecDepth 100000
set_option maxHeartbeats 16000000
open Go Go.RowKit
variable (o:Option vB)(args:Array vV)(W w:vW)(k:Int)(D:Nat->Prop)(b wb z s bm cb mb tg:Nat)(p fr:vB){af:Array Edge}{tmps:Array vV}{F:BSet}{Q:Exit->Act->vW->Prop}{fn:Func}{room:Int}{es:List (Ent Int)}{cs:List Chg}{M:MdN}{f g1 i u L sz c sb ck rm:Nat}{q fz:Nat × Nat}{x y:Operand}{g:Option (Nat × Bool)}{a a6:Option Addr}{d:Option Tmp}{P:Program}{pos:String}{n:jae}{r t root key:vB}{S S1 G:vT}{v ev m v1 v2:vV}{w0 W':vW}
def jfh(es:List (Ent Int))(M:MdN):vB:=match jay es ((jb9 M).block:Int)with | some (.string r)=>r | _=>⟨#[]⟩
def ChF(b rm bm:Nat)(S:vT):BSet:=fun z=>z=b\/z=rm\/z=bm\/z∈S.map (·.2.1)
def jgN(es:List (Ent Int))(M:MdN)(t:vB)(ck:Nat):List (Ent Int):=es++[((M.next:Int),.string t,ck)]
def CmP(w0 w:vW)(b:Nat)(M:MdN)(cs:List Chg)(I:vW->Prop)(rm sb cb:Nat)(es:List (Ent Int))(ck bm:Nat)(room:Int)(S:vT)(n:Nat)(N:Int->Prop)(R:vB->vT->Prop)(e:Ending)(w':vW):Prop:=
 (∃ k:Int,k≠0/\((jaU M cs).2.2=k\/(jaU M cs).2.2=0/\N k)/\e=.returned (.tuple #[.int .i64 0,.int .i64 k])/\I w'/\jac (fun z=>z=b) w w') \/
 ((jaU M cs).2.2=0/\∃ t S1 S' D' a' c',R t S1/\e=.returned (.tuple #[.int .i64 (M.next:Int),.int .i64 0])/\ChI w0 D' w' b (jaU M cs).1 a' c' rm sb cb ((jgN es M t ck).filter fun x=>hasB (jaU M cs).1.all x.1) (ck+1) bm room S' (n+1000)/\jac (ChF b rm bm S) w w'/\(∀ x∈S',x.2.1∈S.map (·.2.1)\/w.heap.size<=x.2.1)/\((∀ x∈jgN es M t ck,hasB (jaU M cs).1.all x.1=true)->S'=S1)/\∀ z,D' z->w.heap.size<=z)
theorem jlA(h:∀ x∈es,∃ r,x.2.1=.string r):(jay es ((jb9 M).block:Int)).getD (.string ⟨#[]⟩)=.string (jfh es M):=by
 unfold jfh;cases e:jay es ((jb9 M).block:Int)with
 | none=>rfl
 | some v =>
  have:∃ r,v=.string r:=by
   unfold jay at e;rw[cM]at e
   obtain⟨x,q,rfl⟩:=e
   exact h x (List.mem_of_find?_eq_some q)
  obtain⟨r,rfl⟩:=this
  rfl
theorem Tryz.enterTCommit:(callFunc 41 args).run Tryz.prog w=.ok (.enter 41 args) w:=vY
theorem jlj:(jaU M cs).2.2=0->(jaU M cs).2.1=M.next:=by
 unfold jaU;split
 ·rename_i h;exact fun e=>absurd e h
 ·split
  ·exact fun e=>absurd (show (12:Int)=0 from e) vI
  ·exact fun _=>rfl
theorem jjo{w:vW}{r:Nat}{x:Array vV}{T:TypeId}(h:Blk w r (.cells x T q))(hT:T≠9):jdx w (fun z=>z=r):=fun z A q e hb=>by
 have e:z=r:=e;subst e
 have:=h.uniq hb
 injection this with _ e _;exact hT e
theorem jhG{w:vW}{r:Nat}{x:Array MapEntry}(h:Blk w r (.map x ck)):jdx w (fun z=>z=r):=fun z q A e hb=>by
 have e:z=r:=e;subst e
 have:=h.uniq hb
 cases this
theorem jiq:(jaU M cs).1.all.length<=M.all.length+1:=by
 unfold jaU;split
 ·exact dV _
 ·split
  ·exact dV _
  ·refine bE jcm.length_le ?_
   rw[bI];exact bL _
theorem jnX{k:Int}(h:k ∉ es.map (·.1)):jay es k=none:=by
 unfold jay;rw[Option.map_eq_none_iff,List.find?_eq_none];intro x q;simp only[decide_eq_true_eq];exact fun e=>h (bD.2 ⟨x,q,e.symm⟩)
theorem jix{k:Int}{v:vV}{n:Nat}:∀ {es:List (Ent Int)},k ∉ es.map (·.1)->jba es k v n=es++[(k,v,n)]
 | [],_=>rfl
 | x :: r,h=>by
  have q:¬ k=x.1:=fun e=>h (by simp[e]);have A:k ∉ r.map (·.1):=fun e=>h (by simp only[bN,bZ];exact .inr e);unfold jba;rw[if_neg q,jix A];rfl
theorem jm0{W:vW}{D:Nat->Prop}{b:Nat}{cb:Nat}{bm:Nat}{n:Nat}(h:ChI w0 D W b M a c rm sb cb es ck bm room S n)(hall:∀ x∈es,hasB M.all x.1=true):(M.next:Int) ∉ es.map (·.1):=fun e=>by
 obtain⟨x,q,e⟩:=bD.1 e
 obtain⟨i,hi⟩:=dD.1 (hall x q)
 obtain⟨v,A,hb⟩:=jeW hi
 have:=h.ok.less v (bG A)
 omega
theorem ChI.more{w W:vW}{D E:Nat->Prop}{b:Nat}{c6 cb:Nat}{bm:Nat}{n:Nat}(h:ChI w0 D w b M a c rm sb cb es ck bm room S n)(hall:∀ x∈es,hasB M.all x.1=true)(cs:List Chg)(t:vB)
  (hB:Blk W b (.cells (([.int .i64 ((jaU M cs).1.win:Int),.int .i64 ((jaU M cs).1.next:Int),.slice a6 (jaU M cs).1.all.length c6]:List vV)++(chC M a c rm sb cb).drop 3).toArray 81))
  (hv:VRow E W (.slice a6 (jaU M cs).1.all.length c6) (jaU M cs).1.all) (hE:∀ z,E z->w.heap.size<=z/\z < g1) (hg:g1<=W.heap.size) (hg0:w.heap.size<=g1)
  (hm:Blk W rm (.map (EB.arr (jgN es M t ck)) (ck+1))) (hs:ChS w0 sb bm room S1 W (n+1000)) (hS1:∀ x∈S1,x.2.1∈S.map (·.2.1)\/g1<=x.2.1):ChI w0 E W b (jaU M cs).1 a6 c6 rm sb cb (jgN es M t ck) (ck+1) bm room S1 (n+1000):=by
 obtain⟨l1,l2,l3,l4,X⟩:=h.lt'
 have K:=jm0 h hall
 refine⟨⟨hB,hv,hm⟩,hs,fun z H=>?_,h.rb,fun e=>?_,fun z H=>?_,jpK h.ok cs,?_,?_,fun x q=>?_,fun x q=>?_⟩
 ·have A:∀ z,z≠bm/\z≠sb/\z ∉ S.map (·.2.1)->z < g1->z≠bm/\z≠sb/\z ∉ S1.map (·.2.1):=fun z O h2=>⟨O.1,O.2.1,fun e=>by
   obtain⟨x,q,e⟩:=bD.1 e
   rcases hS1 x q with h3 | h3
   ·exact O.2.2 (by rw[<-e];exact h3)
   ·omega⟩
  rcases H with H | H | H
  ·exact A z (h.sep z (.inl H)) vO
  ·exact A z (h.sep z (.inr (.inl H))) vO
  ·have:=hE z H
   exact A z ⟨by omega,by omega,fun e=>by have:=X z e;omega⟩ vO
 ·have:=hE b e;omega
 ·have:=hE z H;omega
 ·unfold jgN
  rw[bY,dR]
  refine⟨h.st,by simp,fun x q y J=>?_⟩
  obtain⟨u,Z,rfl⟩:=bD.1 q
  have:=h.lt u Z
  have J:y=ck:=by simpa using J
  omega
 ·unfold jgN
  rw[bY,dR]
  refine⟨h.kn,by simp,fun x q y J=>?_⟩
  have J:y=(M.next:Int):=by simpa using J
  rw[J];exact fun e=>K (by rw[<-e];exact q)
 ·rcases bQ.1 q with q | q
  ·have:=h.lt x q;omega
  ·rw[bM.1 q];exact Nat.lt_succ_self ck
 ·rcases bQ.1 q with q | q
  ·exact h.val x q
  ·rw[bM.1 q];exact⟨t,rfl⟩
theorem jip(w0:vW)(D:Nat->Prop)(b:Nat)(M:MdN)(a:Option Addr)(c rm sb cb:Nat)(es:List (Ent Int))(ck bm:Nat)(room:Int)(S:vT)(n:Nat)(h:ChI w0 D w b M a c rm sb cb es ck bm room S n)(hn:n<=19000)(hl:M.all.length<=900)(d2:∀ x∈es,hasB M.all x.1=true)(u:vV)(cs:List Chg)(hu:RdC w u cs)(hnc:cs.length<=1000)(hsc:∀ c∈cs,c.key.size<=1000/\c.value.size<=1000)(N:Int->Prop)(R:vB->vT->Prop)(hT:∀ W,jac (fun z=>z=b) w W->ChS w0 sb bm room S W n->vQ 41 #[.pointer (some ⟨sb,0,none⟩),.string (jfh es M),u] W (CcP w0 W sb bm room S n N R)) :
  vQ 14 #[.pointer (some ⟨b,0,none⟩),u] w (CmP w0 w b M cs (fun w'=>ChI w0 D w' b M a c rm sb cb es ck bm room S n) rm sb cb es ck bm room S n N R):=by
 have s8:∀ (fn:Fn) (first cap:Array vV) (w:vW),(Instr.makeFunc fn first cap).run Tryz.prog w=.ok (.func fn first cap) w:=fun _ _ _ _=>rfl;have H:=Hd h;have HP:=Hd (bA hn (bA hl (bA d2 (bA hu (bA hnc (bA hsc hT))))))
 obtain⟨nl,k0⟩:=vE M.all.length
 have HN:=Hd k0
 obtain⟨X,hX⟩:=vE (jaU M cs)
 have HX:=Hd hX
 obtain⟨lv,k1,p2⟩:=h.ok.lastAt
 have p3:=Hd (bA k1 p2);have h5:=h.lt';have g0:=Hd h5;have r8:0 < nl:=by rw[k0];have:=(bH.1 k1).1;omega
 obtain⟨kl,p4⟩:∃ kl,nl=kl+1:=⟨nl - 1,by omega⟩
 have d9:IntKind.i64.wrap ((nl:Int) - 1)=(kl:Int):=by rw[wr64 vO vO];omega
 have d7:(kl:Int) < (nl:Int):=vO
 have d8:(nl:Int) - 1=(kl:Int):=vO
 have p5:=Hd (bA p4 (bA d9 (bA d7 d8)));clear h hn hl d2 hu hnc hsc hT k0 hX k1 p2 h5 r8 p4 d9 d7 d8;go_enter_defers Tryz.func14,Tryz.ntmps14;go_wp2_with fail
 have e8:=((ExtR w).alloc (.cells #[.pointer (some ⟨b,0,none⟩)] 26)).alloc (.cells #[.int .i64 0] 3);have i9:=(Blk.new w (.cells #[.pointer (some ⟨b,0,none⟩)] 26)).alloc (.cells #[.int .i64 0] 3);have k2:Blk ((w.alloc (.cells #[.pointer (some ⟨b,0,none⟩)] 26)).alloc (.cells #[.int .i64 0] 3)) (w.heap.size+1) (.cells #[.int .i64 0] 3):=by
  have:=Blk.new (w.alloc (.cells #[.pointer (some ⟨b,0,none⟩)] 26)) (.cells #[.int .i64 0] 3)
  rwa [bF]at this
 generalize (w.alloc (.cells #[.pointer (some ⟨b,0,none⟩)] 26)).alloc (.cells #[.int .i64 0] 3)=w1 at e8 i9 k2 ⊢;refine vC (jgE w1 D b M a c rm sb cb es ck (H.o.m.ext e8)) fun w2 e7=>?_;have q0:w2.cell? ⟨b,0,none⟩=some (.int .i64 (M.win:Int)):=((H.o.m.ext e8).ext e7).blk.cellL rfl;have q1:w2.cell? ⟨b,1,none⟩=some (.int .i64 (M.next:Int)):=((H.o.m.ext e8).ext e7).blk.cellL rfl;have q2:w2.cell? ⟨b,2,none⟩=some (.slice a nl c):=by rw[HN.o];exact ((H.o.m.ext e8).ext e7).blk.cellL rfl
 have qc:w2.cell? ⟨w.heap.size,0,none⟩=some (.pointer (some ⟨b,0,none⟩)):=(i9.keeps e7 (fun h=>h)).cell (i:=0) rfl;have H2:=Hd (bA (e8.trans e7) (bA (i9.keeps e7 (fun h=>h)) (k2.keeps e7 (fun h=>h))));clear e8 i9 k2 e7;go_wp2_with (first
  |(refine jah Tryz.allocMod rfl rfl ?_;intro J k3 p6)
  |(refine jad (vs:=[.int .i64 (M.win:Int),.int .i64 (M.next:Int),.slice a nl c]) rfl rfl rfl rfl (k3.alloc _) rfl Tryz.szMod (by simp[Value.oneCell']) ?_;intro W4 p7 k4
    have h6:=k3.lt;have j0:=(Blk.new J (.cells #[.bool false] 4)).keeps k4 (show ¬ J.heap.size=w2.heap.size by omega);have d4:W4.cell? ⟨J.heap.size,0,none⟩=some (.bool false):=j0.cell (i:=0) rfl;have f4:W4.frozen? ⟨J.heap.size,0,none⟩=false:=j0.frozen))
 have p8:=H2.o.2.2.lt;have p9:=H.o.m.blk.lt;have k5:w.heap.size+1 < w2.heap.size:=p8;have kW:Ext w2 (W4.setCell ⟨J.heap.size,0,none⟩ (.bool false)):=((p6.alloc (.cells #[.bool false] 4)).trans' k4 fun x hx e=>by have e:x=w2.heap.size:=e;omega).trans' (jac.oneSet W4 ⟨J.heap.size,0,none⟩ (.bool false)) fun x hx e=>by have e:x=J.heap.size:=e;omega
 have k6:=p7.set_other (p:=⟨J.heap.size,0,none⟩) (by show w2.heap.size≠J.heap.size;omega) (.bool false);have k7:=j0.set_same (i:=0) (.bool false);have r9:w2.heap.size < J.heap.size:=h6;generalize W4.setCell ⟨J.heap.size,0,none⟩ (.bool false)=W5 at kW k6 k7 ⊢;have H5:=Hd (bA (H2.o.1.trans kW) (bA (H2.o.2.1.keeps kW (fun h=>h)) (bA (H2.o.2.2.keeps kW (fun h=>h)) (bA k6 k7))));have HS:=Hd (bA p9 (bA k5 r9));clear p8 kW k6 k7 k3 p6 p7 k4 h6 j0 d4 f4 H2 q0 q1 q2 qc;have p9:=HS.o.1;refine jau [0,1,2,3,4,5,6,7,8,9,10,11,12] [3,10,11] Ext (jac (fun z=>z=b\/z=w.heap.size+1)) ExtR ExtT (fun x y z h k=>jac.trans h k) (fun x y h=>h.mono (fun _ _ h=>h.elim)) vY vY vY ?_;refine qDL ⟨w.heap.size,0,none⟩ (.pointer (some ⟨b,0,none⟩)) rfl (fun w1 h1=>jag (fun w=>by kernel_rfl) ((H5.o.2.1.drew.keeps h1 vO).cell (i:=0) rfl)) ?_;refine vS ?_;refine qDL ⟨w2.heap.size,0,none⟩ _ rfl (fun w1 h1=>jcL w1 w2.heap.size 0 [.int .i64 (M.win:Int),.int .i64 (M.next:Int),.slice a nl c] rfl (fun j v hv=>by rw[bT];exact ((H5.o.2.2.2.1.drew).keeps h1 (by have:=HS.o.2.1;omega)).cellL hv)) ?_;refine vS ?_
 refine vD ?_
 refine qDH _ rfl (fun wb hb K hK=>?_);have kb:Ext W5 wb:=(jak _).trans hb;have j1:=jpJ wb D M (.slice a M.all.length c) ((H.o.m.ver.ext H5.o.1).ext kb) H.o.ok HP.o.2.1 u cs ((HP.o.2.2.2.1.keeps H5.o.1 (fun _ _ e=>e)).keeps kb (fun _ _ e=>e)) HP.o.2.2.2.2.1 HP.o.2.2.2.2.2.1;rw[<-HX.o]at j1;unfold modV at j1;refine jaT (jal (vs:=#[.agg #[.int .i64 (M.win:Int),.int .i64 (M.next:Int),.slice a nl c],u]) Tryz.enterMCommit vY) ?_;rw[HN.o];refine j1.mono ?_;rintro e w6 ⟨av,rfl,k9,l0⟩
 refine⟨_,rfl,hK _ _ (k9.mono (fun _ _ h=>h.elim)) ?_⟩
 obtain⟨a6,c6,s0⟩:=l0.sl
 subst s0;have e9:=Hd (bA kb (bA k9 l0));clear hK K hb kb k9 l0 j1;refine vS ?_;iterate 4 refine vD ?_
 refine qDV _ (.pointer (some ⟨b,0,none⟩)) rfl (fun w1 _=>by kernel_rfl) ?_;refine vS ?_
 refine vD ?_
 refine qDH _ rfl (fun wc hc K hK=>?_);have kc:Ext w wc:=H5.o.1.trans (e9.o.1.trans (e9.o.2.1.trans hc));have g5:Ext W5 wc:=e9.o.1.trans (e9.o.2.1.trans hc);have q3:=e9.o.2.2.ext hc;refine jlV (old:=chC M a c rm sb cb) (vs:=[.int .i64 (X.1.win:Int),.int .i64 (X.1.next:Int),.slice a6 X.1.all.length c6]) rfl rfl rfl (H.o.m.blk.keeps kc (fun h=>h)) (by show 3<=6;decide) Tryz.szMod (by simp[Value.oneCell']) (fun W7 g6 c7=>hK _ _ (c7.mono fun z _ e=>.inl e) ?_);have H7:=Hd (bA kc (bA g5 (bA g6 (bA c7 (bA q3 (bA e9.o.1.size (bA (bE e9.o.2.1.size hc.size) hc.size)))))));clear hK K hc kc g5 g6 c7 q3;refine vS ?_;refine qDH _ rfl (fun wd hd K hK=>?_);have k5:=HS.o.2.1;have j2:=((H5.o.2.2.1.keeps H7.o.2.1 (fun h=>h)).keeps H7.o.2.2.2.1 (show ¬ w.heap.size+1=b by omega)).keeps hd (fun h=>h);have q7:=j2.cell (i:=0) (v:=.int .i64 0) rfl;have f7:wd.frozen? ⟨w.heap.size+1,0,none⟩=false:=j2.frozen;have H8:=Hd (bA hd j2);clear hd j2;go_simp;refine hK _ _ (jac.setCell (jac.refl _ _) (.inl (.inr rfl)) _) ?_;clear hK K q7 f7;have q4:=H8.o.2.set_same (i:=0) (.int .i64 (X.2.1:Int));have k8:=jac.oneSet wd ⟨w.heap.size+1,0,none⟩ (.int .i64 (X.2.1:Int));generalize wd.setCell ⟨w.heap.size+1,0,none⟩ (.int .i64 (X.2.1:Int))=w8 at q4 k8 ⊢
 refine vD ?_
 refine qDE (fun w9 h9=>?_);have c5:Blk w9 (w.heap.size+1) (.cells #[.int .i64 (X.2.1:Int)] 3):=q4.keeps h9 (fun h=>h);have q9:w9.cell? ⟨w.heap.size+1,0,none⟩=some (.int .i64 (X.2.1:Int)):=c5.cell (i:=0) rfl;have f9:w9.frozen? ⟨w.heap.size+1,0,none⟩=false:=c5.frozen
 obtain⟨k8,h9,c5⟩:=bA k8 (bA h9 c5)
 obtain⟨kc,g5,g6,c7,q5,f3,h7,h8⟩:=H7.o
 obtain⟨s9,k5,t0⟩:=HS.o
 have g2:jac (fun z=>z=w.heap.size+1) _ w9:=(((H8.o.1.mono (G:=fun z=>z=w.heap.size+1) fun _ _ e=>e.elim).trans k8).trans (h9.mono fun _ _ e=>e.elim));have g7:jac (fun z=>z=b\/z=w.heap.size+1) W5 w9:=((g5.mono (G:=fun z=>z=b\/z=w.heap.size+1) fun _ _ e=>e.elim).trans (c7.mono fun z _ e=>.inl e)).trans (g2.mono fun z _ e=>.inr e);have q6:=g6.keeps g2 (show ¬ b=w.heap.size+1 by omega);have g8:jac (fun z=>z=b) w w9:=(H5.o.1.mono (G:=fun z=>z=b) fun _ _ e=>e.elim).trans' g7 (fun z Z e=>e.elim id fun e=>by omega);have j3:=(q5.keeps c7 (fun z Z e=>by have h:=Z.1;have h2:=H5.o.2.2.2.2.lt;have e:z=b:=e;omega)).keeps g2 (fun z Z e=>by have h:=Z.1;have h2:=H5.o.2.2.2.2.lt;have e:z=w.heap.size+1:=e;omega);have g9:=H5.o.2.2.2.2.keeps g7 vO;have l6:=H5.o.2.1.keeps g7 vO;have l7:Blk w9 w2.heap.size (.cells (modC M (.slice a M.all.length c)).toArray 73):=by
  have:=H5.o.2.2.2.1.keeps g7 vO
  rw[HN.o]at this;exact this
 have l8:J.heap.size < W5.heap.size:=H5.o.2.2.2.2.lt;have l9:wb.heap.size<=w9.heap.size:=bE h7 (bE c7.size g2.size);have m0:w6.heap.size<=w9.heap.size:=bE h8 (bE c7.size g2.size);have H9:=Hd (bA g8 (bA q6 (bA c5 (bA j3 (bA g9 (bA l6 (bA l7 (bA l8 (bA f3 (bA l9 m0))))))))));have q8:=Hd (fun(W:vW) (v0:vV) (kW:jac (fun z=>z=b\/z=w.heap.size+1) w9 W) (hBW:Blk W b _) (f0:Blk W (w.heap.size+1) (.cells #[v0] 3))=>jvl W w0 D b M a c rm sb cb es ck bm room S n (by have:=HP.o.1;omega) (by have:=HP.o.2.1;omega) .returning J.heap.size w2.heap.size w.heap.size (w.heap.size+1) (.int .i64 (X.1.win:Int)) (.int .i64 (X.1.next:Int)) (.slice a6 X.1.all.length c6) v0
  ((g9.keeps kW vO).cell (i:=0) rfl) ((l6.keeps kW vO).cell (i:=0) rfl) (l7.keeps kW vO) f0 ⟨by omega,by omega,by omega⟩ hBW (fun W' s1 n7=>H.o.back (((g8.trans' kW fun z Z e=>e.elim id fun e=>by omega)).trans' s1 (fun z Z e=>e.elim id fun e=>by omega)) n7) HP.o.2.2.1)
 clear k8 h9 c5 kc g5 g6 c7 q5 f3 h7 h8 g2 g7 q6 g8 j3 g9 l6 l7 l8 l9 m0
 obtain⟨er,m1⟩:=vE X.2.2
 have j4:=Hd m1;rw[<-m1];clear m1
 by_cases he:er=0
 case neg =>
  have e1:(er != 0)=true:=by simpa using he
  have HE:=Hd he;clear he;go_wp2_with fail
  have i0:=H9.o.2.2.1.set_same (i:=0) (.int .i64 (X.2.1:Int));have m2:=jac.oneSet w9 ⟨w.heap.size+1,0,none⟩ (.int .i64 (X.2.1:Int));generalize w9.setCell ⟨w.heap.size+1,0,none⟩ (.int .i64 (X.2.1:Int))=m3 at i0 m2 ⊢;have i1:jac (fun z=>z=b\/z=w.heap.size+1) w9 m3:=m2.mono fun z _ e=>.inr e;have a7:=q8.o m3 _ i1 (H9.o.2.1.keeps m2 (show ¬ b=w.heap.size+1 by omega)) i0;refine leaves_cons (f:=38) (args:=#[.pointer (some ⟨J.heap.size,0,none⟩),.pointer (some ⟨w2.heap.size,0,none⟩),.pointer (some ⟨w.heap.size,0,none⟩),.pointer (some ⟨w.heap.size+1,0,none⟩)]) (by simp) (by simp[go_sem]) ?_;refine a7.mono ?_;rintro e u' b1 ⟨rfl,rfl,hI,hK,f0⟩;have h0:(loadVar 3 ⟨w.heap.size+1,0,none⟩).run Tryz.prog b1=.ok (.int .i64 0) b1:=by
   have:=jab Tryz.uInt rfl (f0.cell (i:=0) (v:=.int .i64 0) rfl)
   simpa [Instr.loadAt,Instr.sureAddr,bK,Result.andThen]using this
  refine⟨_,jcz rfl rfl rfl h0,.inl ⟨er,HE.o,.inl (by rw[j4.o,HX.o]),rfl,hI,?_⟩⟩
  exact (H9.o.1.trans' i1 fun z Z e=>e.elim id fun e=>by omega).trans' hK fun z Z e=>e.elim id fun e=>by omega
 case pos =>
  have e1:(er != 0)=false:=by rw[he];rfl
  subst he;have r0:=H.o.m.ver.keeps H9.o.1 (fun z Z e=>H.o.db (by have e:z=b:=e;rw[<-e];exact Z))
  obtain⟨b',o',a1,c1,a2,c2,e0,p0,_⟩:=r0.at' p3.o.1
  cases e0;have s2:w9.cell? ⟨b',o'+kl * 4,none⟩=some (.int .i64 (lv.block:Int)):=by
   have h:=p5.o.1;have h2:=HN.o;rw[show M.all.length - 1=kl by omega]at p0;exact p0
  have qw:w9.cell? ⟨w2.heap.size,2,none⟩=some (.slice (some ⟨b',o',none⟩) nl c):=by rw[HN.o];exact H9.o.2.2.2.2.2.2.1.cellL rfl
  obtain⟨-,d9,d7,d8⟩:=p5.o
  have d5:nl<=900:=by have h:=HP.o.2.1;have h2:=HN.o;omega
  have d6:Go.RowKit.wrap64 (kl:Int)=(kl:Int):=by unfold Go.RowKit.wrap64;omega
  clear r0 p0;go_wp2_with fail
  have r1:jb9 M=lv:=MdOk.newV p3.o.1;have j5:=jlA (M:=M) H.o.val;rw[r1]at j5
  obtain⟨rt,m4⟩:=vE (jfh es M)
  rw[<-m4]at j5;have h4:=Hd (bA m4 (bA j5 (H.o.m.map.keeps H9.o.1 H.o.rb)))
  obtain⟨l1,l2,l3,l4,l5⟩:=g0.o
  have n1:¬(w.heap.size=bm\/w.heap.size∈S.map (·.2.1)):=fun e=>e.elim (fun e=>by omega) fun e=>by have:=l5 _ e;omega
  have n2:¬(b=bm\/b∈S.map (·.2.1)):=fun e=>e.elim (H.o.sep b (.inl rfl)).1 (H.o.sep b (.inl rfl)).2.2;have n3:¬(rm=bm\/rm∈S.map (·.2.1)):=fun e=>e.elim (H.o.sep rm (.inr (.inl rfl))).1 (H.o.sep rm (.inr (.inl rfl))).2.2;have c8:=Hd (bA n1 (bA n2 n3));clear m4 j5 r1 s2 qw d9 d7 d8 d5 d6 l1 l2 l3 l4 l5 n1 n2 n3;refine jau [0,1,2,3,4,5,6,7,8,9,10,11,12,13,14,15,16] [11] Ext (jac (fun z=>z=bm\/z∈S.map (·.2.1))) ExtR ExtT (fun x y z h k=>jac.trans h k) (fun x y h=>h.mono (fun _ _ h=>h.elim)) vY vY vY ?_;refine qDL ⟨w.heap.size,0,none⟩ (.pointer (some ⟨b,0,none⟩)) rfl (fun w1 h1=>jag (fun w=>by kernel_rfl) ((H9.o.2.2.2.2.2.1.drew.keeps h1 c8.o.1).cell (i:=0) rfl)) ?_;refine vS ?_;refine qDV _ (.pointer (some ⟨b,0,none⟩)) rfl (fun w1 _=>by kernel_rfl) ?_;refine vS ?_
  refine vD ?_
  refine qDL ⟨b,4,none⟩ (.pointer (some ⟨sb,0,none⟩)) rfl (fun w1 h1=>jag (fun w=>by kernel_rfl) ((H9.o.2.1.drew.keeps h1 c8.o.2.1).cellL rfl)) ?_;refine vS ?_;refine qDL ⟨w.heap.size,0,none⟩ (.pointer (some ⟨b,0,none⟩)) rfl (fun w1 h1=>jag (fun w=>by kernel_rfl) ((H9.o.2.2.2.2.2.1.drew.keeps h1 c8.o.1).cell (i:=0) rfl)) ?_;refine vS ?_;refine qDV _ (.pointer (some ⟨b,0,none⟩)) rfl (fun w1 _=>by kernel_rfl) ?_;refine vS ?_
  refine vD ?_
  refine qDL ⟨b,3,none⟩ (.map (some rm)) rfl (fun w1 h1=>jag (fun w=>by kernel_rfl) ((H9.o.2.1.drew.keeps h1 c8.o.2.1).cellL rfl)) ?_;refine vS ?_
  refine vD ?_
  refine qDV _ (.string rt) rfl (fun w3 h3=>by
   refine (jep false (h4.o.2.2.drew.keeps h3 c8.o.2.2) rfl rfl).trans ?_;rw[h4.o.2.1];rfl) ?_
  refine vS ?_
  refine vD ?_
  refine qDH _ rfl (fun f1 c5 K hK=>?_);have f2:Ext w9 f1:=(jak _).trans c5;have j6:jac (fun z=>z=b) w f1:=H9.o.1.trans (f2.mono fun _ _ e=>e.elim);have b5:=H.o.sep b (.inl rfl);have m5:ChS w0 sb bm room S f1 n:=H.o.s.keeps j6 (fun e=>b5.2.1 e.symm) (fun e=>b5.1 e.symm) (fun x hx e=>b5.2.2 (bD.2 ⟨x,hx,e⟩)) (fun z t1 fz e s3=>by
   have e:z=b:=e;subst e
   have:=H.o.m.blk.uniq s3
   injection this with _ e _;exact absurd e vI)
  have j7:=HP.o.2.2.2.2.2.2 f1 j6 m5;rw[<-h4.o.1]at j7;refine jaT (jal Tryz.enterTCommit vY) (j7.mono ?_);rintro e m3 (⟨k,hk,r2,rfl,f5⟩ |⟨t,S1,j8,rfl,d3,b6,a8⟩)
  case inl =>
   refine⟨_,rfl,hK _ _ (f5.mono fun _ _ e=>e.elim) ?_⟩
   have c9:=Hd (bA (f2.trans f5) (bA hk r2));have e2:(k != 0)=true:=by simpa using hk
   clear hK K c5 f2 j6 b5 m5 j7 f5 hk r2 e1;refine vS ?_;iterate 5 refine vD ?_
   refine qDE (fun b1 b2=>?_);have f6:=c9.o.1.trans b2;have O:=H9.o.2.2.1.keeps f6 (fun h=>h);have t2:=O.cell (i:=0) (v:=.int .i64 (X.2.1:Int)) rfl;have t3:b1.frozen? ⟨w.heap.size+1,0,none⟩=false:=O.frozen;have d0:=Hd (bA f6 O);clear b2 f6 O;go_wp2_with fail
   have i2:=d0.o.2.set_same (i:=0) (.int .i64 (X.2.1:Int));have m6:=jac.oneSet b1 ⟨w.heap.size+1,0,none⟩ (.int .i64 (X.2.1:Int));generalize b1.setCell ⟨w.heap.size+1,0,none⟩ (.int .i64 (X.2.1:Int))=w12 at i2 m6 ⊢;have i3:jac (fun z=>z=b\/z=w.heap.size+1) w9 w12:=(d0.o.1.mono fun _ _ e=>e.elim).trans (m6.mono fun z _ e=>.inr e);have a7:=q8.o w12 _ i3 ((H9.o.2.1.keeps d0.o.1 (fun h=>h)).keeps m6 (show ¬ b=w.heap.size+1 by omega)) i2;refine leaves_cons (f:=38) (args:=#[.pointer (some ⟨J.heap.size,0,none⟩),.pointer (some ⟨w2.heap.size,0,none⟩),.pointer (some ⟨w.heap.size,0,none⟩),.pointer (some ⟨w.heap.size+1,0,none⟩)]) (by simp) (by simp[go_sem]) ?_;refine a7.mono ?_;rintro e u' b3 ⟨rfl,rfl,hI,hK,f0⟩;have h0:(loadVar 3 ⟨w.heap.size+1,0,none⟩).run Tryz.prog b3=.ok (.int .i64 0) b3:=by
    have:=jab Tryz.uInt rfl (f0.cell (i:=0) (v:=.int .i64 0) rfl)
    simpa [Instr.loadAt,Instr.sureAddr,bK,Result.andThen]using this
   refine⟨_,jcz rfl rfl rfl h0,.inl ⟨k,c9.o.2.1,.inr ⟨by rw[<-HX.o, <-j4.o],c9.o.2.2⟩,rfl,hI,?_⟩⟩
   exact (H9.o.1.trans' i3 fun z Z e=>e.elim id fun e=>by omega).trans' hK fun z Z e=>e.elim id fun e=>by omega
  case inr =>
   refine⟨_,rfl,hK _ _ b6 ?_⟩
   have j9:X.2.1=M.next:=by rw[HX.o];exact jlj (by rw[<-HX.o, <-j4.o])
   have m7:=jm0 H.o HP.o.2.2.1;have c9:=Hd (bA f2 (bA j8 (bA d3 (bA b6 (bA a8 (bA j9 m7))))));rw[j9]at H9;clear hK K c5 f2 j6 b5 m5 j7 b6 a8 j8 d3 e1 j9 m7;refine vS ?_;iterate 5 refine vD ?_
   refine qDE (fun b1 b2=>?_);have A:jac (fun z=>z=bm\/z∈S.map (·.2.1)) w9 b1:=((c9.o.1.mono fun _ _ e=>e.elim).trans c9.o.2.2.2.1).trans (b2.mono fun _ _ e=>e.elim);have m8:=g0.o;have n4:¬(w.heap.size+1=bm\/w.heap.size+1∈S.map (·.2.1)):=fun e=>e.elim (fun e=>by omega) fun e=>by have:=m8.2.2.2.2 _ e;omega
   have n5:¬(J.heap.size=bm\/J.heap.size∈S.map (·.2.1)):=fun e=>e.elim (fun e=>by omega) fun e=>by have:=m8.2.2.2.2 _ e;omega
   have O:=H9.o.2.2.1.keeps A n4;have e3:=h4.o.2.2.keeps A c8.o.2.2;have b7:=H9.o.2.1.keeps A c8.o.2.1;have b8:=H9.o.2.2.2.2.2.1.keeps A c8.o.1;have b9:=H9.o.2.2.2.2.1.keeps A n5;have d0:=Hd (bA A (bA O (bA e3 (bA b7 (bA b8 (bA b9 b2))))));clear A O e3 b7 b8 b9 b2 m8 n4 n5;go_wp2_with fail
   refine jau [0,1,2,3,4,5,6] [6] Ext (jac (fun z=>z=rm)) ExtR ExtT (fun x y z h k=>jac.trans h k) (fun x y h=>h.mono (fun _ _ h=>h.elim)) vY vY vY ?_;refine qDL ⟨w.heap.size,0,none⟩ (.pointer (some ⟨b,0,none⟩)) rfl (fun w1 h1=>jag (fun w=>by kernel_rfl) ((d0.o.2.2.2.2.1.drew.keeps h1 (by have:=g0.o.2.1;omega)).cell (i:=0) rfl)) ?_;refine vS ?_;refine qDV _ (.pointer (some ⟨b,0,none⟩)) rfl (fun w1 _=>by kernel_rfl) ?_;refine vS ?_
   refine vD ?_
   refine qDL ⟨b,3,none⟩ (.map (some rm)) rfl (fun w1 h1=>jag (fun w=>by kernel_rfl) ((d0.o.2.2.2.1.drew.keeps h1 (fun e=>H.o.rb e.symm)).cellL rfl)) ?_;refine vS ?_;refine qDL ⟨w.heap.size+1,0,none⟩ (.int .i64 (M.next:Int)) rfl (fun w1 h1=>jag (fun w=>by kernel_rfl) ((d0.o.2.1.drew.keeps h1 (by have:=g0.o.2.1;omega)).cell (i:=0) rfl)) ?_;refine vS ?_
   refine vD ?_
   refine qDH _ rfl (fun we he K hK=>?_);have g3:Ext b1 we:=(jak _).trans he;have g4:=d0.o.2.2.1.keeps g3 (fun h=>h)
   obtain⟨r3,a9⟩:=vE (we.putObj rm (.map (EB.arr (jgN es M t ck)) (ck+1)))
   have s4:(Instr.mapUpdate 75 (.map (some rm)) (.int .i64 (M.next:Int)) (.string t)).run Tryz.prog we=.ok () r3:=by
    have:=jbj EB Tryz.uRoots g4 (M.next:Int) (.string t)
    rw[jix c9.o.2.2.2.2.2.2,jnX c9.o.2.2.2.2.2.2]at this;rw[a9];exact this
   have s5:=Hd (bA g3 (bA g4 a9));have m9:jac (fun z=>z=rm) we r3:=by rw[a9];exact jac.onePut _ _ _
   clear g3 g4 a9;go_simp;refine hK _ _ m9 ?_;clear hK K he;refine qDE (fun b3 n0=>?_)
   obtain⟨g3,g4,a9⟩:=s5.o
   have q:jac (fun z=>z=rm) b1 b3:=((g3.mono fun _ _ e=>e.elim).trans m9).trans (n0.mono fun _ _ e=>e.elim);have e4:Blk b3 rm (.map (EB.arr (jgN es M t ck)) (ck+1)):=by
    refine Blk.keeps ?_ n0 (fun h=>h);rw[a9];exact g4.put_same _
   obtain⟨A,O,e3,b7,b8,b9,b2⟩:=d0.o
   have hl:=g0.o.2.1;have i4:=O.keeps q vO;have i5:=b8.keeps q vO;have b0:=b9.keeps q vO;have e5:=b7.keeps q (fun e=>H.o.rb e.symm);have t4:b3.cell? ⟨J.heap.size,0,none⟩=some (.bool false):=b0.cell (i:=0) rfl;have t5:b3.frozen? ⟨J.heap.size,0,none⟩=false:=b0.frozen;have b4:=jac.oneSet b3 ⟨J.heap.size,0,none⟩ (.bool true);have a0:=i4.keeps b4 (show ¬ w.heap.size+1=J.heap.size by omega);have c0:=b0.set_same (i:=0) (.bool true);have c3:=i5.keeps b4 (show ¬ w.heap.size=J.heap.size by omega)
   obtain⟨r4,c4⟩:=vE (b3.setCell ⟨J.heap.size,0,none⟩ (.bool true))
   rw[<-c4]at b4 a0 c0 c3;have t6:(b3.setCell ⟨J.heap.size,0,none⟩ (.bool true)).cell? ⟨w.heap.size+1,0,none⟩=some (.int .i64 (M.next:Int)):=by rw[<-c4];exact a0.cell (i:=0) rfl
   have t7:(b3.setCell ⟨J.heap.size,0,none⟩ (.bool true)).frozen? ⟨w.heap.size+1,0,none⟩=false:=by rw[<-c4];exact a0.frozen
   have r5:=Hd (bA A (bA q (bA e4 (bA e5 (bA b4 (bA a0 (bA c0 (bA c3 (bA b2 c4)))))))));clear n0 m9 g3 g4 a9 A O e3 b7 b8 b9 b2 hl i4 i5 b0 e5 e4 b4 a0 c0 c3 c4 q s4;go_wp2_with fail
   rw[<-r5.o.2.2.2.2.2.2.2.2.2]
   obtain⟨A,q,e4,e5,b4,a0,c0,c3,b2,_⟩:=r5.o
   obtain⟨f2,j8,d3,b6,a8,j9,m7⟩:=c9.o
   obtain⟨g8,_,_,j3,g9,_,_,l8,f3,l9,m0⟩:=H9.o
   obtain⟨l1,l2,l3,l4,l5⟩:=g0.o
   have d1:=jac.oneSet r4 ⟨w.heap.size+1,0,none⟩ (.int .i64 (M.next:Int));have i6:=a0.set_same (i:=0) (.int .i64 (M.next:Int));have i7:=c0.keeps d1 (show ¬ J.heap.size=w.heap.size+1 by omega);have i8:=c3.keeps d1 (show ¬ w.heap.size=w.heap.size+1 by omega);generalize r4.setCell ⟨w.heap.size+1,0,none⟩ (.int .i64 (M.next:Int))=w15 at d1 i6 i7 i8 ⊢;have t8:=f2.size;have f8:∀ z,z ∉ S.map (·.2.1)->z < f1.heap.size->z ∉ S1.map (·.2.1):=fun z h1 h2 e=>by
    obtain⟨x,hx,e⟩:=bD.1 e
    rcases a8 x hx with h3 | h3
    ·exact h1 (by rw[<-e];exact h3)
    ·omega
   have e6:∀ z,w.heap.size<=z->z ∉ S.map (·.2.1):=fun z h e=>by have:=l5 z e;omega
   have o1:=f8 rm (H.o.sep rm (.inr (.inl rfl))).2.2 vO;have o2:=f8 J.heap.size (e6 _ vO) vO;have o3:=f8 (w.heap.size+1) (e6 _ vO) vO;have r6:=H.o.sep rm (.inr (.inl rfl));have n8:=(d3.ext b2).keeps q (fun e=>r6.2.1 e.symm) (fun e=>r6.1 e.symm) (fun x hx e=>o1 (bD.2 ⟨x,hx,e⟩)) (jhG (h4.o.2.2.keeps A c8.o.2.2));have b0:=(g9.keeps A (show ¬(J.heap.size=bm\/J.heap.size∈S.map (·.2.1))from fun e=>e.elim (fun e=>by omega) (e6 _ vO))).keeps q (show ¬ J.heap.size=rm by omega);have n9:=n8.keeps b4 (show ¬ sb=J.heap.size by omega) (show ¬ bm=J.heap.size by omega) (fun x hx e=>o2 (bD.2 ⟨x,hx,e⟩)) (jjo b0 vI);have o0:=n9.keeps d1 (show ¬ sb=w.heap.size+1 by omega) (show ¬ bm=w.heap.size+1 by omega) (fun x hx e=>o3 (bD.2 ⟨x,hx,e⟩)) (jjo a0 vI);have o4:=(((j3.keeps A (fun z Z e=>e.elim (fun e=>by have:=Z.1;omega) (e6 z (by have:=Z.1;omega)))).keeps q (fun z Z e=>by have:=Z.1;have e:z=rm:=e;omega)).keeps b4 (fun z Z e=>by have:=Z.1;have e:z=J.heap.size:=e;omega)).keeps d1 (fun z Z e=>by have:=Z.1;have e:z=w.heap.size+1:=e;omega);have o5:=(e5.keeps b4 (show ¬ b=J.heap.size by omega)).keeps d1 (show ¬ b=w.heap.size+1 by omega);have o6:=(e4.keeps b4 (show ¬ rm=J.heap.size by omega)).keeps d1 (show ¬ rm=w.heap.size+1 by omega);have o7:f1.heap.size<=w15.heap.size:=bE b6.size (bE b2.size (bE q.size (bE b4.size d1.size)));have o8:=H.o.more HP.o.2.2.1 cs t (a6:=a6) (c6:=c6) (E:=NewB wb w6) (W:=w15) (g1:=f1.heap.size) (S1:=S1) (by rw[<-HX.o];exact o5) (by rw[<-HX.o];exact o4) (fun z Z=>by have h1:=Z.1;have h2:=Z.2;omega) o7 vO o6 o0 a8;have a7:=jsC w15 w0 _ b (jaU M cs).1 a6 c6 rm sb cb (jgN es M t ck) (ck+1) bm room S1 (n+1000) o8 (by have:=HP.o.1;omega) (by have:=jiq (M:=M) (cs:=cs);have:=HP.o.2.1;omega) .returning J.heap.size w2.heap.size w.heap.size (w.heap.size+1) (i7.cell (i:=0) rfl) (i8.cell (i:=0) rfl);refine leaves_cons (f:=38) (args:=#[.pointer (some ⟨J.heap.size,0,none⟩),.pointer (some ⟨w2.heap.size,0,none⟩),.pointer (some ⟨w.heap.size,0,none⟩),.pointer (some ⟨w.heap.size+1,0,none⟩)]) (by simp) (by simp[go_sem]) ?_;refine a7.mono ?_;rintro e u' n6 ⟨rfl,rfl,S',s6,r7,o9,d2⟩;have f0:=i6.keeps r7 (show ¬(w.heap.size+1=rm\/w.heap.size+1=bm\/w.heap.size+1∈S1.map (·.2.1))from fun e=>e.elim (fun e=>by omega) fun e=>e.elim (fun e=>by omega) o3);have h0:(loadVar 3 ⟨w.heap.size+1,0,none⟩).run Tryz.prog n6=.ok (.int .i64 (M.next:Int)) n6:=by
    have:=jab Tryz.uInt rfl (f0.cell (i:=0) (v:=.int .i64 (M.next:Int)) rfl)
    simpa [Instr.loadAt,Instr.sureAddr,bK,Result.andThen]using this
   have s7:(jaU M cs).2.2=0:=by rw[<-HX.o];exact j4.o.symm
   have p1:jac (ChF b rm bm S) w n6:=by
    have a1:jac (ChF b rm bm S) w w9:=g8.mono fun z _ e=>.inl e;have a2:jac (ChF b rm bm S) w9 b1:=A.mono fun z _ e=>.inr (.inr e);have a3:jac (ChF b rm bm S) b1 b3:=q.mono fun z _ e=>.inr (.inl e);have a4:=((a1.trans a2).trans a3).trans' b4 fun z Z e=>by have e:z=J.heap.size:=e;omega
    have a5:=a4.trans' d1 fun z Z e=>by have e:z=w.heap.size+1:=e;omega
    refine a5.trans' r7 fun z Z e=>?_;rcases e with e | e | e
    ·exact .inr (.inl e)
    ·exact .inr (.inr (.inl e))
    ·obtain⟨x,hx,e⟩:=bD.1 e
     rcases a8 x hx with h3 | h3
     ·exact .inr (.inr (.inr (by rw[<-e];exact h3)))
     ·omega
   refine⟨_,jcz rfl rfl rfl h0,.inr ⟨s7,t,S1,S',_,a6,c6,j8,rfl,s6,p1,fun x hx=>?_,fun h=>(d2 h).1,fun z Z=>by have h1:=Z.1;omega⟩⟩
   obtain⟨z,Z,e⟩:=o9 x hx
   rw[e];exact (a8 z Z).imp id fun h=>by omega
theorem juA:jbf []=0:=by decide +kernel
theorem jtI:jaW (InlD 12) jas:=(good 12 (jeg []) (jjE (ja1 juA))).1
theorem jjp(w:vW)(hn:jbd t n)(h0:jaP n=[])(hG:G.map kvI=readG [t])(x:vB):jb4 G x=[]:=by
 unfold jb4;split
 ·rename_i y hy
  obtain⟨q,A,_,e⟩:=jcU hG (jaF hy).1
  obtain rfl:=bM.1 A;rw[e];show jaP (nodeOf q)=[];rw[jeV w (jcc hn) hn];exact h0
 ·rfl
theorem jyi(w:vW){M:vM}(hn:jbd t n)(h0:jaP n=[])(hG:G.map kvI=readG [t])(hP:jec S G r M i):M=[r]:=by
 rw[hP.is]
 congr 1
 exact List.flatMap_eq_nil_iff.2 fun x _=>jjp w hn h0 hG x
theorem jiI(r:vB):jb6 [r]=[r]:=rfl
theorem jyh:(frK S [r]).length<=1:=by
 unfold frK;rw[jiI];exact dU _ _
theorem jq7(w:vW){M:vM}(hn:jbd t n)(h0:jaP n=[])(hG:G.map kvI=readG [t])(hP:jec S G (shaB t) M i)(hS:atL S (ky t)=none):∃ z,addS S G M t=S++[(ky t,z,⟨t,[],0,1⟩)]:=by
 obtain rfl:=jyi w hn h0 hG hP;have J:frK S [shaB t]=[shaB t]:=by
  unfold frK;rw[jiI]
  have:atL S (shaB t).data.toList=none:=hS
  simp[this]
 have q:readG [t]=[(ky t,itOf t)]:=rfl;rw[q]at hG;have K:G.length=1:=by have:=congrArg List.length hG;simpa using this
 obtain⟨y,rfl⟩:=List.length_eq_one_iff.1 K
 obtain⟨k,z,A⟩:=y
 have H:kvI (k,z,A)=(ky t,itOf t):=by simpa using hG
 have O:k=ky t:=congrArg Prod.fst H;have X:A=itOf t:=congrArg Prod.snd H;subst O X
 refine⟨z,?_⟩
 have Z:(frK S [shaB t]).flatMap (jb4 [(ky t,z,itOf t)])=[]:=List.flatMap_eq_nil_iff.2 fun x _=>jjp w hn h0 vF x;have hp:jdn [(ky t,z,itOf t)] (frK S [shaB t])=[(ky t,z,itOf t)]:=by
  rw[J];unfold jdn
  have:atL [(ky t,z,itOf t)] (shaB t).data.toList=some (ky t,z,itOf t):=by
   unfold atL ky
   simp
  simp[this]
 unfold addS;rw[Z,hp];show jh2 (ky t) (jdz [] (S++[(ky t,z,itOf t)]))=_;unfold jdz jh2;rw[List.foldl_nil,bY]
 congr 1
 ·conv=>rhs;rw[<-List.map_id S]
  refine dF fun x hx=>?_;rw[if_neg (fun e=>jeM.1 hS x hx e.symm)];rfl
 ·have:jaP (nodeOf t)=[]:=by rw[jeV w (jcc hn) hn];exact h0
  show [(if ky t=ky t then (ky t,z,putF 3 ((itOf t).held+1) (itOf t))else (ky t,z,itOf t))]=_;rw[if_pos rfl];unfold itOf putF;rw[this];rfl
theorem jhH:jbd (jam ⟨#[]⟩) jas:=⟨rfl,12,jtI⟩
theorem juJ:jaP jas=[]:=by
 unfold jaP;refine iF.2 fun r e=>?_
 have:r=⟨#[]⟩:=by
  have e:r∈List.replicate 16 (⟨#[]⟩:vB):=e;exact (List.mem_replicate.1 e).2
 rw[this];exact jet
theorem jq9(w:vW){n:jae}{k:Int}(hn:jbd t n)(h0:jaP n=[])(hr:(S.length:Int)+1<=room):¬ joI (∃ A∈[t],¬ ∃ n,jbd A n) room S [t] k:=by
 rintro (⟨_,A,J,e⟩ |⟨_,G,q,x,r,H,_⟩ |⟨_,top,G,M,_,q,K,O⟩)
 ·rw[bM.1 J]at e
  exact e ⟨n,hn⟩
 ·rw[jjp w hn h0 q x]at H;cases H
 ·rw[jyi w hn h0 q K]at O
  have:=jyh (S:=S) (r:=shaB top)
  omega
section
attribute [local go_sem] Oper.semAt_some
def jfX(W:vW)(cb mb:Nat)(n:Int):Prop:=Blk W cb (.cells #[.int .i64 n,.slice none 0 0,.map (some mb),.int .i64 0] 127)/\Blk W mb (.map (Tryz.ES.arr []) 0)
theorem jxE(n:Int)(h0 : -9223372036854775808<=n)(h1:n<=9223372036854775807) :
  vQ 27 #[.int .i64 n] w fun e w'=>∃ cb mb,e=.returned (.pointer (some ⟨cb,0,none⟩))/\Ext w w'/\jfX w' cb mb (min (max n 0) 64)/\w.heap.size<=cb/\w.heap.size<=mb/\cb≠mb:=by
 have q:=Tryz.makeMapSI;go_enter Tryz.func27,Tryz.ntmps27;go_wp2_with fail
 go_ret
 refine⟨_,w.heap.size,rfl,((ExtR w).alloc _).alloc _,⟨by rw[<-bF w (.map #[] 0)];exact Blk.new _ _,(Blk.new w _).alloc _⟩,?_,bL _,?_⟩
 ·omega
 ·omega
theorem jvi(h:jfX w cb mb 0)(key:vB) :
  vR 35 #[.pointer (some ⟨cb,0,none⟩),.string key] w (.tuple #[.string ⟨#[]⟩,.bool false]):=by
 have e:=h.1.cell (i:=0) (v:=.int .i64 0) vF;clear h;go_enter Tryz.func35,Tryz.ntmps35;go_wp2_with fail
 go_ret2
 exact⟨rfl,ExtR w⟩
theorem jpF(h:jfX w cb mb 0)(key value:vB) :
  vR 37 #[.pointer (some ⟨cb,0,none⟩),.string key,.string value] w (.bool false):=by
 have e:=h.1.cell (i:=0) (v:=.int .i64 0) vF;clear h;go_enter Tryz.func37,Tryz.ntmps37;go_wp2_with fail
 go_ret
 exact⟨rfl,ExtR w⟩
end
theorem Tryz.makeMapIS:(Instr.makeMap 75 none).run Tryz.prog w=.ok (.map (some w.heap.size)) (w.alloc (.map #[] 0)):=vY
theorem Tryz.enterSAdd:(callFunc 28 args).run Tryz.prog w=.ok (.enter 28 args) w:=vY
def noT:vB:=jam ⟨#[]⟩
noncomputable def S1L(z:Nat):vT:=[(ky noT,z,⟨noT,[],0,1⟩)]
noncomputable def es1:List (Ent Int):=[(0,.string (shaB noT),0)]
def NewP(w:vW)(window room cached:Int)(e:Ending)(w':vW):Prop:=∃ D b a c rm sb cb mb bm z,e=.returned (.tuple #[.pointer (some ⟨b,0,none⟩),.int .i64 0])/\ChI w D w' b (newN window) a c rm sb cb es1 1 bm room (S1L z) 1/\Ext w w'/\jfX w' cb mb (min (max cached 0) 64)/\(∀ x,x=cb\/x=mb->¬ ChF b rm bm (S1L z) x/\w.heap.size<=x/\¬ D x/\x≠sb)/\w.heap.size<=b/\w.heap.size<=rm/\cb≠mb
theorem jfX.keeps{W:vW}{cb mb:Nat}{n:Int}(h:jfX W cb mb n)(k:jac F W W')(h1:¬ F cb)(h2:¬ F mb):jfX W' cb mb n:=⟨h.1.keeps k h1,h.2.keeps k h2⟩
theorem jpx(hc:jbA w)(he:ErrT w)(window room cached:Int)(hr:1<=room)(hr2:room<=9223372036854775807)(h0:0<=cached/\cached<=1000000) :
  vQ 5 #[.int .i64 window,.int .i64 room,.int .i64 cached] w (NewP w window room cached):=by
 have e4:=Tryz.makeMapIS;have HP:=Hd (bA hc (bA he (bA hr (bA hr2 h0))));have e0:¬ room < 1:=vO
 clear hc he hr hr2 h0;go_enter Tryz.func5,Tryz.ntmps5;go_wp2_with fail
 refine (jyb w window).mono ?_;rintro e w1 ⟨av,rfl,b3,a4⟩
 obtain⟨a1,c1,c9⟩:=a4.sl
 subst c9
 obtain⟨M,hM⟩:=vE (newN window)
 rw[<-hM]at a4 ⊢;have H1:=Hd (bA b3 (bA a4 hM));clear b3 a4 hM;unfold modV;go_wp2_with fail
 have a8:=Blk.new w1 (.map #[] 0);have k1:=(ExtR w1).alloc (.map #[] 0);generalize w1.alloc (.map #[] 0)=w2 at a8 k1 ⊢;refine (jyE w2 room).mono ?_;rintro e w3 ⟨sb,bm,rfl,a9,h3⟩;have H3:=Hd (bA k1 (bA a8 (bA a9 h3)));clear k1 a8 a9 h3;go_wp2_with fail
 refine (jxE w3 cached (by have:=HP.o.2.2.2.2;omega) (by have:=HP.o.2.2.2.2;omega)).mono ?_;rintro e w4 ⟨cb,mb,rfl,b7,h4⟩;have H4:=Hd (bA b7 h4);clear b7 h4;go_wp2_with fail
 have b8:=Blk.new w4 (.cells (chC M a1 c1 w1.heap.size sb cb).toArray 81);have kh:=(ExtR w4).alloc (.cells (chC M a1 c1 w1.heap.size sb cb).toArray 81);change Code.wp _ _ _ _ (w4.alloc (.cells (chC M a1 c1 w1.heap.size sb cb).toArray 81));generalize w4.alloc (.cells (chC M a1 c1 w1.heap.size sb cb).toArray 81)=w5 at b8 kh ⊢;have H5:=Hd (bA b8 kh);have c3:bm < w3.heap.size:=by obtain⟨_,_,h1,_⟩:=H3.o.2.2.2.1.mp.mp;exact h1.lt
 have d0:=H4.o.1.size;have a0:w4.heap.size≠bm:=vO
 clear b8 kh;refine jau [0,1,2,3,4,5,6,7,8,9,10,11] [5,6] Ext (jac (fun z=>z=bm)) ExtR ExtT (fun x y z h k=>jac.trans h k) (fun x y h=>h.mono (fun _ _ h=>h.elim)) vY vY vY ?_
 refine vD ?_
 refine qDV _ (.pointer (some ⟨w4.heap.size,0,none⟩)) rfl (fun w1 _=>by kernel_rfl) ?_;refine vS ?_
 refine vD ?_
 refine qDL ⟨w4.heap.size,4,none⟩ (.pointer (some ⟨sb,0,none⟩)) rfl (fun w1 h1=>jag (fun w=>by kernel_rfl) ((H5.o.1.drew.keeps h1 a0).cellL rfl)) ?_;refine vS ?_;refine jdK _ 29 #[.string ⟨#[]⟩] (.string (jam ⟨#[]⟩)) rfl vY rfl (fun w1=>jal (vX 29) vY) (fun w1 h1=>jct w1 ⟨#[]⟩ vI) ?_;refine vS ?_;refine qDH _ rfl (fun wb hb K hK=>?_);have kb:Ext w5 wb:=(jak _).trans hb;refine jbk (v:=.slice (some ⟨wb.heap.size,0,none⟩) 1 1) (w':=wb.alloc (.cells #[.string (jam ⟨#[]⟩)] 9)) vY (hK _ _ ((jac.refl _ wb).alloc _) ?_);have H6:=Hd (bA (kb.trans ((ExtR wb).alloc (.cells #[.string (jam ⟨#[]⟩)] 9))) (show RdS (wb.alloc (.cells #[.string (jam ⟨#[]⟩)] 9)) (.slice (some ⟨wb.heap.size,0,none⟩) 1 1) [jam ⟨#[]⟩]from(show SRow wb (wb.alloc (.cells #[.string (jam ⟨#[]⟩)] 9)) (.slice (some ⟨wb.heap.size,0,none⟩) 1 1) 1 [jam ⟨#[]⟩]from ORow.lit #[.string (jam ⟨#[]⟩)] (ExtR wb) vI rfl).rd));generalize wb.alloc (.cells #[.string (jam ⟨#[]⟩)] 9)=w6 at H6 ⊢;clear hK K hb kb;refine vS ?_;refine qDH _ rfl (fun wc hc K hK=>?_);have O:Ext w5 wc:=H6.o.1.trans hc;have X:Ext w4 wc:=H5.o.2.trans O;have A:Ext w3 wc:=H4.o.1.trans X;have Z:Ext w wc:=H1.o.1.trans (H3.o.1.trans (H3.o.2.2.1.trans A));have b4:max room 0=room:=by have:=HP.o.2.2.1;omega
 have b1:=joP wc (HP.o.1.ext Z) (HP.o.2.1.ext Z) sb bm (max room 0) [] (H3.o.2.2.2.1.ext A) _ [noT] (H6.o.2.ext hc) (∃ t'∈[noT],¬ ∃ n,jbd t' n) (jo1 (fun t ht=>.inl (by rw[bM.1 ht];exact⟨_,jhH⟩))) vI noT rfl vO (by have:=HP.o.2.2.2.1;omega) vI (fun x q=>by cases q) (fun x q=>by cases q);refine jaT (jal Tryz.enterSAdd vY) (b1.mono ?_);rintro e w8 (⟨k,d1,_⟩ |⟨top,G,M',b2,hY⟩)
 ·exact absurd d1 (jq9 w jhH juJ (by have:=HP.o.2.2.1;show ((0:Nat):Int)+1<=_;omega))
 obtain rfl:noT=top:=by injection b2
 refine⟨_,hY.res,hK _ _ (hY.kp.mono fun z _ e=>e.elim id fun e=>by cases e) ?_⟩
 have H8:=Hd (bA hY (bA Z (bA A (bA X O))));clear hK K hc b1 hY b2 O X A Z;refine vS ?_;iterate 5 refine vD ?_
 refine qDE (fun w9 h9=>?_)
 obtain⟨hY,Z,A,X,O⟩:=H8.o
 have J:jac (fun z=>z=bm) wc w9:=(hY.kp.mono fun z _ e=>e.elim id fun e=>by cases e).trans (h9.mono fun _ _ e=>e.elim);have b9:=H3.o.2.2.2.2;have a2:=H3.o.1.size;have a3:=H4.o.1.size;have b5:w1.heap.size≠bm:=by have:=H3.o.2.1.lt;omega
 have a5:Blk w9 w1.heap.size (.map (EB.arr []) 0):=((H3.o.2.1.keeps H3.o.2.2.1 (fun h=>h)).keeps A (fun h=>h)).keeps J b5;have b0:Blk w9 w4.heap.size _:=(H5.o.1.keeps O (fun h=>h)).keeps J a0;have q1:w9.cell? ⟨w4.heap.size,3,none⟩=some (.map (some w1.heap.size)):=b0.cellL rfl
 obtain⟨b6,H⟩:=vE (w9.putObj w1.heap.size (.map (EB.arr es1) 1))
 have d2:(Instr.mapUpdate 75 (.map (some w1.heap.size)) (.int .i64 0) (.string (shaB noT))).run Tryz.prog w9=.ok () b6:=by
  have:=jbj EB Tryz.uRoots a5 0 (.string (shaB noT))
  rw[H];exact this
 have H9:=Hd (bA J (bA a5 (bA b0 (bA H (bA b9 (bA a2 (bA a3 (bA b5 (bA h9 b4)))))))));clear J a5 b0 H b9 a2 a3 b5 h9 hY Z A X O b4 c3 a0 d0
 obtain⟨rt,c5⟩:=vE (shaB noT)
 rw[<-c5]at d2 ⊢;clear c5;go_wp2_with fail
 go_ret2
 obtain⟨J,a5,b0,H,b9,a2,a3,b5,h9,b4⟩:=H9.o
 obtain⟨hY,Z,A,X,O⟩:=H8.o
 obtain⟨b3,a4,hM⟩:=H1.o
 obtain⟨k1,a8,a9,c0,d3,e5,e6⟩:=H3.o
 obtain⟨b7,c2,e7,e8,d4⟩:=H4.o
 obtain⟨z,hz⟩:∃ z,addS [] G M' noT=[]++[(ky noT,z,⟨noT,[],0,1⟩)]:=jq7 wc jhH juJ hY.given hY.path vF
 have g1:=b3.size;have g3:=a9.size;have g4:=X.size;have g5:=A.size;have d7:bm < w3.heap.size:=by obtain⟨_,_,h1,_⟩:=c0.mp.mp;exact h1.lt
 have d8:sb < w3.heap.size:=c0.st.lt;have d9:w1.heap.size < w2.heap.size:=a8.lt;have e1:cb < w4.heap.size:=c2.1.lt;have e2:mb < w4.heap.size:=c2.2.lt;have e9:w4.heap.size < wc.heap.size:=(H5.o.1.keeps O (fun h=>h)).lt;have c7:=((ChS.none (w0:=w) c0 d3 vO).ext A).add vO vI vI hY;have f0:wc.heap.size<=z:=by
  have h1:=hY.newS (ky noT,z,⟨noT,[],0,1⟩) (by rw[hz];simp);rcases h1 with h1 | h1
  ·cases h1
  ·exact h1
 rw[hz,b4]at c7;have a7:jac (fun x=>x=w1.heap.size) w9 b6:=by rw[H];exact jac.onePut _ _ _
 have c4:Blk b6 w1.heap.size (.map (EB.arr es1) 1):=by rw[H];exact a5.put_same _
 have c8:(S1L z).map (·.2.1)=[z]:=rfl;have d5:=(((((a4.ext k1).ext a9).ext A).keeps J (fun x q e=>by have h:=q.2;have e:x=bm:=e;omega)).keeps a7 (fun x q e=>by have h:=q.2;have e:x=w1.heap.size:=e;omega));have d6:Ext w b6:=(Z.trans' J fun x q e=>by have e:x=bm:=e;omega).trans' a7 fun x q e=>by have e:x=w1.heap.size:=e;omega
 have f1:=J.size;have e3:=a7.size
 refine⟨NewB w w1,w4.heap.size,a1,c1,w1.heap.size,sb,cb,mb,bm,z,rfl,?_,d6,?_,?_,by omega,by omega,d4⟩
 ·rw[<-hM]
  refine⟨⟨b0.keeps a7 vO,d5,c4⟩,(c7.ext h9).keeps a7 vO vO (fun x q e=>?_) (jhG a5),fun x q=>?_,by omega,fun e=>by have h:=e.2;omega,fun x q=>?_,by rw[hM];exact jyc window,by decide,by decide,fun x q=>?_,fun x q=>?_⟩
  ·rw[cN,bM]at q
   subst q;have e:z=w1.heap.size:=e;omega
  ·rw[c8,bM]
   rcases q with rfl | rfl | q
   ·omega
   ·omega
   ·have h:=q.2
    omega
  ·have h:=q.2
   omega
  ·have q:x∈[((0:Int),Value.string (shaB noT),0)]:=q
   rw[bM.1 q];decide
  ·have q:x∈[((0:Int),Value.string (shaB noT),0)]:=q
   rw[bM.1 q];exact⟨_,rfl⟩
 ·exact ((c2.keeps X (fun h=>h) (fun h=>h)).keeps J vO vO).keeps a7 vO vO
 ·intro x q
  refine⟨fun e=>?_,by omega,fun e=>by have h:=e.2;omega,by omega⟩
  rcases e with e | e | e | e
  ·omega
  ·omega
  ·omega
  ·rw[c8,bM]at e;omega
theorem jmc(window room cached:Int)(hr:room < 1) :
  vR 5 #[.int .i64 window,.int .i64 room,.int .i64 cached] w (.tuple #[.pointer none,.int .i64 3]):=by
 go_enter Tryz.func5,Tryz.ntmps5;go_wp2_with fail
 go_ret2
 exact⟨rfl,ExtR w⟩
section
attribute [local go_sem] Oper.semAt_some
theorem jen(n:Nat):Ext w (w.drewN n):=(ExtR w).drewN n
def foM:vV->vV->Nat | .bool true,pv=>joB pv+1 | _,_=>0
def folV:Option vB->vV | some u=>.tuple #[.string u,.int .i64 0] | none=>.tuple #[.string ⟨#[]⟩,.int .i64 9]
def jw3(z g:Nat)(v:vV)(W:vW)(A:vM)(V:Option vB)(e:Ending)(w':vW):Prop:=e=.returned (folV V)/\∃ v',jeh z g v W w' v' A
end
theorem juh{d:Nat}{p q:vB}(hg:jaW (InlD d) n)(hp:jaE p=true)(hs:jgO n p=(r,q))(hr:r.size≠0):MayP (InlD d) r/\q.size < p.size/\jaE q=true:=by
 obtain⟨k,H,O,J⟩:=n
 have K:=jni hg hp hs hr;rcases K with⟨rfl,h1,h2,rfl,h3⟩ |⟨rfl,x,t,h1,h2,rfl⟩
 ·cases hg with
  | ext p' r' a1 a2 a3 =>
   have e:r'=r:=bP h2;subst e;have A:1<=H.size:=by
    unfold jae.pathOk at a1;simp only[cC,decide_eq_true_eq]at a1;exact a1.1.1
   refine⟨a3.imp id (fun ⟨m,h,_⟩=>⟨m,h⟩),by rw[jaQ];omega,jbb hp _ _⟩
 ·cases hg with
  | branch v J a1 a2 a3 a4 =>
   have A:0 < p.size:=by
    have:=congrArg List.length h1
    rw[jbp]at this;simp at this;omega
   exact⟨a3 r (bG h2) hr,by rw[jaQ];omega,jbb hp _ _⟩
section
attribute [local go_sem] Oper.semAt_some
theorem jxV(x:vB):vQ 72 #[.string x] W fun e w'=>e=.returned (.tuple #[])/\w'=W:=by
 unfold vQ;go_in;go_wp2_with fail
 refine bodyPost_end (results_none rfl _ _ _) rfl ?_
 exact⟨rfl,rfl⟩
theorem juu(room:Int)(S:vT)(hs:jax W s bm room S)(k:vB)(y:Nd5)(hy:atL S k.data.toList=some y)(f:Nat)(n:jae)(hg:jaW (InlD f) n)(ht:y.2.2.text=jaV n) :
  vR 116 #[.pointer (some ⟨s,0,none⟩),.string k,.func (.func 72) #[] #[]] W (.tuple #[n.V,.bool true]):=by
 have hn:=(hg.one (inlP f)).refs;have HN:=Hd hn;have HG:=Hd hg;have HL:=Hd (n.cells_len hn);have q:=fun w (h:jax w s bm room S)=>jfR w s bm room S k h;rw[hy]at q;simp only[fM,optV]at q;have K:=Hd q;have HS:=Hd hs
 obtain⟨t,O⟩:=vE y.2.2.text
 rw[<-O]at K ht;have HT:=Hd ht;clear q hs hg ht hn hy O;go_enter Tryz.func116,Tryz.ntmps116;go_wp2_with (refine jah Tryz.allocNode rfl rfl ?_;intro W1 X H)
 refine vC (K.o W1 (HS.o.ext H)) fun w3 J=>?_;have Z:=Hd (X.keeps J (fun h=>h));have a1:=Hd (H.trans J);clear J X H;go_wp2_with fail
 refine (jxV w3 t).mono ?_;rintro e w4 ⟨rfl,rfl⟩;go_wp2_with fail
 rw[HT.o];refine vC (jer (inlP f) w4 n HG.o) fun w5 J=>?_;rw[<-HT.o];have A:=Z.o.keeps J (fun h=>h);have a2:=Hd J;clear J Z;unfold jae.V;go_wp2_with (first |(refine jah Tryz.allocNode rfl rfl ?_;intro W5 a5 a3;refine jad (vs:=n.cells) rfl rfl rfl rfl a5 (by rw[HL.o];rfl) (by rw[HL.o];exact Tryz.szNode) n.one ?_;intro W6 a7 a4;have a0:=(A.keeps a3 (fun h=>h)).keeps a4 (by have:=A.lt;omega)) |(refine jaf 206 (.tmp 10) rfl rfl _ _ rfl (jap _ _ n HN.o a7) ?_) |(refine jad (vs:=n.cells) rfl rfl rfl rfl a0 (by rw[HL.o];rfl) (by rw[HL.o];exact Tryz.szNode) n.one ?_;intro W8 a8 a9))
 refine bodyPost_ret (jan rfl rfl rfl (jat W8 _ n HN.o a8)) rfl ?_;have b0:Ext W W6:=(((a1.o.trans a2.o).trans a3)).trans' a4 (fun x hx e=>by have e:x=w5.heap.size:=e;have:=a2.o.size;have:=a1.o.size;omega)
 exact⟨rfl,b0.trans' a9 (fun x hx e=>by have e:x=W.heap.size:=e;omega)⟩
noncomputable def folN(S:vT):Nat->jae->vB->Option vB
 | 0,_,_=>none
 | f+1,n,p=>match jdc n p with
  | some u=>some u
  | none=>if (jgO n p).1.size=0 then none else (gRef S (jgO n p).1).bind fun m=>folN S f m (jgO n p).2
theorem jmw{p u:vB}(h:jdc n p=some u):folN S (f+1) n p=some u:=by
 rw[folN,h]
theorem js5{p:vB}(h:jdc n p=none):folN S (f+1) n p=if (jgO n p).1.size=0 then none else (gRef S (jgO n p).1).bind fun m=>folN S f m (jgO n p).2:=by
 rw[folN,h]
def jyT(W:vW)(L:Nat)(S:vT)(V:Option vB)(okv pv:vV)(wr:vW):Prop:=
 ∃ (p:vB),pv=.string p/\Ext W wr /\
  ((okv=.bool true/\∃ f d n,jaW (InlD d) n/\jaE p=true/\p.size<=2000/\p.size < f/\folN S f n p=V/\Blk wr L (.cells n.cells.toArray 206)) \/
  (okv=.bool false/\V=none))
theorem jhu{W W'':vW}(h:Ext W W')(e:jac (fun b=>b=L) W' W'')(h3:W.heap.size<=L):Ext W W'':=
 h.trans' e (fun x q y=>by have y:x=L:=y;omega)
theorem jn7(room:Int)(S:vT)(hs:jax W s bm room S)(hN:jfn S)(root:vB)(y:Nd5)(hy:atL S root.data.toList=some y)(key:vB)(hk:key.size<=1000) :
  vR 71 #[.pointer (some ⟨s,0,none⟩),.string root,.string key,.func (.func 72) #[] #[]] W (folV (folN S ((jaJ key).size+1) (nodeOf y.2.2.text) (jaJ key))):=by
 have f4:=Hd hN;have HS:=Hd hs
 obtain⟨n0,d8⟩:=hN y (jaF hy).1
 obtain⟨ht,d,hg⟩:=jcc d8
 obtain⟨n,hn⟩:=vE (nodeOf y.2.2.text)
 rw[<-hn]at ht hg ⊢;have HG:=Hd hg;have d9:=juu W s bm room S hs root y hy d n hg ht;have f5:=Hd d9;have HL:=Hd (n.cells_len (hg.one (inlP d)).refs);have HK:=Hd hk
 obtain⟨V,hV⟩:=vE (folN S ((jaJ key).size+1) n (jaJ key))
 have HV:=Hd hV;rw[<-hV];clear hs hg hn d9 hk hV hN hy d8 ht;go_enter Tryz.func71,Tryz.ntmps71;go_wp2_with fail
 refine f5.o.mono ?_;rintro e w1 ⟨rfl,e0⟩;have e1:=Hd e0;clear e0;unfold jae.V;go_wp2_with (first |(refine jah Tryz.allocNode rfl rfl ?_;intro W5 e2 e3;refine jad (vs:=n.cells) rfl rfl rfl rfl e2 (by rw[HL.o];rfl) (by rw[HL.o];exact Tryz.szNode) n.one ?_;intro W6 e4 e5))
 refine vC (je3 _ key (by have:=HK.o;omega)) fun w7 H=>?_;have e6:Ext w1 W6:=e3.trans' e5 (fun x hx e=>by have e:x=w1.heap.size:=e;omega);have f6:=Hd ((e1.o.trans e6).trans H);have e7:=Hd (e4.keeps H (fun h=>h));have a4:Hid (W.heap.size<=w1.heap.size):=e1.o.size
 obtain⟨L,hL⟩:=vE w1.heap.size
 rw[<-hL]at e7 a4 ⊢;clear hL H e6 e2 e3 e4 e5
 obtain⟨pk,c7⟩:=vE (jaJ key)
 have c8:=Hd c7;rw[<-c7];clear c7;go_wp2_with fail
 go_loopw [11,12] (fun c9 pv wr=>jyT W L S V c9 pv wr) (fun c9 pv _=>foM c9 pv)
 case atStart =>
  exact⟨pk,rfl,f6.o,.inl ⟨rfl,pk.size+1,d,n,HG.o,by rw[c8.o];exact jc7 key,by rw[c8.o,jeA];have:=HK.o;omega,Nat.lt_succ_self _,by rw[c8.o, <-HV.o],e7.o⟩⟩
 case round =>
  obtain⟨p,rfl,hT,hc⟩:=hrel
  have HE:=Hd hT;clear hT;rcases hc with⟨rfl,f0,dn,m0,h1,h2,h3,h3f,h4,h6⟩ |⟨rfl,h2⟩
  case inr =>
   have HF:=Hd h2;clear h2;go_wp2_with fail
   go_ret2
   exact⟨by rw[HF.o];rfl,HE.o⟩
  case inl =>
   obtain⟨f,rfl⟩:∃ f,f0=f+1:=⟨f0 - 1,by omega⟩
   obtain⟨k,pa,va,rs⟩:=m0
   have HC:=Hd (bA h2 (bA h3 h3f));have e8:=Hd h4;have d0:=Hd h1;have HB:=Hd h6;have g0:k<=3:=(h1.one (inlP dn)).kind;have d1:rs.length=16:=(h1.one (inlP dn)).refs;have g2:pa.size<=12:=(h1.one (inlP dn)).path;have g3:=Hd d1;have X:=Hd (jae.cells_len ⟨k,pa,va,rs⟩ d1);have g4:p.size<=1000000:=vO
   have q0:=h6.cellL (i:=0) (v:=.int .i64 k) vF;have q1:=h6.cellL (i:=1) (v:=.string pa) vF;have q2:=h6.cellL (i:=2) (v:=.string va) vF;have Q3:=Hd (show ∀ i r,rs[i]?=some r->wr.cell? ⟨L,3+i,none⟩=some (.string r)from fun i r hi=>h6.cellL (i:=3+i) (v:=.string r) (by
    show (_ :: _ :: _ :: rs.map Value.string)[3+i]?=_;rw[show 3+i=i+1+1+1 by omega];simp[hi]))
   clear d1 h1 h2 h3 h3f h4 h6;have g5:(⟨#[]⟩:vB).toList.isEmpty=true:=by rw[bR];rfl
   cases hcl:jdc ⟨k,pa,va,rs⟩ p with
   | some u =>
    have a7:=Hd (show V=some u by rw[<-e8.o,jmw hcl]);have f7:=Hd (jwB hcl);clear hcl;rcases f7.o with⟨rfl,rfl,rfl⟩ |⟨rfl,rfl,rfl,hz⟩
    ·have a5:wr.cell? ⟨L,0,none⟩=some (.int .i64 1):=q0
     clear q0;go_wp2_with fail
     go_ret2
     exact⟨by rw[a7.o];rfl,HE.o⟩
    ·have a5:wr.cell? ⟨L,0,none⟩=some (.int .i64 3):=q0
     have g6:va.toList.isEmpty=false:=by
      rw[dM];intro e;rw[gC,bR]at e;exact hz (by rw[<-jbp,e];rfl)
     clear q0;go_wp2_with fail
     go_ret2
     exact⟨by rw[a7.o];rfl,HE.o⟩
   | none =>
    have a8:=e8.o;rw[js5 hcl]at a8
    obtain⟨r,q,b2⟩:∃ r q,jgO ⟨k,pa,va,rs⟩ p=(r,q):=⟨_,_,rfl⟩
    rw[b2]at a8;simp only at a8
    by_cases hr0:r.size=0
    ·rw[if_pos hr0]at a8
     have e9:=ja5 hr0;rw[e9]at b2;have f8:=Hd (jwC d0.o HC.o.1 b2 hcl);have a7:=Hd a8.symm;clear hcl a8 b2 hr0 e9;rcases f8.o with rfl |⟨rfl,f1⟩ |⟨rfl,hpre⟩ |⟨rfl,rfl,rfl⟩ |⟨rfl,x,t,hx,hr⟩
     ·have a5:wr.cell? ⟨L,0,none⟩=some (.int .i64 0):=q0
      clear q0;go_wp2_with fail
      refine vC (jdG _) fun w2 H=>?_;have A:Hid (Ext wr w2):=Hd (by first | exact H | exact (jen _ _).trans H);clear H;go_wp2_with fail
      refine vH (jdH w2) fun w3 H=>?_;have J:=Hd (A.o.trans H);have K:=HB.o.keeps J.o (fun h=>h);clear A;unfold jae.V;go_wp2_with (refine jad (vs:=jas.cells) rfl rfl rfl rfl K (by rw[X.o];rfl) (by first | exact Tryz.szNode |(rw[X.o];exact Tryz.szNode)) jas.one ?_;intro W8 a2 O)
      go_roundw
      case rel=>exact⟨_,rfl,jhu (HE.o.trans J.o) O a4.o,.inr ⟨rfl,a7.o⟩⟩
      case measure=>simp[foM]
     ·have a5:wr.cell? ⟨L,0,none⟩=some (.int .i64 1):=q0
      have f1:=jeJ f1;clear q0;go_wp2_with fail
      refine vC (jdG _) fun w2 H=>?_;have A:Hid (Ext wr w2):=Hd (by first | exact H | exact (jen _ _).trans H);clear H;go_wp2_with fail
      refine vH (jdH w2) fun w3 H=>?_;have J:=Hd (A.o.trans H);have K:=HB.o.keeps J.o (fun h=>h);clear A;unfold jae.V;go_wp2_with (refine jad (vs:=jas.cells) rfl rfl rfl rfl K (by rw[X.o];rfl) (by first | exact Tryz.szNode |(rw[X.o];exact Tryz.szNode)) jas.one ?_;intro W8 a2 O)
      go_roundw
      case rel=>exact⟨_,rfl,jhu (HE.o.trans J.o) O a4.o,.inr ⟨rfl,a7.o⟩⟩
      case measure=>simp[foM]
     ·have a5:wr.cell? ⟨L,0,none⟩=some (.int .i64 2):=q0
      have b6:=Hd hpre;clear q0 hpre;go_wp2_with fail
      refine (jdY _ p pa vO vO).mono ?_;rintro e d3 ⟨rfl,a9⟩;rw[a9];clear a9;rw[b6.o];go_wp2_with fail
      refine vC (jdG _) fun w2 H=>?_;have A:Hid (Ext wr w2):=Hd (by first | exact H | exact (jen _ _).trans H);clear H;go_wp2_with fail
      refine vH (jdH w2) fun w3 H=>?_;have J:=Hd (A.o.trans H);have K:=HB.o.keeps J.o (fun h=>h);clear A;unfold jae.V;go_wp2_with (refine jad (vs:=jas.cells) rfl rfl rfl rfl K (by rw[X.o];rfl) (by first | exact Tryz.szNode |(rw[X.o];exact Tryz.szNode)) jas.one ?_;intro W8 a2 O)
      go_roundw
      case rel=>exact⟨_,rfl,jhu (HE.o.trans J.o) O a4.o,.inr ⟨rfl,a7.o⟩⟩
      case measure=>simp[foM]
     ·have a5:wr.cell? ⟨L,0,none⟩=some (.int .i64 3):=q0
      clear q0;go_wp2_with fail
      refine vC (jdG _) fun w2 H=>?_;have A:Hid (Ext wr w2):=Hd (by first | exact H | exact (jen _ _).trans H);clear H;go_wp2_with fail
      refine vH (jdH w2) fun w3 H=>?_;have J:=Hd (A.o.trans H);have K:=HB.o.keeps J.o (fun h=>h);clear A;unfold jae.V;go_wp2_with (refine jad (vs:=jas.cells) rfl rfl rfl rfl K (by rw[X.o];rfl) (by first | exact Tryz.szNode |(rw[X.o];exact Tryz.szNode)) jas.one ?_;intro W8 a2 O)
      go_roundw
      case rel=>exact⟨_,rfl,jhu (HE.o.trans J.o) O a4.o,.inr ⟨rfl,a7.o⟩⟩
      case measure=>simp[foM]
     ·have a5:wr.cell? ⟨L,0,none⟩=some (.int .i64 3):=q0
      obtain⟨h0,b0⟩:=jcT hx
      have a1:x.toNat < 16:=jhF (p:=(p,p)) HC.o.1 hx;have q3:=Q3.o _ _ hr;rw[<-b0]at q3 a1;have d4:p.toList.isEmpty=false:=by
       rw[dM];intro e;rw[gC,bR]at e;rw[hx]at e;cases e
      have c1:(0:Int) < (p.size:Int):=vO
      have c2:((p[0]'h0).toNat:Int) < 16:=vO
      have c3:(1:Int)<=(p.size:Int):=vO
      clear q0 hx hr b0;go_wp2_with fail
      go_quiet (fail)
      go_wp2_with fail
      refine vC (jdG _) fun w2 H=>?_;have A:Hid (Ext wr w2):=Hd (by first | exact H | exact (jen _ _).trans H);clear H;go_wp2_with fail
      refine vH (jdH w2) fun w3 H=>?_;have J:=Hd (A.o.trans H);have K:=HB.o.keeps J.o (fun h=>h);clear A;unfold jae.V;go_wp2_with (refine jad (vs:=jas.cells) rfl rfl rfl rfl K (by rw[X.o];rfl) (by first | exact Tryz.szNode |(rw[X.o];exact Tryz.szNode)) jas.one ?_;intro W8 a2 O)
      go_roundw
      case rel=>exact⟨_,rfl,jhu (HE.o.trans J.o) O a4.o,.inr ⟨rfl,a7.o⟩⟩
      case measure=>simp[foM]
    ·rw[if_neg hr0]at a8
     have c5:=Hd a8
     obtain⟨b7,a3,b4⟩:=juh d0.o HC.o.1 b2 hr0
     have Z:=Hd (bA a3 b4);have f9:=Hd (show r.size<=1000000000 by have:=b7.size (inlP dn);omega);have HY:=Hd (jni d0.o HC.o.1 b2 hr0);have c4:CutE r:=by
      rcases b7 with⟨x,h1,h2⟩ |⟨m,hi⟩
      ·intro e
       obtain⟨q,h3,_⟩:=jeu x h1
       rw[<-h2,e]at h3;cases h3
      ·intro e
       obtain⟨q,h1,_⟩:=(inlP dn).nohash r m hi
       rw[e]at h1;cases h1
     have a0:=fun w=>jdf w r f9.o c4;clear c4;rcases b7 with hh |⟨m,hi⟩
     case inr =>
      cases dn with
      | zero=>exact hi.elim
      | succ dn =>
      have b5:=jes (inlP (dn+1)) hi;have b8:=Hd (show folN S f m q=V by
       rw[<-c5.o];unfold gRef;rw[b5];show _=folN S f (inlOf r) q;rw[jmH W hi])
      have f2:=Hd (fun w=>(inlP (dn+1)).inl _ _ hi w);have b9:=Hd hi.1;have b3:=Hd (m.cells_len (hi.1.one (inlP dn)).refs);rw[jgg,b5]at a0;simp only[optV]at a0;have HH:=Hd a0;clear a0 b5 hi hcl a8 a3 b4 hr0 b2;rcases HY.o with⟨rfl,hpre,hr,rfl,hle⟩ |⟨rfl,x,t,hx,hr,rfl⟩
      ·have a5:wr.cell? ⟨L,0,none⟩=some (.int .i64 2):=q0
       have b6:=Hd hpre;have q3:=Q3.o 0 _ hr;have c1:(pa.size:Int)<=(p.size:Int):=vO
       clear q0 hpre hr hle;go_wp2_with fail
       refine (jdY _ p pa vO vO).mono ?_;rintro e d3 ⟨rfl,a9⟩;rw[a9];clear a9;rw[b6.o];go_wp2_with fail
       go_quiet (fail)
       go_wp2_with fail
       refine vC (HH.o _) fun w2 H=>?_;have A:Hid (Ext wr w2):=Hd (by first | exact H | exact (jen _ _).trans H);clear H;go_wp2_with fail
       refine vH (f2.o w2) fun w3 H=>?_;have J:=Hd (A.o.trans H);have K:=HB.o.keeps J.o (fun h=>h);clear A;unfold jae.V;go_wp2_with (refine jad (vs:=m.cells) rfl rfl rfl rfl K (by rw[X.o,b3.o]) (by rw[b3.o];exact Tryz.szNode) m.one ?_;intro W8 a2 O)
       go_roundw
       case rel=>exact⟨_,rfl,jhu (HE.o.trans J.o) O a4.o,.inl ⟨rfl,f,dn,m,b9.o,Z.o.2,by have:=Z.o.1;have:=HC.o.2.1;omega,by have:=Z.o.1;have:=HC.o.2.2;omega,b8.o,a2⟩⟩
       case measure=>have h9:=Z.o.1;simp only[foM,joB];omega
      ·have a5:wr.cell? ⟨L,0,none⟩=some (.int .i64 3):=q0
       obtain⟨h0,b0⟩:=jcT hx
       have a1:x.toNat < 16:=jhF (p:=(p,p)) HC.o.1 hx;have q3:=Q3.o _ _ hr;rw[<-b0]at q3 a1;have d4:p.toList.isEmpty=false:=by
        rw[dM];intro e;rw[gC,bR]at e;rw[hx]at e;cases e
       have c1:(0:Int) < (p.size:Int):=vO
       have c2:((p[0]'h0).toNat:Int) < 16:=vO
       have c3:(1:Int)<=(p.size:Int):=vO
       clear q0 hx hr b0;go_wp2_with fail
       go_quiet (fail)
       go_wp2_with fail
       refine vC (HH.o _) fun w2 H=>?_;have A:Hid (Ext wr w2):=Hd (by first | exact H | exact (jen _ _).trans H);clear H;go_wp2_with fail
       refine vH (f2.o w2) fun w3 H=>?_;have J:=Hd (A.o.trans H);have K:=HB.o.keeps J.o (fun h=>h);clear A;unfold jae.V;go_wp2_with (refine jad (vs:=m.cells) rfl rfl rfl rfl K (by rw[X.o,b3.o]) (by rw[b3.o];exact Tryz.szNode) m.one ?_;intro W8 a2 O)
       go_roundw
       case rel=>exact⟨_,rfl,jhu (HE.o.trans J.o) O a4.o,.inl ⟨rfl,f,dn,m,b9.o,Z.o.2,by have:=Z.o.1;have:=HC.o.2.1;omega,by have:=Z.o.1;have:=HC.o.2.2;omega,b8.o,a2⟩⟩
       case measure=>have h9:=Z.o.1;simp only[foM,joB];omega
     case inl =>
      obtain⟨h,h1,h2⟩:=hh
      have b5:jcM r=some h:=by rw[h2];exact jgh h1
      rw[jgg,b5]at a0;simp only[optV]at a0;have HH:=Hd a0;have d5:gRef S r=gHash S h:=by unfold gRef;rw[b5];rfl
      rw[d5]at c5;cases ha:atL S h.data.toList with
      | none =>
       have a7:=Hd (show V=none by rw[<-c5.o];unfold gHash;rw[ha];rfl);have b1:=Hd (fun w (e:Ext W w)=>jo5 w s bm room S (HS.o.ext e) (.func (.func 72) #[] #[]) h ha);clear a0 b5 h1 h2 hcl a8 a3 b4 hr0 b2 d5 ha;rcases HY.o with⟨rfl,hpre,hr,rfl,hle⟩ |⟨rfl,x,t,hx,hr,rfl⟩
       ·have a5:wr.cell? ⟨L,0,none⟩=some (.int .i64 2):=q0
        have b6:=Hd hpre;have q3:=Q3.o 0 _ hr;have c1:(pa.size:Int)<=(p.size:Int):=vO
        clear q0 hpre hr hle;go_wp2_with fail
        refine (jdY _ p pa vO vO).mono ?_;rintro e d3 ⟨rfl,a9⟩;rw[a9];clear a9;rw[b6.o];go_wp2_with fail
        go_quiet (fail)
        go_wp2_with fail
        refine vC (HH.o _) fun w2 H=>?_;have A:Hid (Ext wr w2):=Hd (by first | exact H | exact (jen _ _).trans H);clear H;go_wp2_with fail
        refine vH (b1.o w2 (HE.o.trans A.o)) fun w3 H=>?_;have J:=Hd (A.o.trans H);have K:=HB.o.keeps J.o (fun h=>h);clear A;unfold jae.V;go_wp2_with (refine jad (vs:=jas.cells) rfl rfl rfl rfl K (by rw[X.o];rfl) (by first | exact Tryz.szNode |(rw[X.o];exact Tryz.szNode)) jas.one ?_;intro W8 a2 O)
        go_roundw
        case rel=>exact⟨_,rfl,jhu (HE.o.trans J.o) O a4.o,.inr ⟨rfl,a7.o⟩⟩
        case measure=>simp[foM]
       ·have a5:wr.cell? ⟨L,0,none⟩=some (.int .i64 3):=q0
        obtain⟨h0,b0⟩:=jcT hx
        have a1:x.toNat < 16:=jhF (p:=(p,p)) HC.o.1 hx;have q3:=Q3.o _ _ hr;rw[<-b0]at q3 a1;have d4:p.toList.isEmpty=false:=by
         rw[dM];intro e;rw[gC,bR]at e;rw[hx]at e;cases e
        have c1:(0:Int) < (p.size:Int):=vO
        have c2:((p[0]'h0).toNat:Int) < 16:=vO
        have c3:(1:Int)<=(p.size:Int):=vO
        clear q0 hx hr b0;go_wp2_with fail
        go_quiet (fail)
        go_wp2_with fail
        refine vC (HH.o _) fun w2 H=>?_;have A:Hid (Ext wr w2):=Hd (by first | exact H | exact (jen _ _).trans H);clear H;go_wp2_with fail
        refine vH (b1.o w2 (HE.o.trans A.o)) fun w3 H=>?_;have J:=Hd (A.o.trans H);have K:=HB.o.keeps J.o (fun h=>h);clear A;unfold jae.V;go_wp2_with (refine jad (vs:=jas.cells) rfl rfl rfl rfl K (by rw[X.o];rfl) (by first | exact Tryz.szNode |(rw[X.o];exact Tryz.szNode)) jas.one ?_;intro W8 a2 O)
        go_roundw
        case rel=>exact⟨_,rfl,jhu (HE.o.trans J.o) O a4.o,.inr ⟨rfl,a7.o⟩⟩
        case measure=>simp[foM]
      | some y2 =>
       obtain⟨n2,f3⟩:=f4.o y2 (jaF ha).1
       obtain⟨d6,d2,c0⟩:=jcc f3
       have d7:folN S f (nodeOf y2.2.2.text) q=V:=by rw[<-c5.o];unfold gHash;rw[ha];rfl
       obtain⟨m,hm⟩:=vE (nodeOf y2.2.2.text)
       rw[<-hm]at d6 c0 d7;have b8:=Hd d7;have b1:=Hd (fun w (e:Ext W w)=>juu w s bm room S (HS.o.ext e) h y2 ha d2 m c0 d6);have b9:=Hd c0;have b3:=Hd (m.cells_len (c0.one (inlP d2)).refs);clear a0 b5 h1 h2 hcl a8 a3 b4 hr0 b2 d5 ha f3 d6 c0 d7 hm;rcases HY.o with⟨rfl,hpre,hr,rfl,hle⟩ |⟨rfl,x,t,hx,hr,rfl⟩
       ·have a5:wr.cell? ⟨L,0,none⟩=some (.int .i64 2):=q0
        have b6:=Hd hpre;have q3:=Q3.o 0 _ hr;have c1:(pa.size:Int)<=(p.size:Int):=vO
        clear q0 hpre hr hle;go_wp2_with fail
        refine (jdY _ p pa vO vO).mono ?_;rintro e d3 ⟨rfl,a9⟩;rw[a9];clear a9;rw[b6.o];go_wp2_with fail
        go_quiet (fail)
        go_wp2_with fail
        refine vC (HH.o _) fun w2 H=>?_;have A:Hid (Ext wr w2):=Hd (by first | exact H | exact (jen _ _).trans H);clear H;go_wp2_with fail
        refine vH (b1.o w2 (HE.o.trans A.o)) fun w3 H=>?_;have J:=Hd (A.o.trans H);have K:=HB.o.keeps J.o (fun h=>h);clear A;unfold jae.V;go_wp2_with (refine jad (vs:=m.cells) rfl rfl rfl rfl K (by rw[X.o,b3.o]) (by rw[b3.o];exact Tryz.szNode) m.one ?_;intro W8 a2 O)
        go_roundw
        case rel=>exact⟨_,rfl,jhu (HE.o.trans J.o) O a4.o,.inl ⟨rfl,f,d2,m,b9.o,Z.o.2,by have:=Z.o.1;have:=HC.o.2.1;omega,by have:=Z.o.1;have:=HC.o.2.2;omega,b8.o,a2⟩⟩
        case measure=>have h9:=Z.o.1;simp only[foM,joB];omega
       ·have a5:wr.cell? ⟨L,0,none⟩=some (.int .i64 3):=q0
        obtain⟨h0,b0⟩:=jcT hx
        have a1:x.toNat < 16:=jhF (p:=(p,p)) HC.o.1 hx;have q3:=Q3.o _ _ hr;rw[<-b0]at q3 a1;have d4:p.toList.isEmpty=false:=by
         rw[dM];intro e;rw[gC,bR]at e;rw[hx]at e;cases e
        have c1:(0:Int) < (p.size:Int):=vO
        have c2:((p[0]'h0).toNat:Int) < 16:=vO
        have c3:(1:Int)<=(p.size:Int):=vO
        clear q0 hx hr b0;go_wp2_with fail
        go_quiet (fail)
        go_wp2_with fail
        refine vC (HH.o _) fun w2 H=>?_;have A:Hid (Ext wr w2):=Hd (by first | exact H | exact (jen _ _).trans H);clear H;go_wp2_with fail
        refine vH (b1.o w2 (HE.o.trans A.o)) fun w3 H=>?_;have J:=Hd (A.o.trans H);have K:=HB.o.keeps J.o (fun h=>h);clear A;unfold jae.V;go_wp2_with (refine jad (vs:=m.cells) rfl rfl rfl rfl K (by rw[X.o,b3.o]) (by rw[b3.o];exact Tryz.szNode) m.one ?_;intro W8 a2 O)
        go_roundw
        case rel=>exact⟨_,rfl,jhu (HE.o.trans J.o) O a4.o,.inl ⟨rfl,f,d2,m,b9.o,Z.o.2,by have:=Z.o.1;have:=HC.o.2.1;omega,by have:=Z.o.1;have:=HC.o.2.2;omega,b8.o,a2⟩⟩
        case measure=>have h9:=Z.o.1;simp only[foM,joB];omega
def jr7(N:vM)(w:vW)(e:Ending)(w':vW):Prop:=∃ a c,e=.returned (.tuple #[.slice a N.length c,.int .i64 0])/\SRow w w' (.slice a N.length c) N.length N
theorem ORow.since{T:TypeId}{w1 w:vW}{n:Nat}{xs:List vV}(h:ORow T sz w1 w v n xs)(e:Ext w0 w1):ORow T sz w0 w v n xs:=⟨h.sl,h.own,e.trans h.ext,fun b hb=>bE e.size (h.new b hb)⟩
theorem jqe(room:Int)(S:vT)(hs:jax W s bm room S)(root key:vB)(f:FuncId)(bs:Array vV)(ha:atL S root.data.toList=none) :
  vR 71 #[.pointer (some ⟨s,0,none⟩),.string root,.string key,.func (.func f) #[] bs] W (.tuple #[.string ⟨#[]⟩,.int .i64 4]):=by
 have q:=Hd (jo5 W s bm room S hs (.func (.func f) #[] bs) root ha);clear hs ha;go_enter Tryz.func71,Tryz.ntmps71;go_wp2_with fail
 refine q.o.mono ?_;rintro e w1 ⟨rfl,O⟩;have X:=Hd O;clear O;unfold jae.V;go_wp2_with (first |(refine jah Tryz.allocNode rfl rfl ?_;intro W5 A H;refine jad (vs:=jas.cells) rfl rfl rfl rfl A rfl Tryz.szNode jas.one ?_;intro Z a0 J))
 go_ret2;have K:Ext W Z:=(X.o.trans H).trans' J (fun x hx e=>by have e:x=w1.heap.size:=e;have:=X.o.size;omega)
 exact⟨rfl,K⟩
theorem jmA(room:Int)(S:vT)(hs:jax W s bm room S)(hN:jfn S)(root:vB)(y:Nd5)(hy:atL S root.data.toList=some y)(key:vB)(hk:key.size<=1000) :
  vR 36 #[.pointer (some ⟨s,0,none⟩),.string root,.string key] W (folV (folN S ((jaJ key).size+1) (nodeOf y.2.2.text) (jaJ key))):=by
 have q:=Hd (jn7 W s bm room S hs hN root y hy key hk)
 obtain⟨V,A⟩:=vE (folN S ((jaJ key).size+1) (nodeOf y.2.2.text) (jaJ key))
 rw[<-A]at q ⊢;clear A hs hN hy hk;go_enter Tryz.func36,Tryz.ntmps36;go_wp2_with fail
 refine q.o.mono ?_;rintro e K ⟨rfl,H⟩;have J:=Hd H;clear H;cases V with
 | none =>
  unfold folV;go_wp2_with fail
  go_ret2
  exact⟨rfl,J.o⟩
 | some u =>
  unfold folV;go_wp2_with fail
  go_ret2
  exact⟨rfl,J.o⟩
theorem jvF(room:Int)(S:vT)(hs:jax W s bm room S)(root key:vB)(ha:atL S root.data.toList=none) :
  vR 36 #[.pointer (some ⟨s,0,none⟩),.string root,.string key] W (.tuple #[.string ⟨#[]⟩,.int .i64 4]):=by
 have A:=Hd (jqe W s bm room S hs root key 72 #[] ha);clear hs ha;go_enter Tryz.func36,Tryz.ntmps36;go_wp2_with fail
 refine A.o.mono ?_;rintro e J ⟨rfl,q⟩;have H:=Hd q;clear q;go_wp2_with fail
 go_ret2
 exact⟨rfl,H.o⟩
end
def GetQ(val:vB)(er:Int)(K2 K3:vW->Prop)(e:Ending)(w':vW):Prop:=(er=0/\e=.returned (.tuple #[.string val,.int .i64 0])/\K3 w')\/(er≠0/\e=.returned (.tuple #[.string ⟨#[]⟩,.int .i64 er])/\K2 w')
theorem jpw(M:MdN)(a:Option Addr)(c rm sb cb:Nat)(es:List (Ent Int))(ck:Nat)(h:ChM D w b M a c rm sb cb es ck)(hl:M.all.length<=1000)(bk:Int)(i:Nat)(v:VerN)(r:vB)(hp:jbG M.all bk=some i)(hv:M.all[i]?=some v)(hr:jay es bk=some (.string r))(hrs:r.size<=1000)(key val:vB)(hks:key.size<=1000)(er:Int)(K1 K2 K3:vW->Prop)
  (hG:∀ W,Ext w W->vQ 35 #[.pointer (some ⟨cb,0,none⟩),.string (r++⟨#[32]⟩++key)] W fun e Z=>e=.returned (.tuple #[.string ⟨#[]⟩,.bool false])/\K1 Z)
  (h1:∀ W,K1 W->Blk W b (.cells (chC M a c rm sb cb).toArray 81))
  (hT:∀ W,K1 W->vQ 36 #[.pointer (some ⟨sb,0,none⟩),.string r,.string key] W fun e Z=>e=.returned (.tuple #[.string val,.int .i64 er])/\K2 Z)
  (h2:∀ W,K2 W->Blk W b (.cells (chC M a c rm sb cb).toArray 81))
  (hO:er=0->∀ W,K2 W->vQ 37 #[.pointer (some ⟨cb,0,none⟩),.string (r++⟨#[32]⟩++key),.string val] W fun e Z=>∃ t,e=.returned (.bool t)/\K3 Z) :
  vQ 10 #[.pointer (some ⟨b,0,none⟩),.int .i64 bk,.string key] w (GetQ val er K2 K3):=by
 have HC:=Hd (jin w D b M a c rm sb cb es ck h hl bk i v r hp hv hr);have HB:=Hd h.blk;have HK:=Hd (bA hG (bA h1 (bA hT (bA h2 hO))));have b3:=h.blk.lt;clear h hp hv hr hl hG h1 hT h2 hO;go_enter Tryz.func10,Tryz.ntmps10;go_wp2_with fail
 refine HC.o.mono ?_;rintro e w1 ⟨x,rfl,A,h1,h2,hE⟩
 obtain⟨xv,ev,cv⟩:=x
 have A:xv=v:=A;subst A
 obtain⟨a1,c1,H⟩:=h1.1.sl
 obtain⟨a2,c2,J⟩:=h2.1.sl
 have H:ev=_:=H;have J:cv=_:=J;subst H J;have HE:=Hd hE;have b4:=hE.size;clear h1 h2 hE HC;unfold VX.cells;go_wp2_with (first |(refine jah Tryz.allocVer rfl rfl ?_;intro W2 a0 a3) |(refine jad (vs:=[.int .i64 (xv.block:Int),.slice a1 xv.ents.length c1,.slice a2 xv.chgs.length c2,.int .i64 (xv.pins:Int)]) rfl rfl rfl rfl a0 rfl Tryz.szVer (by simp[Value.oneCell']) ?_;intro W3 a9 a4))
 refine (jgk W3).mono ?_;rintro e w4 ⟨rfl,rfl⟩;have K:Ext w W3:=(HE.o.trans a3).trans' a4 fun x hx e=>by have e:x=w1.heap.size:=e;omega
 have b0:=Hd K;have a5:=HB.o.keeps K (fun h=>h);have q5:W3.cell? ⟨b,5,none⟩=some (.pointer (some ⟨cb,0,none⟩)):=a5.cellL rfl;clear a3 a4 a0 a9 K a5;go_wp2_with fail
 refine vC (HK.o.1 W3 b0.o) fun w5 O=>?_;have b1:=Hd O;have q4:w5.cell? ⟨b,4,none⟩=some (.pointer (some ⟨sb,0,none⟩)):=(HK.o.2.1 w5 O).cellL rfl;clear O;go_wp2_with fail
 refine vC (HK.o.2.2.1 w5 b1.o) fun w6 X=>?_;have a7:=Hd X;have b5:w6.cell? ⟨b,5,none⟩=some (.pointer (some ⟨cb,0,none⟩)):=(HK.o.2.2.2.1 w6 X).cellL rfl;clear X
 by_cases he:er=0
 ·have q:=Hd he
  have e1:(er != 0)=false:=by rw[he];rfl
  clear he;go_wp2_with fail
  refine (HK.o.2.2.2.2 q.o w6 a7.o).mono ?_;rintro e w7 ⟨t,rfl,a8⟩;have b2:=Hd a8;clear a8;go_wp2_with fail
  go_ret2;exact .inl ⟨q.o,rfl,b2.o⟩
 ·have q:=Hd he
  have e1:(er != 0)=true:=by simpa using he
  clear he;go_wp2_with fail
  go_ret2;exact .inr ⟨q.o,rfl,a7.o⟩
theorem jmb(M:MdN)(a:Option Addr)(c rm sb cb:Nat)(es:List (Ent Int))(ck:Nat)(h:ChM D w b M a c rm sb cb es ck)(bk:Int)(hr:jay es bk=none)(key:vB) :
  vR 10 #[.pointer (some ⟨b,0,none⟩),.int .i64 bk,.string key] w (.tuple #[.string ⟨#[]⟩,.int .i64 4]):=by
 have J:=Hd (jps w D b M a c rm sb cb es ck h bk hr);clear h hr;go_enter Tryz.func10,Tryz.ntmps10;go_wp2_with fail
 refine J.o.mono ?_;rintro e w1 ⟨rfl,K⟩;have O:=Hd K;clear K J;unfold jfO jlX VX.cells;go_wp2_with (first |(refine jah Tryz.allocVer rfl rfl ?_;intro W2 q A) |(refine jad (vs:=[.int .i64 0,.slice none 0 0,.slice none 0 0,.int .i64 0]) rfl rfl rfl rfl q rfl Tryz.szVer (by simp[Value.oneCell']) ?_;intro X Z H))
 refine (jmJ X).mono ?_;rintro e w4 ⟨rfl,rfl⟩;go_wp2_with fail
 go_ret2
 exact⟨rfl,(O.o.trans A).trans' H fun x hx e=>by have e:x=w1.heap.size:=e;have:=O.o.size;omega⟩
structure PapN where
 kind:Nat
 root:vB
 key:vB
 to:vB
 nodes:vM
def PapN.cells(p:PapN)(nv:vV):List vV:=[.int .i64 (p.kind:Int),.string p.root,.string p.key,.string p.to,nv]
def papB(p:PapN):vB:=ja6 [jam (jaK p.kind),jam p.root,jam p.key,jam p.to,ja6 (p.nodes.map jam)]
structure jfo(p:PapN):Prop where
 kind:p.kind=0/\p.to=⟨#[]⟩\/p.kind=1
 root:p.root.size=32
 key:p.key.size<=6
 to:p.to.size<=6
 nodes:p.nodes.length<=200
 short:∀ b∈p.nodes,b.size<=1000
def WvR(w:vW)(l:vM)(iv:vV)(wr:vW):Prop:=∃ i:Nat,i<=l.length/\iv=.int .i64 i/\Ext w wr
theorem jnv(p:PapN)(nv:vV)(hn:RdS w nv p.nodes)(hp:jfo p):vR 49 #[.agg (p.cells nv).toArray] w (.bool true):=by
 have HN:=Hd hn;have HP:=Hd hp
 obtain⟨a,c,X,_⟩:=hn.slice
 subst X
 obtain⟨q,A,K,to,e⟩:=p
 have h1:A.size=32:=hp.root;have h2:K.size<=6:=hp.key;have h3:to.size<=6:=hp.to;have h4:e.length<=200:=hp.nodes;have c1:((A.size:Int) != 32)=false:=by rw[h1];rfl
 have c2:¬(6:Int) < (K.size:Int):=vO
 have c3:¬(6:Int) < (to.size:Int):=vO
 have c4:¬(200:Int) < (e.length:Int):=vO
 obtain⟨m,Z⟩:=vE e.length
 have HM:=Hd Z;have J:=hp.kind;unfold PapN.cells;rw[<-Z]at c4 ⊢;clear hn hp h1 h2 h3 h4 Z;unfold vR vQ;go_in;have HW:=Hd (show Ext w (w.alloc (.cells #[.int .i64 (q:Int),.string A,.string K,.string to,.slice a m c] 55))from(ExtR w).alloc _);rcases J with⟨J,ht⟩ | J
 case' inl =>
  have J:q=0:=J;have ht:to=⟨#[]⟩:=ht;subst J ht
 case' inr =>
  have J:q=1:=J;subst J
 all_goals
  go_wp2_with fail
  go_loopw [37] (fun iv wr=>WvR w e iv wr) (fun iv _=>m - (intOf iv).toNat)
  case atStart=>exact⟨0,cB _,rfl,HW.o⟩
  case round =>
   obtain⟨i,hi,rfl,hE⟩:=hrel
   have HE:=Hd hE;clear hE;have hi:i<=e.length:=hi
   by_cases hlt:i < m
   ·obtain⟨x,hx⟩:∃ x,e[i]?=some x:=⟨_,bB (by rw[<-HM.o];exact hlt)⟩
    obtain⟨ax,cx,hh,H⟩:=HN.o.slice
    obtain⟨ba,oa,a0,O⟩:=H i x hx
    subst a0;cases hh;have q1:=jaa O HE.o;have b1:(i:Int) < (m:Int):=vO
    have c5:¬(1000:Int) < (x.size:Int):=by have:=HP.o.short x (bG hx);omega
    clear H O hx;go_wp2_with fail
    go_roundw
    case rel=>exact⟨i+1,by show i+1<=e.length;have:=HM.o;omega,by go_num,HE.o⟩
    case measure=>exact vJ
   ·have b1:¬(i:Int) < (m:Int):=vO
    go_wp2_with fail
    go_ret
    exact⟨rfl,HE.o⟩
theorem jzp(n:Nat)(hn:n < 18446744073709551616):vR 92 #[.int .u64 n] w (.string (jam (jaK n))):=by
 have H:=Hd (jmp w n hn);clear hn;unfold vR vQ;go_in;go_wp2_with fail
 refine H.o.mono ?_;rintro e w1 ⟨rfl,q⟩;have J:=Hd q;clear q;go_wp2_with fail
 refine vH (jct w1 (jaK n) (by have K:=jff 8 n;rw[show (jaK n).size=(leF 8 n).length by simp[jaK,ByteArray.size]];omega)) fun O q=>?_;have A:=Hd (J.o.trans q);go_wp2_with fail
 go_ret
 exact⟨rfl,A.o⟩
def WpR(w1:vW)(l:vM)(lv iv:vV)(wr:vW):Prop:=∃ i:Nat,i<=l.length/\iv=.int .i64 i/\SRow w1 wr lv i ((l.take i).map jam)
theorem Tryz.enterNum:(callFunc 92 args).run Tryz.prog w=.ok (.enter 92 args) w:=vY
theorem jcD(b:vB):(jam b).size<=b.size+9:=by
 have:=jci 128 b.size
 unfold jam;split
 ·omega
 ·rw[cD];omega
theorem jgT:∀ (l:vM),(catB l).size=(l.map ByteArray.size).sum
 | []=>rfl
 | x :: r=>by rw[jej,cD,jgT r,bN,iS]
theorem jeY:∀ (l:vM),(∀ b∈l,b.size<=1000)->(catB (l.map jam)).size<=1009 * l.length
 | [],_=>by show (catB []).size<=_;rw[jgT];simp
 | x :: r,h=>by
  have e:=h x (by simp);have q:=jcD x;have A:=jeY r fun b hb=>h b (bW _ hb);rw[bN,jej,cD,bU];omega
theorem jjk(l:vM):(ja6 l).size<=(catB l).size+9:=by
 have:=jci 192 (catB l).size
 unfold ja6;rw[cD];omega
theorem jrX(p:PapN)(nv:vV)(hn:RdS w nv p.nodes)(hp:jfo p)(hs:(papB p).size<=65536):vR 45 #[.agg (p.cells nv).toArray] w (.tuple #[.string (papB p),.int .i64 0]):=by
 have HN:=Hd hn;have HP:=Hd hp;have HS:=Hd hs;have HV:=Hd (fun w2 (e:Ext w w2)=>jnv w2 p nv (hn.ext e) hp)
 obtain⟨a,c,c3,_⟩:=hn.slice
 subst c3
 obtain⟨m,hm⟩:=vE p.nodes.length
 have HM:=Hd hm;have d2:m<=200:=by rw[hm];exact hp.nodes
 have b3:=Blk.new w (.cells (p.cells (.slice a p.nodes.length c)).toArray 55);have a4:=(ExtR w).alloc (.cells (p.cells (.slice a p.nodes.length c)).toArray 55);have HB:=Hd (bA b3 a4);have a7:=Hd (HV.o _ a4)
 obtain⟨A,H,J,to,q⟩:=p
 unfold PapN.cells at a7 HB ⊢;rw[<-hm]at a7 HB ⊢;clear hn hp hs hm b3 a4;unfold vR vQ;go_in;go_wp2_with fail
 refine a7.o.mono ?_;rintro e w1 ⟨rfl,a8⟩;have hB:=HB.o.1.keeps a8 (fun h=>h);have q4:w1.cell? ⟨w.heap.size,4,none⟩=some (.slice a m c):=hB.cellL rfl;have H1:=Hd (bA hB (HB.o.2.trans a8));clear hB a8
 obtain⟨i0,hi,b4,b5,b6⟩:=info_parts Tryz.infoS1
 obtain⟨w2,d1,a3,a9⟩:=run_make_own (P:=Tryz.prog) (w:=w1) w1.heap.size 34 9 i0 _ 1 Tryz.sStrs.ht hi b4 b5 .i64 .i64 m (by rw[b6];omega) (by unfold maxLen;omega) (bL _)
 have k2:Ext w1 w2:=jac.of_grown a9 (fun _ e=>by cases e);have b7:=ORow.made w1 a3 a9;have d3:=jaa q4 k2;have c4:=Hd b7;clear a3 a9 hi b4 b5 b6 b7 k2;go_wp2_with fail
 go_loopw [4,18] (fun lv iv wr=>WpR w1 q lv iv wr) (fun _ iv _=>m - (intOf iv).toNat)
 case atStart=>exact⟨0,cB _,rfl,c4.o⟩
 case round =>
  obtain⟨i,hi,rfl,hR⟩:=hrel
  have HR:=Hd hR
  obtain⟨al,cl,rfl⟩:=hR.sl
  have hE:=hR.ext
  by_cases hlt:i < m
  ·obtain⟨x,hx⟩:∃ x,q[i]?=some x:=⟨_,bB (by rw[<-HM.o];exact hlt)⟩
   obtain⟨ax,cx,hh,a0⟩:=HN.o.slice
   obtain⟨ba,oa,c7,b8⟩:=a0 i x hx
   subst c7;cases hh;have q1:=jaa b8 (H1.o.2.trans hE);have b1:(i:Int) < (m:Int):=vO
   have d4:x.size<=1000:=HP.o.short x (bG hx);have HX:=Hd hx;clear a0 b8 hx hR hE;go_wp2_with fail
   refine vH (jct wr x vO) fun w4 c8=>?_;go_wp2_with (at_builtin;go_loud (refine ja0 Tryz.sStrs (HR.o.mono (c8.o.trans ((ExtR w4).alloc _))) (.tmp 22) (.tmp 25) rfl rfl rfl (jaN (Blk.new w4 _)) (news:=[.string (jam x)]) (by intro u hu;simp at hu;rw[hu];rfl) rfl rfl (by unfold maxLen;omega) vO (fun v5 w5 r1 r2 r3=>?_));obtain⟨a5,c5,rfl⟩:=r1.sl;have c9:=Hd (show SRow w1 w5 (.slice a5 (i+1) c5) (i+1) ((q.take (i+1)).map jam) by unfold SRow;rw[bX,HX.o,bY,bY];exact r1);clear r1 r2 r3)
   go_roundw
   case rel=>exact⟨i+1,by show i+1<=q.length;have:=HM.o;omega,by go_num,c9.o⟩
   case measure=>exact vJ
  ·have b1:¬(i:Int) < (m:Int):=vO
   obtain rfl:i=m:=by have:=HM.o;omega
   have b0:=Hd (show SRow w1 wr (.slice al i cl) i (q.map jam) by have:=HR.o;rw[HM.o,cG]at this;rw[HM.o];exact this);clear hR hE;go_wp2_with fail
   have b9:Blk wr w.heap.size (.cells #[.int .i64 (A:Int),.string H,.string J,.string to,.slice a i c] 55):=H1.o.1.keeps b0.o.ext (fun h=>h);have hk:=HP.o.kind;have b2:A < 2:=by rcases hk with⟨h,_⟩ | h <;>(have h:A=_:=h;omega)
   have d0:=b2;have a1:=Hd (bA b9 (bA b2 d0));clear b9 hk b2;refine jaj [0,1,2,3,4,5,6,7,8,9,10,11,12,13,14,15,16,17] Ext ExtR ExtT vY vY vY ?_
   refine vK ?_
   refine qKL ⟨w.heap.size,0,none⟩ (.int .i64 (A:Int)) rfl (fun w1 X=>jag (fun w=>by kernel_rfl) (jaa (a1.o.1.cellL rfl) ((jak _).trans X))) ?_;refine vS ?_
   refine vK ?_
   refine qKC _ 92 #[.int .u64 (A:Int)] (.string (jam (jaK A))) rfl (fun w1=>jal Tryz.enterNum vY) (fun w1 X=>jzp w1 A (by have:=a1.o.2.1;omega)) ?_;refine vS ?_
   refine vK ?_
   refine qKL ⟨w.heap.size,1,none⟩ (.string H) rfl (fun w1 X=>jag (fun w=>by kernel_rfl) (jaa (a1.o.1.cellL rfl) ((jak _).trans X))) ?_;refine vS ?_;refine qKC _ 29 #[.string H] (.string (jam H)) rfl (fun w1=>jal (vX 29) vY) (fun w1 X=>jct w1 H (by have h:H.size=32:=HP.o.root;omega)) ?_;refine vS ?_
   refine vK ?_
   refine qKL ⟨w.heap.size,2,none⟩ (.string J) rfl (fun w1 X=>jag (fun w=>by kernel_rfl) (jaa (a1.o.1.cellL rfl) ((jak _).trans X))) ?_;refine vS ?_;refine qKC _ 29 #[.string J] (.string (jam J)) rfl (fun w1=>jal (vX 29) vY) (fun w1 X=>jct w1 J (by have h:J.size<=6:=HP.o.key;omega)) ?_;refine vS ?_
   refine vK ?_
   refine qKL ⟨w.heap.size,3,none⟩ (.string to) rfl (fun w1 X=>jag (fun w=>by kernel_rfl) (jaa (a1.o.1.cellL rfl) ((jak _).trans X))) ?_;refine vS ?_;refine qKC _ 29 #[.string to] (.string (jam to)) rfl (fun w1=>jal (vX 29) vY) (fun w1 X=>jct w1 to (by have h:to.size<=6:=HP.o.to;omega)) ?_;refine vS ?_
   refine vK ?_
   refine qKC _ 91 #[.slice al i cl] (.string (ja6 (q.map jam))) rfl (fun w1=>jal (vX 91) vY) (fun w1 X=>jky w1 _ _ (b0.o.rd.ext ((jak _).trans X)) (by have:=jeY q HP.o.short;have:=HM.o;omega) (by rw[bS];have:=HM.o;omega)) ?_;refine vS ?_;refine jcH _ rfl vY rfl (fun Z hb K hK=>?_);have kb:Ext wr Z:=(jak _).trans hb
   obtain⟨t5,a2⟩:=vE ([jam (jaK A),jam H,jam J,jam to,ja6 (q.map jam)])
   have c0:RdS (Z.alloc (.cells (t5.map Value.string).toArray 9)) (.slice (some ⟨Z.heap.size,0,none⟩) 5 5) t5:=by
    have:SRow Z (Z.alloc (.cells (t5.map Value.string).toArray 9)) (.slice (some ⟨Z.heap.size,0,none⟩) 5 5) 5 t5:=ORow.lit (n:=5) _ (ExtR Z) vI (by rw[a2];rfl)
    exact this.rd
   refine jbk (v:=.slice (some ⟨Z.heap.size,0,none⟩) 5 5) (w':=Z.alloc (.cells (t5.map Value.string).toArray 9)) (by rw[a2];kernel_rfl) (hK _ _ ((jac.refl _ Z).alloc _) ?_);have O:papB ⟨A,H,J,to,q⟩=ja6 t5:=by rw[a2];rfl
   have c2:(catB t5).size<=65536:=by
    have:=HS.o
    rw[O]at this;unfold ja6 at this;rw[cD]at this;omega
   have H6:=Hd (bA (kb.trans ((ExtR Z).alloc (.cells (t5.map Value.string).toArray 9))) (bA c0 (bA O (bA c2 (show t5.length=5 by rw[a2];rfl)))));generalize Z.alloc (.cells (t5.map Value.string).toArray 9)=w6 at H6 ⊢;clear hK K hb kb c0 O c2 a2;refine vS ?_;refine qKC _ 91 #[.slice (some ⟨Z.heap.size,0,none⟩) 5 5] (.string (ja6 t5)) rfl (fun w1=>jal (vX 91) vY) (fun w1 X=>jky w1 _ _ (H6.o.2.1.ext X) (by have:=H6.o.2.2.2.1;omega) (by rw[H6.o.2.2.2.2];decide)) ?_;refine vS ?_
   refine vK ?_
   refine qKE (fun w7 h7=>?_)
   obtain⟨pb,O⟩:=vE (ja6 t5)
   have c1:¬(65536:Int) < (pb.size:Int):=by have:=HS.o;rw[H6.o.2.2.1, <-O]at this;omega
   have H7:=Hd (bA (b0.o.ext.trans (H6.o.1.trans h7)) O);rw[<-O];clear h7 O;go_wp2_with fail
   go_ret2
   exact⟨by rw[H6.o.2.2.1, <-H7.o.2];rfl,H1.o.2.trans H7.o.1⟩
theorem jiE:vR 97 #[.int .i64 k,.bool true] w (.tuple #[]):=by
 unfold vR vQ;go_in;go_wp2_with fail
 refine bodyPost_end (results_none rfl _ _ _) rfl ?_
 exact⟨rfl,ExtR w⟩
theorem jmI(s t:vB)(l:Bool)(o n:Nat)(hs:s.size<=1000000000)(hc:cutN s=some (l,o,n))(hon:o+n=s.size)(ht:s.extract o (o+n)=t):vR 100 #[.int .i64 k,.string s,.bool l] w (.string t):=by
 have H:=jgw w s _ hs hc;have J:s.extract (o+n) s.size=⟨#[]⟩:=by rw[hon];apply ByteArray.ext;simp
 simp only[ht,J]at H;have H:=Hd H;clear hc hon ht J hs;unfold vR vQ;go_in;go_wp2_with fail
 refine H.o.mono ?_;rintro e w1 ⟨rfl,q⟩;have K:=Hd q;clear q;have O:=jiE w1 k;cases l with
 | true =>
  go_wp2_with fail
  refine O.mono ?_;rintro e X ⟨rfl,q⟩;have A:=Hd (K.o.trans q);clear q;go_wp2_with fail
  go_ret
  exact⟨rfl,A.o⟩
 | false =>
  go_wp2_with fail
  refine O.mono ?_;rintro e X ⟨rfl,q⟩;have A:=Hd (K.o.trans q);clear q;go_wp2_with fail
  go_ret
  exact⟨rfl,A.o⟩
theorem jnu(xs:vM)(hx:∀ x∈xs,jd9 x)(hs:(catB xs).size<=1000000)(hn:xs.length<=1000000):vQ 98 #[.int .i64 k,.string (ja6 xs)] w fun e w'=>∃ v,e=.returned v/\SRow w w' v xs.length xs:=by
 obtain⟨o,H,J,K⟩:=jdB xs vO
 have X:=Hd (jmI w k (ja6 xs) (catB xs) true o _ (by
  have:=jci 192 (catB xs).size
  unfold ja6;rw[cD];omega) H J K)
 have Z:=Hd (fun w=>jls w xs hx vO hn);clear hx hs H J K;unfold vQ;go_in;go_wp2_with fail
 refine X.o.mono ?_;rintro e w1 ⟨rfl,q⟩;have HE:=Hd q;clear q;go_wp2_with fail
 refine (Z.o w1).mono ?_;rintro e w2 ⟨v,rfl,O⟩;have HR:=Hd (ORow.since O HE.o);clear O;go_wp2_with fail
 refine vH (jiE w2 k) fun w3 q=>?_;have A:=Hd (HR.o.mono q);go_wp2_with fail
 go_ret
 exact⟨v,rfl,A.o⟩
def GnR(m:Nat)(nv iv:vV)(wr:vW):Prop:=∃ i:Nat,i<=m/\iv=.int .i64 i/\nv=.int .u64 i
theorem jtb(k:Nat)(hk:k=0\/k=1):vR 99 #[.string (jam (jaK k))] w (.tuple #[.int .u64 (k:Int),.int .i64 0]):=by
 rcases hk with rfl | rfl
 ·have A:=jgw w (jam (jaK 0)) (false,1,0) vI vI
  have K:(jam (jaK 0)).extract 1 (1+0)=⟨#[]⟩:=by decide
  have O:(jam (jaK 0)).extract (1+0) (jam (jaK 0)).size=⟨#[]⟩:=by decide
  simp only[K,O]at A;have A:=Hd A;clear K O;unfold vR vQ;go_in;go_wp2_with fail
  refine A.o.mono ?_;rintro e w1 ⟨rfl,q⟩;have Z:=Hd q;clear q;go_wp2_with fail
  go_loopw [8,42] (fun nv J wr=>GnR 0 nv J wr/\Ext w wr) (fun _ J _=>0 - (intOf J).toNat)
  case atStart=>exact⟨⟨0,by decide,rfl,rfl⟩,Z.o⟩
  case round =>
   obtain⟨⟨i,hi,rfl,rfl⟩,q⟩:=hrel
   have H:=Hd q;clear q;obtain rfl:i=0:=vO
   go_wp2_with fail
   go_ret2
   exact⟨rfl,H.o⟩
 ·have A:=jgw w (jam (jaK 1)) (false,0,1) vI vI
  have K:(jam (jaK 1)).extract 0 (0+1)=⟨#[1]⟩:=by decide
  have O:(jam (jaK 1)).extract (0+1) (jam (jaK 1)).size=⟨#[]⟩:=by decide
  simp only[K,O]at A
  obtain⟨x,X⟩:∃ x:vB,x=⟨#[1]⟩:=⟨_,rfl⟩
  have a0:x.size=1:=by rw[X];rfl
  have l1:0 < x.size:=vO
  have c0:x[0].toNat=1:=by subst X;rfl
  have c2:x.toList.isEmpty=false:=jbq l1;have c1:((x[0].toNat:Int) == 0)=false:=by rw[c0];rfl
  rw[<-X]at A;clear X;have A:=Hd A;clear K O;unfold vR vQ;go_in;go_wp2_with fail
  refine A.o.mono ?_;rintro e w1 ⟨rfl,q⟩;have Z:=Hd q;clear q;go_wp2_with fail
  go_loopw [8,42] (fun nv J wr=>GnR 1 nv J wr/\Ext w wr) (fun _ J _=>1 - (intOf J).toNat)
  case atStart=>exact⟨⟨0,by decide,rfl,rfl⟩,Z.o⟩
  case round =>
   obtain⟨⟨i,hi,rfl,rfl⟩,q⟩:=hrel
   have H:=Hd q;clear q
   by_cases hlt:i < 1
   ·obtain rfl:i=0:=vO
    go_wp2_with fail
    go_roundw
    case rel=>exact⟨⟨1,by decide,by go_num,by rfl⟩,H.o⟩
    case measure=>simp[intOf]
   ·obtain rfl:i=1:=vO
    go_wp2_with fail
    go_ret2
    exact⟨rfl,H.o⟩
theorem jg0(b:vB)(hb:b.size<=1000):vR 100 #[.int .i64 k,.string (jam b),.bool false] w (.string b):=by
 obtain⟨o,e,q,A⟩:=jem b vO
 exact jmI w k _ b false o _ (by have:=jcD b;omega) e q A
theorem Tryz.enterInside:(callFunc 100 args).run Tryz.prog w=.ok (.enter 100 args) w:=vY
theorem Tryz.szPap:(Tryz.prog.info? 55).map (·.size)=some 5:=vY
def t5L(p:PapN):vM:=[jam (jaK p.kind),jam p.root,jam p.key,jam p.to,ja6 (p.nodes.map jam)]
theorem jfo.sizes{p:PapN}(h:jfo p):p.kind < 2/\p.root.size<=1000/\p.key.size<=1000/\p.to.size<=1000:=by
 have q:=h.root;have A:=h.key;have H:=h.to
 exact⟨by rcases h.kind with⟨e,_⟩ | e <;> omega,by omega,by omega,by omega⟩
theorem jui{p:PapN}(h:jfo p):∀ x∈t5L p,jd9 x:=by
 obtain⟨A,H,J,K⟩:=h.sizes
 have O:=jeY p.nodes h.short;have X:=h.nodes;intro x e;have q:(jaK p.kind).size<=1048576:=by
  have:=jff 8 p.kind
  rw[show (jaK p.kind).size=(leF 8 p.kind).length by simp[jaK,ByteArray.size]];omega
 simp only[t5L,bZ,gW,or_false]at e;rcases e with rfl | rfl | rfl | rfl | rfl
 ·exact jbo _ q
 ·exact jbo _ vO
 ·exact jbo _ vO
 ·exact jbo _ vO
 ·exact jhA _ vO
theorem jyG{p:PapN}(h:jfo p):(catB (t5L p)).size<=1000000:=by
 obtain⟨e,q,A,H⟩:=h.sizes
 have J:=jeY p.nodes h.short;have K:=h.nodes;have O:(jaK p.kind).size<=8:=by
  have:=jff 8 p.kind
  rw[show (jaK p.kind).size=(leF 8 p.kind).length by simp[jaK,ByteArray.size]];omega
 have g1:=jcD (jaK p.kind);have X:=jcD p.root;have Z:=jcD p.key;have g4:=jcD p.to;have g5:=jjk (p.nodes.map jam);unfold t5L;rw[jej,jej,jej,jej,jej];simp only[cD]
 have:(catB []).size=0:=rfl
 omega
theorem Tryz.isPap:jb2 (Tryz.prog.underlying 55)=true:=vY
theorem jgG(vs:List vV)(hl:vs.length=5){T:TypeId}(hB:Blk W b (.cells vs.toArray T fz)):(Instr.loadAt 55 (.pointer (some ⟨b,0,none⟩))).run Tryz.prog W=.ok (.agg vs.toArray) W:=by
 obtain⟨A,e⟩:=jbv Tryz.isPap
 exact ja2 e (by rw[hl];exact Tryz.szPap) (fun j v q=>by rw[Go.WideShapes.add_plain,bT];exact hB.cellL q)
theorem jeF(vs:List vV)(hl:vs.length=5){T:TypeId}(hB:Blk W b (.cells vs.toArray T fz)):(loadVar 55 ⟨b,0,none⟩).run Tryz.prog W=.ok (.agg vs.toArray) W:=by
 have:=jgG W b vs hl hB
 simpa [Instr.loadAt,Instr.sureAddr,bK,Result.andThen]using this
theorem jou{t:Tmp}{ty:TypeId}(h:fn.results=#[.cell t ty]){a:Addr}(ha:tmps.getD t undef=.pointer (some a)){w:vW}(hl:(loadVar ty a).run P w=.ok v w) :
  (results fn tmps).run P w=.ok v w:=by
 have e:tmps[t]?.getD undef=.pointer (some a):=by simpa using ha
 simp[results,h,e,asAddr,bK,Result.andThen,hl]
def WrR(wL:vW)(pb:Nat)(p:PapN)(iv:vV)(wr:vW):Prop:=∃ i:Nat,i<=p.nodes.length/\iv=.int .i64 i/\∃ nv,Blk wr pb (.cells (p.cells nv).toArray 55)/\jac (fun z=>z=pb) wL wr/\(∃ a c,nv=.slice a i c)/\wr.ownsRow 0 9 1 nv i ((p.nodes.take i).map Value.string)/\∀ b,nv.ownBlock=some b->wL.heap.size<=b
theorem jwK(p:PapN)(hp:jfo p)(hs:(papB p).size<=65536):vQ 48 #[.string (papB p)] w fun e w'=>∃ nv,e=.returned (.agg (p.cells nv).toArray)/\SRow w w' nv p.nodes.length p.nodes:=by
 have HP:=Hd hp;have HS:=Hd hs
 obtain⟨m,hm⟩:=vE p.nodes.length
 have HM:=Hd hm
 obtain⟨s,b6⟩:=vE (papB p)
 have g0:=Hd b6;have c1:(s.size:Int)<=65536:=by rw[b6];omega
 rw[<-b6, <-hm];have HI:=Hd (fun w=>jnu w (-1) (t5L p) (jui hp) (jyG hp) (by show 5<=1000000;decide));have c8:ja6 (t5L p)=s:=by rw[b6];rfl
 rw[c8]at HI;have d1:=Hd (show m<=200 by rw[hm];exact hp.nodes);have HG:=Hd (fun w=>jtb w p.kind (by rcases hp.kind with⟨e,_⟩ | e;exact .inl e;exact .inr e));clear hp hs hm b6 c8;unfold vQ;go_in;go_wp2_with fail
 have d2:=Blk.new w (.cells #[.int .i64 0,.string ⟨#[]⟩,.string ⟨#[]⟩,.string ⟨#[]⟩,.slice none 0 0] 55);have d3:=(ExtR w).alloc (.cells #[.int .i64 0,.string ⟨#[]⟩,.string ⟨#[]⟩,.string ⟨#[]⟩,.slice none 0 0] 55);generalize w.alloc (.cells #[.int .i64 0,.string ⟨#[]⟩,.string ⟨#[]⟩,.string ⟨#[]⟩,.slice none 0 0] 55)=w1 at d2 d3 ⊢;refine vC (jiE w1 (-1)) fun w2 b7=>?_;have H2:=Hd (bA (d2.keeps b7 (fun h=>h)) (d3.trans b7));clear d2 d3 b7;go_wp2_with fail
 refine (HI.o w2).mono ?_;rintro e w3 ⟨v3,rfl,c9⟩
 obtain⟨a3,c3,rfl⟩:=c9.sl
 obtain⟨g3,rfl⟩:=jgp c9.own (by show 5≠0;decide)
 have H3:=Hd c9;clear c9;have c8:(t5L p).length=5:=rfl;rw[c8]at H3 ⊢;go_wp2_with fail
 refine vC (jiE w3 (-1)) fun w4 d4=>?_;have e7:=Hd (H3.o.mono d4);have c0:=d4;have q0:=jb3 e7.o.own (j:=0) (u:=.string (jam (jaK p.kind))) rfl;clear d4;go_wp2_with fail
 refine vH (HG.o w4) fun w5 e8=>?_;have g2:=Hd (e7.o.mono e8);have c2:=c0.trans e8;have h8:(p.kind:Int)<=1:=by have:=HP.o.sizes.1;omega
 clear q0;go_wp2_with fail
 refine vH (jiE w5 0) fun w6 e9=>?_;have g4:=Hd (g2.o.mono e9);have f0:=Hd (c2.trans e9);clear c0 c2;have H:=g4.o;have r1:=jb3 H.own (j:=1) (u:=.string (jam p.root)) rfl;have r2:=jb3 H.own (j:=2) (u:=.string (jam p.key)) rfl;have r3:=jb3 H.own (j:=3) (u:=.string (jam p.to)) rfl;have r4:=jb3 H.own (j:=4) (u:=.string (ja6 (p.nodes.map jam))) rfl;have g5:=H.lt g3 rfl;have H6:=Hd (bA (show ¬ w6.heap.size<=g3 by omega) (bA (bA r1 (bA r2 r3)) r4));have i0:=HP.o.sizes.1;go_wp2_with fail
 clear H r1 r2 r3 r4 g5;refine jau [0,1,2,3,4,5,6,7,8,9,10,11,12,13,14,15,16] [15,16] Ext (jac (fun z=>w6.heap.size<=z)) ExtR ExtT (fun x y z h k=>jac.trans h k) (fun x y h=>h.mono (fun _ _ h=>h.elim)) vY vY vY ?_;iterate 4 refine vD ?_
 refine qDL ⟨g3,1,none⟩ (.string (jam p.root)) rfl (fun w1 h1=>jag (fun w=>by kernel_rfl) (jai (jaa H6.o.2.1.1 (jak _)) h1 H6.o.1)) ?_;refine vS ?_;refine jdK _ 100 #[.int .i64 1,.string (jam p.root),.bool false] (.string p.root) rfl vY rfl (fun w1=>jal Tryz.enterInside vY) (fun w1 h1=>jg0 w1 1 p.root HP.o.sizes.2.1) ?_;refine vS ?_;iterate 2 refine vD ?_
 refine qDL ⟨g3,2,none⟩ (.string (jam p.key)) rfl (fun w1 h1=>jag (fun w=>by kernel_rfl) (jai (jaa H6.o.2.1.2.1 (jak _)) h1 H6.o.1)) ?_;refine vS ?_;refine jdK _ 100 #[.int .i64 2,.string (jam p.key),.bool false] (.string p.key) rfl vY rfl (fun w1=>jal Tryz.enterInside vY) (fun w1 h1=>jg0 w1 2 p.key HP.o.sizes.2.2.1) ?_;refine vS ?_;iterate 2 refine vD ?_
 refine qDL ⟨g3,3,none⟩ (.string (jam p.to)) rfl (fun w1 h1=>jag (fun w=>by kernel_rfl) (jai (jaa H6.o.2.1.2.2 (jak _)) h1 H6.o.1)) ?_;refine vS ?_;refine jdK _ 100 #[.int .i64 3,.string (jam p.to),.bool false] (.string p.to) rfl vY rfl (fun w1=>jal Tryz.enterInside vY) (fun w1 h1=>jg0 w1 3 p.to HP.o.sizes.2.2.2) ?_;refine vS ?_
 refine vD ?_
 refine qDH _ rfl (fun J hb K O=>?_);have kb:Ext w6 J:=(jak _).trans hb;refine jbk (v:=.pointer (some ⟨J.heap.size,0,none⟩)) (w':=J.alloc (.cells #[.int .i64 0,.string ⟨#[]⟩,.string ⟨#[]⟩,.string ⟨#[]⟩,.slice none 0 0] 55)) vY (O _ _ ((jac.refl _ J).alloc _) ?_);have f1:=Blk.new J (.cells #[.int .i64 0,.string ⟨#[]⟩,.string ⟨#[]⟩,.string ⟨#[]⟩,.slice none 0 0] 55);have k7:Ext w6 (J.alloc (.cells #[.int .i64 0,.string ⟨#[]⟩,.string ⟨#[]⟩,.string ⟨#[]⟩,.slice none 0 0] 55)):=kb.trans ((ExtR J).alloc _);have H7:=Hd (bA kb.size (bA f1 k7));generalize J.alloc (.cells #[.int .i64 0,.string ⟨#[]⟩,.string ⟨#[]⟩,.string ⟨#[]⟩,.slice none 0 0] 55)=w7 at H7 ⊢;clear O K hb kb f1 k7;refine vS ?_;refine qDH _ rfl (fun wc hc K O=>?_);have g6:=H7.o.1;refine jlV (old:=[.int .i64 0,.string ⟨#[]⟩,.string ⟨#[]⟩,.string ⟨#[]⟩,.slice none 0 0]) (vs:=p.cells (.slice none 0 0)) rfl rfl rfl (H7.o.2.1.keeps hc (fun h=>h)) (by show 5<=5;decide) Tryz.szPap (by simp[PapN.cells,Value.oneCell']) (fun W8 f2 d5=>O _ _ (d5.mono fun z _ e=>by have e:z=J.heap.size:=e;show w6.heap.size<=z;omega) ?_);have H8:=Hd (bA (H7.o.2.2.trans hc) (bA f2 d5));clear O K hc f2 d5;refine vS ?_;refine qDE (fun w9 h9=>?_)
 obtain⟨A,d6⟩:=vE J.heap.size
 have k9:Ext w6 w9:=(H8.o.1.trans' H8.o.2.2 (fun z hz e=>by have e:z=J.heap.size:=e;omega)).trans h9;have f3:Blk w9 A (.cells (p.cells (.slice none 0 0)).toArray 55):=by
  have:=H8.o.2.1.keeps h9 (fun h=>h)
  rw[d6];simpa [PapN.cells]using this
 rw[<-d6];have r4:=jaa H6.o.2.2 k9;have H9:=Hd (bA k9 (bA f3 (show w6.heap.size<=A by omega)));clear h9 k9 f3 d6 g6;go_wp2_with fail
 have f4:∀ x∈p.nodes.map jam,jd9 x:=fun x hx=>by
  obtain⟨y,hy,rfl⟩:=bD.1 hx
  exact jbo y (by have:=HP.o.short y hy;omega)
 refine (jnu w9 4 (p.nodes.map jam) f4 (by have:=jeY p.nodes HP.o.short;have:=HM.o;have:=d1.o;omega) (by rw[bS];have:=HM.o;have:=d1.o;omega)).mono ?_;rintro e b8 ⟨i1,rfl,a2⟩;have f5:(p.nodes.map jam).length=m:=by rw[bS,HM.o]
 rw[f5]at a2
 obtain⟨i2,i3,rfl⟩:=a2.sl
 have a9:=H9.o.2.1.keeps a2.ext (fun h=>h);have d7:=a9.lt;have a5:=Hd (bA a2 (bA a9 (bA d7 H9.o.2.1.lt)));clear a2 a9 d7 f4 f5 r4;go_wp2_with fail
 go_loopw [54] (fun iv wr=>WrR b8 A p iv wr) (fun iv _=>m - (intOf iv).toNat)
 case atStart=>exact⟨0,cB _,rfl,_,a5.o.2.1,jac.refl _ _,⟨none,0,rfl⟩,fE _ _ _ _,fun b hb=>by cases hb⟩
 case round =>
  obtain⟨i,hi,rfl,nv,hB,O,⟨an,cn,rfl⟩,c4,X⟩:=hrel
  have HR:=Hd (bA hB (bA O (bA c4 X)));have f6:=HM.o;clear hB O c4 X
  by_cases hlt:i < m
  ·obtain⟨x,hx⟩:∃ x,p.nodes[i]?=some x:=⟨_,bB (by rw[<-HM.o];exact hlt)⟩
   have HX:=Hd hx
   obtain⟨d8,rfl⟩:=jgp a5.o.1.own vO
   have e3:w9.heap.size<=d8:=a5.o.1.new d8 rfl;have q1:=jai (jb3 a5.o.1.own (j:=i) (u:=.string (jam x)) (by rw[bV,bV,hx];rfl)) HR.o.2.1 (show ¬ d8=A by have:=a5.o.2.2.2;omega);have b1:(i:Int) < (m:Int):=vO
   have g7:x.size<=1000:=HP.o.short x (bG hx);clear hx e3 f6;go_wp2_with fail
   have d7:=a5.o.2.2.1;have i4:=HR.o.2.1.size;have a8:=HR.o.2.2.2;refine jbm [0,1,2,3,4,5,6] 7 [3,4,5] Ext (jac (fun z=>b8.heap.size<=z)) ExtR ExtT (fun x y z h k=>jac.trans h k) (fun x y h=>h.mono (fun _ _ h=>h.elim)) vY vY vY ?_
   refine vZ ?_
   refine qZL ⟨A,4,none⟩ (.slice an i cn) rfl (fun w1 h1=>jag (fun w=>by kernel_rfl) ((HR.o.1.drew.keeps h1 vO).cellL rfl)) ?_;refine vS ?_
   refine vZ ?_
   refine jcb _ rfl vY rfl (fun wa ha K O=>?_);have ka:Ext wr wa:=(jak _).trans ha;refine jaT (jal Tryz.enterInside vY) ((jg0 wa 4 x g7).mono ?_);rintro e h4 ⟨rfl,a4⟩
   refine⟨_,rfl,O _ _ (a4.mono fun _ _ e=>e.elim) ?_⟩
   have a4:=ka.trans a4;clear O K ha ka;refine vS ?_;refine jcb _ rfl vY rfl (fun J hb K O=>?_);have kb:Ext wr J:=a4.trans hb;have g8:=kb.size;refine jbk (v:=.slice (some ⟨J.heap.size,0,none⟩) 1 1) (w':=J.alloc (.cells #[.string x] 9)) vY (O _ _ ((jac.refl _ J).alloc _) ?_);have X:=jaN (news:=[.string x]) (Blk.new J (.cells #[.string x] 9));have Z:Ext wr (J.alloc (.cells #[.string x] 9)):=kb.trans ((ExtR J).alloc _);generalize J.alloc (.cells #[.string x] 9)=f7 at X Z ⊢;clear O K hb kb;refine vS ?_;refine jcb _ rfl vY rfl (fun wc hc K O=>?_);have q:=Z.trans hc;have a0:=jaZ HR.o.2.2.1 q;have i5:i<=200:=by have:=d1.o;omega
   refine jgI Tryz.sStrs (ORow.any a0) (.tmp 59) (.tmp 62) (news:=[.string x]) rfl rfl (fun j u hj=>by have:=X j u hj;rw[Addr.add_lit]at this ⊢;exact jaa this hc) (by intro u hu;simp at hu;rw[hu];rfl) rfl rfl (by unfold maxLen;omega) vO (fun v' b4 r1 r2 r3=>O _ _ (r2.mono fun z _ e=>a8 z e) ?_)
   obtain⟨a',c',rfl⟩:=r1.sl
   have a7:=Hd (bA q (bA r1.own (bA r2 r3)));clear O K hc a0 r1 r2 r3 q Z X a4 g8;refine vS ?_
   refine vZ ?_
   refine jcI _ rfl vY rfl (fun wd hd K O=>?_);have q:=a7.o.1;have d0:=((HR.o.1.keeps q (fun h=>h)).keeps a7.o.2.2.1 (fun e=>by have h:=a8 A e;omega)).keeps hd (fun h=>h);have qd:wd.cell? ⟨A,4,none⟩=some (.slice an i cn):=d0.cellL rfl;have fd:wd.frozen? ⟨A,4,none⟩=false:=d0.frozen;have d9:=Hd (bA hd d0);clear hd d0 q;go_simp;refine O _ _ ?_;clear O K qd fd;have b0:=d9.o.2.set_same (i:=4) (.slice a' (i+1) c');have e0:=jac.oneSet wd ⟨A,4,none⟩ (.slice a' (i+1) c');generalize wd.setCell ⟨A,4,none⟩ (.slice a' (i+1) c')=w13 at b0 e0 ⊢;have b2:=Hd (bA b0 e0);clear b0 e0;go_wp2_with fail
   go_roundw
   case rel =>
    refine⟨i+1,by have:=HM.o;omega,by go_num,_,b2.o.1,?_,⟨a',c',rfl⟩,?_,fun b hb=>?_⟩
    ·have k1:jac (fun z=>z=A) b8 wr:=HR.o.2.1
     have k2:jac (fun z=>z=A) wr wc:=a7.o.1.mono fun _ _ e=>e.elim;have k3:=(k1.trans k2).trans' a7.o.2.2.1 fun z hz e=>by have h:=a8 z e;omega
     exact (k3.trans (d9.o.1.mono fun _ _ e=>e.elim)).trans b2.o.2
    ·have g9:∀ b,(Value.slice a' (i+1) c').ownBlock=some b->b8.heap.size<=b:=fun b hb=>by
      rcases a7.o.2.2.2 with e | e
      ·rw[e]at hb;exact a8 b hb
      ·have h1:=e b hb
       have h2:=a7.o.1.size;omega
     have:=jaL (jaZ a7.o.2.1 d9.o.1) b2.o.2 (fun b hb e=>by have h:=g9 b hb;have e:b=A:=e;omega)
     rw[bX,HX.o,bY];exact this
    ·rcases a7.o.2.2.2 with e | e
     ·rw[e]at hb;exact a8 b hb
     ·have h1:=e b hb
      have h2:=a7.o.1.size;omega
   case measure=>exact vJ
  ·have b1:¬(i:Int) < (m:Int):=vO
   obtain rfl:i=m:=vO
   clear f6;have b5:=HR.o.1;have p0:wr.cell? ⟨A,0,none⟩=some (.int .i64 (p.kind:Int)):=b5.cellL rfl;have p1:wr.cell? ⟨A,1,none⟩=some (.string p.root):=b5.cellL rfl;have p2:wr.cell? ⟨A,2,none⟩=some (.string p.key):=b5.cellL rfl;have p3:wr.cell? ⟨A,3,none⟩=some (.string p.to):=b5.cellL rfl;have p4:wr.cell? ⟨A,4,none⟩=some (.slice an i cn):=b5.cellL rfl;have a0:wr.ownsRow 0 9 1 (.slice an i cn) i (p.nodes.map Value.string):=by
    have:=HR.o.2.2.1
    rw[HM.o,cG]at this;rw[HM.o];exact this
   have h0:=Hd a0;have b3:=jrX wr p (.slice an i cn) (SRow.rd (ORow.any a0)) HP.o HS.o;rw[<-g0.o]at b3;have e4:=Hd b3;clear b5 a0 b3;go_wp2_with fail
   refine e4.o.mono ?_;rintro e f7 ⟨rfl,Z⟩;have e5:=Hd Z;have i6:(s.toList == s.toList)=true:=by simp
   clear Z p0 p1 p2 p3 p4;go_wp2_with fail
   refine vH (jiE f7 (-1)) fun b4 q=>?_;have hE:=e5.o.trans q;have a1:=HR.o.1.keeps hE (fun h=>h);have p0:b4.cell? ⟨A,0,none⟩=some (.int .i64 (p.kind:Int)):=a1.cellL rfl;have p1:b4.cell? ⟨A,1,none⟩=some (.string p.root):=a1.cellL rfl;have p2:b4.cell? ⟨A,2,none⟩=some (.string p.key):=a1.cellL rfl;have p3:b4.cell? ⟨A,3,none⟩=some (.string p.to):=a1.cellL rfl;have p4:b4.cell? ⟨A,4,none⟩=some (.slice an i cn):=a1.cellL rfl;have b9:Ext w2 w9:=H3.o.ext.trans (f0.o.trans H9.o.1);have e1:w.heap.size < w6.heap.size:=by have:=H2.o.1.lt;have:=H3.o.ext.size;have:=f0.o.size;omega
   have f8:=(H2.o.1.keeps b9 (fun h=>h)).keeps a5.o.1.ext (fun h=>h);have e2:=(f8.keeps HR.o.2.1 (show ¬ w.heap.size=A by have:=H9.o.2.2;omega)).keeps hE (fun h=>h);have c5:=Hd (bA hE (bA e2 (bA b9 e1)));clear hE a1 b9 f8 e2 e1;go_wp2_with (refine jad (vs:=p.cells (.slice an i cn)) rfl rfl rfl rfl c5.o.2.1 rfl Tryz.szPap (by simp[PapN.cells,Value.oneCell']) ?_;intro f9 e6 c7)
   refine bodyPost_ret (jou rfl rfl (jeF f9 w.heap.size _ rfl e6)) rfl ?_
   obtain⟨hE,e2,b9,e1⟩:=c5.o
   have h5:=H9.o.2.2;have h3:Ext w w9:=H2.o.2.trans b9;have h6:=a5.o.1.ext.size;have h7:=HR.o.2.1.size;have b7:Ext w f9:=((((h3.trans a5.o.1.ext).trans' HR.o.2.1 fun z hz e=>by have e:z=A:=e;omega).trans hE).trans' c7 fun z hz e=>by have e:z=w.heap.size:=e;omega);have a8:∀ b,(Value.slice an i cn).ownBlock=some b->b8.heap.size<=b:=HR.o.2.2.2
   refine⟨_,rfl,⟨⟨an,cn,rfl⟩,jaL (jaZ h0.o hE) c7 (fun b hb e=>by have:=a8 b hb;have e:b=w.heap.size:=e;have:=H9.o.1.size;omega),b7,fun b hb=>by have:=a8 b hb;have:=H9.o.1.size;omega⟩⟩
theorem jwI(x y:vV):CallsD Tryz.prog 46 #[x,y] .returning w fun e A w'=>A=.returning/\e=.returned (.tuple #[])/\w'=w:=by
 refine callsD_of_wpS Tryz.func46 rfl fun q cs H=>?_;apply wpS_seq;apply wpS_region;simp[wpOpsS,go_sem,recoverD,H,Tryz.ntmps46,Exit.thenS];apply wpS_seq;apply wpS_seq;apply wpS_region;simp[wpOpsS,go_sem,Exit.thenS];refine wpS_cond (t:=true) (by simp[Act.eval,Array.replicate]) ?_;simp only[if_true];refine wpS_of_wp (wp_ret ?_);cases q
 simp_all [bodyPostS,results,Tryz.func46,Exit.thenS]
theorem jov{t u:Tmp}{ty ty2:TypeId}(h:fn.results=#[.cell t ty,.cell u ty2]){a a':Addr}(ha:tmps.getD t undef=.pointer (some a))(hb:tmps.getD u undef=.pointer (some a')){w:vW}{x:vV}(hl:(loadVar ty a).run P w=.ok v w)(hx:(loadVar ty2 a').run P w=.ok x w) :
  (results fn tmps).run P w=.ok (.tuple #[v,x]) w:=by
 have e:tmps[t]?.getD undef=.pointer (some a):=by simpa using ha
 have q:tmps[u]?.getD undef=.pointer (some a'):=by simpa using hb
 simp[results,h,e,q,asAddr,bK,Result.andThen,hl,hx]
theorem jyL(p:PapN)(hp:jfo p)(hs:(papB p).size<=65536):vQ 17 #[.string (papB p)] w fun e w'=>∃ nv,e=.returned (.tuple #[.agg (p.cells nv).toArray,.int .i64 0])/\SRow w w' nv p.nodes.length p.nodes:=by
 have HR:=Hd (fun w=>jwK w p hp hs);have a5:∀ (fn:Fn) (first cap:Array vV) (w:vW),(Instr.makeFunc fn first cap).run Tryz.prog w=.ok (.func fn first cap) w:=fun _ _ _ _=>rfl
 obtain⟨s,O⟩:=vE (papB p)
 rw[<-O]at HR ⊢;clear hp hs O;go_enter_defers Tryz.func17,Tryz.ntmps17;go_wp2_with fail
 have J:=(Blk.new w (.cells #[.int .i64 0,.string ⟨#[]⟩,.string ⟨#[]⟩,.string ⟨#[]⟩,.slice none 0 0] 55)).alloc (.cells #[.int .i64 0] 27);have A:=((ExtR w).alloc (.cells #[.int .i64 0,.string ⟨#[]⟩,.string ⟨#[]⟩,.string ⟨#[]⟩,.slice none 0 0] 55)).alloc (.cells #[.int .i64 0] 27);have H:Blk ((w.alloc (.cells #[.int .i64 0,.string ⟨#[]⟩,.string ⟨#[]⟩,.string ⟨#[]⟩,.slice none 0 0] 55)).alloc (.cells #[.int .i64 0] 27)) (w.heap.size+1) (.cells #[.int .i64 0] 27):=by
  have:=Blk.new (w.alloc (.cells #[.int .i64 0,.string ⟨#[]⟩,.string ⟨#[]⟩,.string ⟨#[]⟩,.slice none 0 0] 55)) (.cells #[.int .i64 0] 27)
  rwa [bF]at this
 generalize (w.alloc (.cells #[.int .i64 0,.string ⟨#[]⟩,.string ⟨#[]⟩,.string ⟨#[]⟩,.slice none 0 0] 55)).alloc (.cells #[.int .i64 0] 27)=w1 at J A H ⊢;have a7:=H.lt;refine (HR.o w1).mono ?_;rintro e w2 ⟨nv,rfl,q⟩;have HB:=Hd (bA (J.keeps q.ext (fun h=>h)) (bA (H.keeps q.ext (fun h=>h)) (bA A q)))
 obtain⟨a2,c2,rfl⟩:=q.sl
 obtain⟨m,hm⟩:=vE p.nodes.length
 have HM:=Hd hm;unfold PapN.cells;rw[<-hm]at HB ⊢;clear J H A q hm;go_wp2_with (refine jad (vs:=p.cells (.slice a2 m c2)) rfl rfl rfl rfl HB.o.1 rfl Tryz.szPap (by simp[PapN.cells,Value.oneCell']) ?_;intro W3 a1 X;have K:=HB.o.2.1.keeps X (show ¬ w.heap.size+1=w.heap.size by omega);have q3:W3.cell? ⟨w.heap.size+1,0,none⟩=some (.int .i64 0):=K.cell (i:=0) rfl;have f3:W3.frozen? ⟨w.heap.size+1,0,none⟩=false:=K.frozen)
 have Z:=K.set_same (i:=0) (.int .i64 0);have k4:=jac.oneSet W3 ⟨w.heap.size+1,0,none⟩ (.int .i64 0);have a0:=a1.keeps k4 (show ¬ w.heap.size=w.heap.size+1 by omega);generalize W3.setCell ⟨w.heap.size+1,0,none⟩ (.int .i64 0)=w4 at Z k4 a0 ⊢;refine leaves_cons (f:=46) (args:=#[.pointer (some ⟨w.heap.size,0,none⟩),.pointer (some ⟨w.heap.size+1,0,none⟩)]) (by simp) (by simp[go_sem]) ?_;refine (jwI w4 _ _).mono ?_;rintro e u' w5 ⟨rfl,rfl,rfl⟩;have a3:=jeF w5 w.heap.size _ rfl a0;have a4:(loadVar 27 ⟨w.heap.size+1,0,none⟩).run Tryz.prog w5=.ok (.int .i64 0) w5:=by
  have:=jab Tryz.underlying27 rfl (Z.cell (i:=0) (v:=.int .i64 0) rfl)
  simpa [Instr.loadAt,Instr.sureAddr,bK,Result.andThen]using this
 obtain⟨_,_,A,q⟩:=HB.o
 have a8:=q.ext.size;have kx:jac (fun z=>z=w.heap.size\/z=w.heap.size+1) w2 w5:=(X.mono fun z _ e=>.inl e).trans (k4.mono fun z _ e=>.inr e)
 refine⟨_,jov rfl rfl rfl a3 a4,_,by rw[HM.o],?_⟩
 rw[HM.o]at q
 exact⟨⟨a2,c2,rfl⟩,jaL q.own kx (fun b hb e=>by have:=q.new b hb;rcases e with e | e <;> omega),(A.trans q.ext).trans' kx (fun z hz e=>by rcases e with e | e <;> omega),fun b hb=>by have:=q.new b hb;omega⟩
section
attribute [local go_sem] Oper.semAt_some
def prfE:vV:=.iface 27 (.int .i64 10)
def ErrW(z:Nat)(W:vW)(v:vV):Prop:=∃ (b:Nat) (k:Int),v=.iface 279 (.pointer (some ⟨b,0,none⟩))/\Blk W b (.cells #[.int .i64 k,prfE] 281)/\z<=b
def jcQ(W:vW)(wb:Nat)(root:vB)(v:vV)(u:Nat)(ev:vV):Prop:=Blk W wb (.cells #[.string root,v,.int .i64 (u:Int),ev] 283)
theorem jlW{o:Oper}{a:Act}{w:vW}{K:Act->vW->Prop}{T:TypeId}{cs:List vV}(hrun:∀ w,(Instr.alloc T true (.tuple #[])).run P w=.ok (.pointer (some ⟨w.heap.size,0,none⟩)) (w.alloc (.cells cs.toArray T)))(ho:o.op=.alloc T)
  (h:∀ W,Blk W w.heap.size (.cells cs.toArray T)->Ext w W->K (a.put o.dst (.pointer (some ⟨w.heap.size,0,none⟩))) W):o.wp P a w K Q:=
 jbk (v:=.pointer (some ⟨w.heap.size,0,none⟩)) (w':=w.alloc (.cells cs.toArray T)) (by simp only[execOp,ho,bK,hrun,Result.andThen,cP]) (h _ (Blk.new w _) ((ExtR w).alloc _))
def jy4(W:vW)(wb:Nat)(root:vB)(v:vV)(u:Nat)(ev:vV)(r:Option jae)(e:Ending)(w':vW):Prop:=
 jac (fun b=>b=wb) W w'/\match r with
  | some n=>e=.returned (.tuple #[n.V,.bool true])/\jcQ w' wb root v (u+1) ev/\n.refs.length=16
  | none=>e=.returned (.tuple #[jas.V,.bool false])/\∃ ev',ErrW W.heap.size w' ev'/\jcQ w' wb root v u ev'
theorem ExtK{a b:vW}(h:Ext a b):jac F a b:=h.mono (fun _ _ h=>h.elim)
theorem Tryz.isClaim:jb2 (Tryz.prog.underlying 112)=true:=vY
theorem Tryz.szClaim:(Tryz.prog.info? 112).map (·.size)=some 2:=vY
def clmL:Option vB->List vV | some u=>[.bool true,.string u] | none=>[.bool false,.string ⟨#[]⟩]
def clmV(o:Option vB):vV:=.agg (clmL o).toArray
theorem jcx:(clmL o).length=2:=by cases o <;> rfl
theorem jhf:∀ v∈clmL o,v.oneCell'=true:=by
 cases o <;>(intro v e;simp[clmL]at e;rcases e with rfl | rfl <;> rfl)
theorem jeG{w:vW}{b:Nat}{o:Option vB}(hB:Blk w b (.cells (clmL o).toArray 112)):(Instr.loadAt 112 (.pointer (some ⟨b,0,none⟩))).run Tryz.prog w=.ok (clmV o) w:=by
 obtain⟨A,e⟩:=jbv Tryz.isClaim
 exact ja2 e (by rw[jcx];exact Tryz.szClaim) (fun j v q=>by rw[jgQ];exact hB.cellL q)
theorem jdi{w:vW}{b:Nat}{o:Option vB}(hB:Blk w b (.cells (clmL o).toArray 112)):(loadVar 112 ⟨b,0,none⟩).run Tryz.prog w=.ok (clmV o) w:=by
 have:=jeG hB
 simpa [Instr.loadAt,Instr.sureAddr,bK,Result.andThen]using this
theorem Tryz.allocClaim:∀ w,(Instr.alloc 112 true (.tuple #[])).run Tryz.prog w=.ok (.pointer (some ⟨w.heap.size,0,none⟩)) (w.alloc (.cells (clmL none).toArray 112)):=fun w=>by kernel_rfl
theorem jsB(pa va p:vB)(rs:vM)(hr:rs.length=16) :
  vR 147 #[(jae.mk 1 pa va rs).V,.string pa] W (clmV (some va)):=by
 have HL:=Hd (jae.cells_len ⟨1,pa,va,rs⟩ hr);clear hr;have K:(⟨#[]⟩:vB).toList.isEmpty=true:=by rw[bR];rfl
 skip
 have O:=Hd ((Blk.new W (.cells (jae.cells ⟨1,pa,va,rs⟩).toArray 206)).cellL (i:=0) (v:=.int .i64 1) vF);have X:=Hd ((Blk.new W (.cells (jae.cells ⟨1,pa,va,rs⟩).toArray 206)).cellL (i:=1) (v:=.string pa) vF);have Z:=Hd ((Blk.new W (.cells (jae.cells ⟨1,pa,va,rs⟩).toArray 206)).cellL (i:=2) (v:=.string va) vF);unfold jae.V;go_enter Tryz.func147,Tryz.ntmps147;go_wp2_with (first |(refine jah Tryz.allocClaim rfl rfl ?_;intro W2 A q;rw[bF]at A;have q0:=jaa O.o q;have q1:=jaa X.o q;have q2:=jaa Z.o q) |(refine jad (old:=clmL none) (vs:=clmL (some va)) rfl rfl rfl rfl A rfl Tryz.szClaim (jhf _) ?_;intro W8 H J))
 refine bodyPost_ret (jbl rfl rfl (jdi H)) rfl ?_
 exact⟨rfl,(((ExtR W).alloc _).trans q).trans' J (fun x hx e=>by have e:x=_:=e;have:=(((ExtR W).alloc (.cells (jae.cells ⟨1,pa,va,rs⟩).toArray 206)):Ext W _).size;omega)⟩
end
section
attribute [local go_sem] Oper.semAt_some
section wide
variable {P:Program}
theorem jhZ{o:Oper}{a:Act}{w:vW}{K:Act->vW->Prop}{Q:Exit->Act->vW->Prop}(hd:∀ c,o.op≠.defer c)(h:o.wp P a w K (fun _ _ _=>False)) :
  o.wpIn Fence.wide 0 P a w K Q:=by
 unfold Oper.wp at h
 refine⟨fun _ _=>trivial,?_⟩
 rw[Oper.semAt_eq _ _ _ hd];generalize (execOp a.eval o).run P w=r at *;cases r with
 | ok x w' =>
  cases x with
  | value v=>exact h
  | skip=>exact h
  | defer d=>exact h
  | enter f args =>
   refine bA (fun q=>absurd q (by simp[Fence.wide])) (callsIn_wide.2 (Calls.mono h fun e H A=>?_));cases e with
   | returned v=>exact A
   | panicked c=>exact A.elim
   | outgrown=>exact absurd A (fun ⟨_,_,h⟩=>h)
  | row r args=>exact bA (fun q=>absurd q (by simp[Fence.wide])) (fun c cs _=>let ⟨v,w',r,s⟩:=h c cs;⟨v,w',r,stepsIn_wide.2 s⟩)
  | round l f t a b=>exact h.elim
  | _=>exact h.elim
 | halt x w' =>
  cases x <;> first | exact h.elim | exact h
theorem jd7{ops:Array Oper}{rest:List Oper}{o:Oper}{a:Act}{w:vW}{Q:Exit->Act->vW->Prop}{T:TypeId}{cs:List vV}(hrun:∀ w,(Instr.alloc T true (.tuple #[])).run P w=.ok (.pointer (some ⟨w.heap.size,0,none⟩)) (w.alloc (.cells cs.toArray T)))(hgd:o.guard=none)(ho:o.op=.alloc T)
  (h:∀ W,Blk W w.heap.size (.cells cs.toArray T)->Ext w W->wpListIn Fence.wide 0 P ops Q rest (a.put o.dst (.pointer (some ⟨w.heap.size,0,none⟩))) W):wpListIn Fence.wide 0 P ops Q (o :: rest) a w:=
 wpListIn_plain hgd fun K e=>jhZ (by rw[ho];intro c q;cases q) (jbk (v:=.pointer (some ⟨w.heap.size,0,none⟩)) (w':=w.alloc (.cells cs.toArray T)) (by simp only[execOp,ho,bK,hrun,Result.andThen,cP]) (e _ _ (h _ (Blk.new w _) ((ExtR w).alloc _))))
theorem jh9{ops:Array Oper}{rest:List Oper}{o:Oper}{a:Act}{w:vW}{Q:Exit->Act->vW->Prop}{T T2:TypeId}{x y:Operand}{b:Nat}{old vs:List vV}(hgd:o.guard=none)(ho:o.op=.store T x y)(hx:a.eval x=.pointer (some ⟨b,0,none⟩))(hy:a.eval y=.agg vs.toArray)
  (hB:Blk w b (.cells old.toArray T2)) (hl:old.length=vs.length) (hi:(P.info? T).map (·.size)=some vs.length) (h1:∀ v∈vs,v.oneCell'=true)
  (h:∀ W,Blk W b (.cells vs.toArray T2)->jac (fun z=>z=b) w W->wpListIn Fence.wide 0 P ops Q rest (a.put o.dst undef) W):wpListIn Fence.wide 0 P ops Q (o :: rest) a w:=by
 refine wpListIn_plain hgd fun K e=>jhZ (by rw[ho];intro c q;cases q) ?_;refine wp_store_mid T x y ho b 0 vs.toArray hx hy (by have:=jhU hB;rw[hl]at this;simpa using this) (by simpa using hi) (all_oneCell_toArray h1) (e _ _ (h _ ?_ (jac.oneSetCells b vs 0 w)))
 have:=Blk.setCells vs 0 w old hB vO
 rw[fG vO]at this;simpa using this
end wide
structure MetS(W0:World)(b1 wb pc:Nat)(root:vB)(v:Value)(p0:vB)(O:BSet)(W:World):Prop where
 is:∀ b,O b↔b < W0.heap.size\/b=b1\/b=wb\/b=pc
 size:W0.heap.size<=W.heap.size
 old:∀ b,b < W0.heap.size->W.heap[b]?=W0.heap[b]?
 way:jcQ W wb root v 0 .nilIface
 cap:Blk W b1 (.cells #[.pointer (some ⟨wb,0,none⟩)] 336)
 path:Blk W pc (.cells #[.string p0] 9)
theorem MetS.supp(W0:vW)(b1 wb pc:Nat)(root:vB)(v:vV)(p0:vB):Supp (MetS W0 b1 wb pc root v p0):=by
 refine⟨fun D W h b hb=>?_,fun D W A h q hb=>⟨h.is,bE h.size q,fun b e=>(hb b ((h.is b).2 (.inl e))).trans (h.old b e),(hb _ ((h.is _).2 (.inr (.inr (.inl rfl))))).trans h.way,(hb _ ((h.is _).2 (.inr (.inl rfl)))).trans h.cap,(hb _ ((h.is _).2 (.inr (.inr (.inr rfl))))).trans h.path⟩⟩
 rcases (h.is b).1 hb with h1 | rfl | rfl | rfl
 ·exact bC h1 h.size
 ·exact h.cap.lt
 ·exact Blk.lt h.way
 ·exact h.path.lt
def atV(vs:List (jae × vB))(k:Nat):jae × vB:=vs.getD k (jas,⟨#[]⟩)
def meV(vs:List (jae × vB))(k:Nat):Array vV:=#[(atV vs k).1.V,.string (atV vs k).2]
structure MtR(W:World)(wb b1 pc L:Nat)(C:Nat->BSet->World->Prop)(D:BSet)(k:Nat)(Dk:BSet)(p:vB)(n:jae)(wr:World):Prop where
 at':C k Dk wr
 sub:∀ b,Dk b->D b\/W.heap.size<=b
 kp:jac (fun b=>D b\/b=wb\/b=pc) W wr
 path:Blk wr pc (.cells #[.string p] 9)
 var:Blk wr L (.cells n.cells.toArray 206)
 nL:¬ Dk L
 len:n.refs.length=16
end
section
attribute [local go_sem] Oper.semAt_some
theorem jeK{F:Fence}{n:Nat}{w:vW}{ops:Array Oper}{rest:List Oper}{o:Oper}{a:Act}(t:TypeId)(x:Operand)(ho:o.op=.load t x)(hw:Region.wanted o (yielded ops a.tmps)=true)(v:vV)(p:Addr)(hx:a.eval x=.pointer (some p))
  (hr:(Instr.loadAt t (.pointer (some p))).run P w=.ok v w) (h:wpListIn F n P ops Q rest (a.put o.dst v) w):wpListIn F n P ops Q (o :: rest) a w:=by
 refine wpListIn_step fun K e=>?_;rw[if_pos hw];unfold Oper.wpIn
 refine⟨?_,?_⟩
 ·simp[Oper.about,ho]
 ·rw[Oper.semAt_plain F _ _ (by rw[ho];intro c q;cases q)]
  simp only[execOp,ho,hx,bK,hr,Result.andThen,cP];exact e _ _ h
theorem jcQ.root'{W:vW}{wb:Nat}(h:jcQ W wb root v u ev):W.cell? ⟨wb,0,none⟩=some (.string root):=Blk.cell (i:=0) h vF
end
section
section mixh
variable {P:Program} {l:List Oper} {E D:vW->vW->Prop}
def MixH(P:Program)(l:List Oper)(hd:List Nat)(E D:vW->vW->Prop)(Q:Act->vW->Prop):Nat->List Nat->Act->vW->Prop
 | 0,done,a,w=>∀ w1,E w w1->Region.ready .any l.toArray (jaR l done)=[]/\Q a w1
 | n+1,done,a,w =>
  (∃ k,k∈Region.ready .any l.toArray (jaR l done)/\Region.free .any l.toArray (jaR l done) k=true/\∃ o v,l[k]?=some o/\jbR P l.toArray E D w o v a/\MixH P l hd E D Q n (k :: done) (a.put o.dst v) w) \/
  (Region.ready .any l.toArray (jaR l done)≠[]/\∀ i∈Region.ready .any l.toArray (jaR l done),i∈hd/\∀ w1,E w w1->wpOp P l.toArray NoQ i (fun a' w'=>D w1 w'/\MixH P l hd E D Q n (i :: done) a' w') a w1)
theorem jei(hE:∀ w,E w w)(hT:∀ x y z,E x y->E y z->E x z)(hD:∀ x y z,D x y->D y z->D x z)(hED:∀ x y,E x y->D x y)(hs:Region.noSelect l.toArray=true){hd:List Nat}{Q:Act->vW->Prop}:∀ (n:Nat) (done:List Nat) (a:Act) (w:vW),
  MixH P l hd E D Q n done a w->anyD P l.toArray hd E D Q n (jaR l done) a w
 | 0,_,_,_,h=>h
 | n+1,done,a,w,h=>by
  rcases h with⟨k,hr,hf,o,v,ho,hy,h⟩ |⟨hr,h⟩
  ·have e:l.toArray[k]?=some o:=by simpa using ho
   exact jic hE hT hD hED e (fY hs) n (jaR l done) a w (gU e hf) hr hy (jei hE hT hD hED hs n _ _ _ h)
  ·intro w1 A
   refine⟨fun H=>absurd H hr,fun i hi=>?_⟩
   obtain⟨J,h⟩:=h i hi
   exact wpOp_mono (fun O w' q=>⟨q.1,fun K=>absurd J K,jei hE hT hD hED hs n _ _ _ q.2⟩) (h w1 A)
theorem jia(hd:List Nat)(E D:vW->vW->Prop)(hE:∀ w,E w w)(hT:∀ x y z,E x y->E y z->E x z)(hD:∀ x y z,D x y->D y z->D x z)(hED:∀ x y,E x y->D x y){id:Nat}{Q:Exit->Act->vW->Prop}{a:Act}{w:vW}
  (hm:P.follows .mixedOrders=true) (hs:Region.noSelect l.toArray=true) (n:Nat) (hl:n=l.toArray.size)
  (h:MixH P l hd E D (fun a w=>Q .normal a w) n [] a w.drew):(Code.region id l.toArray true).wp P Q a w:=by
 refine wp_region_any hm ?_;rw[<-hl]
 have:=jei hE hT hD hED hs n _ _ _ h
 unfold jaR at this;rw[<-hl]at this;exact jf0 hE (fun _ _ h=>h) _ _ _ _ this
variable {Q:Act->vW->Prop} {done hd:List Nat} {a:Act} {w:vW} {k n:Nat} {o:Oper}
theorem jco(o:Oper)(ho:l[k]?=some o)(hk:headD l done k=true)(hw:Region.wanted o (yielded l.toArray a.tmps)=true)(hq:jhB o.op=true)
  (h:∀ K:Act->Prop,(∀ a',MixH P l hd E D Q n (k :: done) a' w->K a')->o.quiet P a (fun _=>True) K):MixH P l hd E D Q (n+1) done a w:=by
 simp only[headD,cC,cL]at hk
 obtain⟨v,A,H⟩:=h _ (fun _ h=>h)
 have q:jbR P l.toArray E D w o v a:=by
  refine .inl ⟨hw,fun w1 _=>?_⟩;have e:=A w1 trivial;unfold Oper.quietAt at e;have J:=fun f args w'=>jhL (ρ:=a.eval) hq P w1 w' f args;generalize (execOp a.eval o).run P w1=r at *;cases r with
  | ok n w'=>cases n <;> simp only[Oper.quietUpon]at e <;> first | exact e | exact absurd rfl (J _ _ _)
  | halt x w'=>simp only[Oper.quietUpon]at e
 exact .inl ⟨_,hk.1,hk.2,o,v,ho,q,H⟩
theorem jmX(o:Oper)(v:vV)(ho:l[k]?=some o)(hk:headD l done k=true)(hw:Region.wanted o (yielded l.toArray a.tmps)=true)
  (hv:∀ w1,D w w1->(execOp a.eval o).run P w1=.ok (.value v) w1) (h:MixH P l hd E D Q n (k :: done) (a.put o.dst v) w):MixH P l hd E D Q (n+1) done a w:=by
 simp only[headD,cC,cL]at hk;exact .inl ⟨_,hk.1,hk.2,o,v,ho,.inl ⟨hw,fun w1 e=>by rw[hv w1 e];exact⟨rfl,rfl⟩⟩,h⟩
theorem jhE(p:Addr)(v:vV){t:TypeId}{x:Operand}{d:Option Tmp}{ty:TypeId}{pos:String}{af:Array Edge}{g:Option (Nat × Bool)}(ho:l[k]?=some ⟨d,.load t x,ty,pos,af,g⟩)(hk:headD l done k=true)
  (hw:Region.wanted ⟨d,.load t x,ty,pos,af,g⟩ (yielded l.toArray a.tmps)=true) (hx:a.eval x=.pointer (some p))
  (hv:∀ w1,D w w1->(Instr.loadAt t (.pointer (some p))).run P w1=.ok v w1) (h:MixH P l hd E D Q n (k :: done) (a.put d v) w):MixH P l hd E D Q (n+1) done a w:=by
 refine jmX _ v ho hk hw (fun w1 e=>?_) h
 have:=hv w1 e
 simp only[execOp,hx,bK,this,Result.andThen,cP]
theorem jfG(o:Oper)(ho:l[k]?=some o)(hk:jjX l hd done k=true)(hw:Region.wanted o (yielded l.toArray a.tmps)=true)
  (h:∀ w1,E w w1->∀ K:Act->vW->Prop,(∀ a' w',D w1 w'->MixH P l hd E D Q n (k :: done) a' w'->K a' w')->o.wp P a w1 K NoQ):MixH P l hd E D Q (n+1) done a w:=by
 simp only[jjX,cC,beq_iff_eq,cL]at hk;refine .inr ⟨by rw[hk.1];simp,fun i hi=>?_⟩;rw[hk.1]at hi;obtain rfl:i=k:=by simpa using hi
 refine⟨hk.2,fun w1 q=>?_⟩
 unfold wpOp;have e:l.toArray[i]?=some o:=by simpa using ho
 simp only[e,hw,if_true];exact .inl (h w1 q _ (fun _ _ A H=>⟨A,H⟩))
def twoD(l:List Oper)(hd done:List Nat)(j k:Nat):Bool:=Region.ready .any l.toArray (jaR l done) == [j,k] && hd.contains j && hd.contains k
theorem jtA(j k:Nat)(o1 o2:Oper)(hk:twoD l hd done j k=true)(h01:l[j]?=some o1)(h02:l[k]?=some o2)
  (hw1:Region.wanted o1 (yielded l.toArray a.tmps)=true) (hw2:Region.wanted o2 (yielded l.toArray a.tmps)=true)
  (q:∀ w1,E w w1->∀ K:Act->vW->Prop,(∀ a' w',D w1 w'->MixH P l hd E D Q n (j :: done) a' w'->K a' w')->o1.wp P a w1 K NoQ)
  (A:∀ w1,E w w1->∀ K:Act->vW->Prop,(∀ a' w',D w1 w'->MixH P l hd E D Q n (k :: done) a' w'->K a' w')->o2.wp P a w1 K NoQ):MixH P l hd E D Q (n+1) done a w:=by
 simp only[twoD,cC,beq_iff_eq,cL]at hk;refine .inr ⟨by rw[hk.1.1];simp,fun i hi=>?_⟩;rw[hk.1.1]at hi;have hi:i=j\/i=k:=by simpa using hi
 rcases hi with rfl | rfl
 ·refine⟨hk.1.2,fun w1 H=>?_⟩
  unfold wpOp;have e:l.toArray[i]?=some o1:=by simpa using h01
  simp only[e,hw1,if_true];exact .inl (q w1 H _ (fun _ _ q A=>⟨q,A⟩))
 ·refine⟨hk.2,fun w1 H=>?_⟩
  unfold wpOp;have e:l.toArray[i]?=some o2:=by simpa using h02
  simp only[e,hw2,if_true];exact .inl (A w1 H _ (fun _ _ q A=>⟨q,A⟩))
theorem jmW(hk:(Region.ready .any l.toArray (jaR l done)).isEmpty=true)(h:∀ w1,E w w1->Q a w1):MixH P l hd E D Q 0 done a w:=
 fun w1 e=>⟨by simpa using hk,h w1 e⟩
end mixh
end
section
attribute [local go_sem] Oper.semAt_some
def DrW(wb z:Nat)(x y:vW):Prop:=jac (fun b=>b=wb\/z<=b) x y/\∀ rt,x.cell? ⟨wb,0,none⟩=some (.string rt)->y.cell? ⟨wb,0,none⟩=some (.string rt)
theorem DrW.trans(a b c:vW)(h:DrW wb z a b)(k:DrW wb z b c):DrW wb z a c:=⟨h.1.trans k.1,fun q e=>k.2 q (h.2 q e)⟩
theorem DrW.ext(x y:vW)(h:Ext x y):DrW wb z x y:=⟨ExtK h,fun q e=>jaa e h⟩
def juI(y b1 pc wb:Nat)(root:vB)(L:Nat)(m:jae)(okb:Bool):Act:=
 { tmps:=#[.func (.yield y) #[] #[],.pointer (some ⟨b1,0,none⟩),.pointer (some ⟨pc,0,none⟩),undef,.pointer (some ⟨L,0,none⟩),.bool okb,undef,undef,.tuple #[m.V,.bool okb],.pointer (some ⟨wb,0,none⟩),.pointer (some ⟨wb,0,none⟩),.pointer (some ⟨wb,0,none⟩),.pointer (some ⟨wb,0,none⟩),.string root,.tuple #[m.V,.bool okb],m.V,.bool okb,
  undef,undef,undef,undef,undef,undef,undef,undef,undef,undef,undef,undef,undef,undef,undef,undef,undef,undef,undef,undef,undef,undef],defers:=[] }
end
theorem jvL:vQ 34 #[.nilIface,prfE] w fun e w'=>e=.returned (.bool false)/\w=w':=by
 have q:∀ w,(binOp .eql 88 .nilIface .nilIface).run Tryz.prog w=.ok (.bool true) w:=fun w=>by kernel_rfl
 have A:∀ w,(binOp .eql 88 .nilIface prfE).run Tryz.prog w=.ok (.bool false) w:=fun w=>by kernel_rfl
 unfold prfE at *;unfold vQ;go_in;go_wp2_with fail
 go_ret
 exact⟨rfl,rfl⟩
section
attribute [local go_sem] Oper.semAt_some
theorem jqw{vs:List (jae × vB)}{k:Nat}(h:k < vs.length):jiB (vs.take (k+1))=jdc (atV vs k).1 (atV vs k).2:=by
 unfold jiB atV;rw[bX,bB h,Option.toList_some,List.getLast?_concat,bJ,bB h];rfl
def MetP(wb:Nat)(p:vB)(W:vW)(e:Ending)(w':vW):Prop:=e=.returned (.func (.func 187) #[] #[.pointer (some ⟨W.heap.size,0,none⟩),.pointer (some ⟨W.heap.size+1,0,none⟩)])/\w'=(W.alloc (.cells #[.pointer (some ⟨wb,0,none⟩)] 336)).alloc (.cells #[.string p] 9)
theorem jzm:vQ 146 #[.pointer (some ⟨wb,0,none⟩),.string p] W (MetP wb p W):=by
 unfold vQ;go_in;go_wp2;go_ret
 exact⟨rfl,rfl⟩
theorem Tryz.allocWay:∀ w,(Instr.alloc 283 true (.tuple #[])).run Tryz.prog w=.ok (.pointer (some ⟨w.heap.size,0,none⟩)) (w.alloc (.cells [.string ⟨#[]⟩,.slice none 0 0,.int .i64 0,.nilIface].toArray 283)):=fun w=>by kernel_rfl
theorem Tryz.szWay:(Tryz.prog.info? 283).map (·.size)=some 4:=vY
theorem juN{W:vW}{l:vM}(h:RdS W v l):∃ a c,v=.slice a l.length c:=by
 rcases h with⟨a,c,h1,h2⟩ |⟨b,o,c,h1,_⟩
 ·exact⟨a,c,by rw[h1,h2];rfl⟩
 ·exact⟨_,c,h1⟩
theorem jcQ.errc{W:vW}{wb:Nat}(h:jcQ W wb root v u ev):W.cell? ⟨wb,3,none⟩=some ev:=Blk.cell (i:=3) h vF
structure ClC(cb:Nat)(vs:List (jae × vB))(k:Nat)(D:BSet)(W:World):Prop where
 is:∀ b,D b↔b=cb
 blk:Blk W cb (.cells (clmL (jiB (vs.take k))).toArray 112)
theorem ClC.supp(vs:List (jae × vB))(k:Nat):Supp (ClC cb vs k):=⟨fun D W h b hb=>by rw[(h.is b).1 hb];exact h.blk.lt,fun D W e h q hb=>⟨h.is,(hb cb ((h.is cb).2 rfl)).trans h.blk⟩⟩
end
theorem jrU(p:PapN)(nv:vV)(hn:RdS w nv p.nodes)(hp:jfo p)(hk:p.kind=0)(u:vB)(hVe:∀ W,Ext w W->vR 51 #[.string p.root,.string p.key,nv] W (.tuple #[clmV (some u),.int .i64 0])):vQ 18 #[.agg (p.cells nv).toArray] w fun e w'=>∃ a c,e=.returned (.tuple #[.slice a 1 c,.int .i64 0])/\Ext w w':=by
 have HP:=Hd hp;have Z:=Blk.new w (.cells (p.cells nv).toArray 55);have A:=(ExtR w).alloc (.cells (p.cells nv).toArray 55);have HB:=Hd (bA Z A);have HV:=Hd (jnv _ p nv (hn.ext A) hp);have a3:p.key.size<=6:=hp.key;have H:=Hd hVe
 obtain⟨a0,a1,J,to,K⟩:=p
 have hk:a0=0:=hk;subst hk
 obtain⟨a,c,a4,_⟩:=hn.slice
 subst a4
 obtain⟨m,hm⟩:=vE K.length
 unfold PapN.cells at HB HV ⊢;simp only at HB HV H a3 ⊢;rw[<-hm]at HB HV H ⊢;clear hn hp hVe Z A hm;unfold vQ;go_in;go_wp2_with fail
 refine HV.o.mono ?_;rintro e w1 ⟨rfl,O⟩;have q:=HB.o.1.keeps O (fun h=>h);have q0:w1.cell? ⟨w.heap.size,0,none⟩=some (.int .i64 0):=q.cell (i:=0) rfl;have q1:w1.cell? ⟨w.heap.size,1,none⟩=some (.string a1):=q.cell (i:=1) rfl;have q2:w1.cell? ⟨w.heap.size,2,none⟩=some (.string J):=q.cell (i:=2) rfl;have q4:w1.cell? ⟨w.heap.size,4,none⟩=some (.slice a m c):=q.cell (i:=4) rfl;have H1:=Hd (bA (HB.o.2.trans O) q);clear O q;go_wp2_with fail
 refine vC (H.o w1 H1.o.1) fun w2 X=>?_;have a2:=H1.o.2.keeps X (fun h=>h);have a7:(w2.alloc (.cells #[.bool true,.string u] 112)).cell? ⟨w.heap.size,2,none⟩=some (.string J):=(a2.alloc _).cell (i:=2) rfl;have a5:=((ExtR w2).alloc (.cells #[.bool true,.string u] 112)).alloc (.cells #[.string J,.string u] 52);have H2:=Hd (H1.o.1.trans X);clear X a2 q0 q1 q2 q4;rw[show clmV (some u)=.agg #[.bool true,.string u]from rfl];go_wp2_with fail
 go_ret2
 exact⟨_,_,rfl,H2.o.trans a5⟩
section
attribute [local go_sem] Oper.semAt_some
def jy0(C:Nat->vW->Prop)(v:vV)(wr:vW):Prop:=∃ i:Nat,i<=16/\v=.int .i64 i/\C 0 wr
theorem jpa(nb pb wb:Nat)(n:jae)(hn:n.refs=List.replicate 16 ⟨#[]⟩):jr5 Tryz.prog 223 #[.pointer (some ⟨nb,0,none⟩),.pointer (some ⟨pb,0,none⟩),.pointer (some ⟨wb,0,none⟩)] 0 (fun _=>#[.string ⟨#[]⟩,.string ⟨#[]⟩]) (fun W=>Blk W nb (.cells n.cells.toArray 206)):=by
 intro l C Cx hC O Z W hY X;have hB:=Z 0 W X;have hr:n.refs.length=16:=by rw[hn,gT]
 have e:W.rangeAt nb 3 (n.refs.map Value.string):=fun j v hv=>hB.cellL (by
  unfold jae.cells;rw[show 3+j=j+3 by omega];simpa using hv)
 have q:=run_loadVar_mid (P:=Tryz.prog) W nb 3 204 _ _ e Tryz.uRefs rfl (by simp only[bS,hr];exact Tryz.iRefs);have A:(Instr.loadAt 204 (.pointer (some ⟨nb,3,none⟩))).run Tryz.prog W=.ok (.agg (n.refs.map Value.string).toArray) W:=by
  simp[Instr.loadAt,Instr.sureAddr,bK,Result.andThen,q]
 have H0:=Hd X;have HR:=Hd hn;clear hB hY X e q hr hn hC O Z;refine callsIn_of_wp Tryz.func223 rfl trivial ?_ rfl;simp only[Tryz.ntmps223,cT,bU,dA,Nat.reduceAdd,Nat.reduceSub,cV,cU,dE,cZ,cN,cY];gi_wp2_with (refine jaI rfl 204 (.tmp 8) rfl _ _ rfl A ?_)
 clear A;gi_loopw [10] (fun v wr=>jy0 C v wr) (fun v _=>16 - (intOf v).toNat)
 case atStart=>exact⟨0,by omega,rfl,H0.o⟩
 case round =>
  obtain⟨i,hi,rfl,H⟩:=hrel
  have J:=Hd H;clear H
  by_cases hlt:i < 16
  ·have a0:(Instr.index 204 (.agg (n.refs.map Value.string).toArray) (.int .i64 (i:Int))).run Tryz.prog wr=.ok (.string ⟨#[]⟩) wr:=jcZ Tryz.uRefs Tryz.strOne Tryz.strAgg _ i hlt _ (by rw[bV,HR.o,List.getElem?_replicate,if_pos hlt];rfl) wr
   gi_wp2
   refine⟨⟨i+1,by omega,by go_num,J.o⟩,?_⟩
   show 16 - (intOf (.int .i64 ((i:Int)+1))).toNat < 16 - (intOf (.int .i64 (i:Int))).toNat;simp[intOf];omega
  ·have K:i=16:=vO
   subst K;gi_wp2;refine bodyPost_end (results_none rfl _ _ _) rfl ?_
   exact⟨⟨_,rfl⟩,.inl J.o⟩
end
theorem jyD(to p:vB)(hf:fr.size<=1000)(ht:to.size<=1000)(h1:Op.bytesLess p.toList (jaJ fr).toList=false)(h2:Op.bytesLess p.toList (jaJ to).toList=true):vR 183 #[.agg #[.string fr,.string to],.string p] w (.bool true):=by
 have e:=(ExtR w).alloc (.cells #[.string fr,.string to] 110);have q:=Blk.new w (.cells #[.string fr,.string to] 110);have J:=Hd (bA e q);clear e q;unfold vR vQ;go_in;go_wp2_with fail
 refine vC (je3 _ fr vO) fun w1 A=>?_;have O:=(J.o.2.keeps A (fun h=>h)).cell (i:=1) (v:=.string to) rfl;have K:=Hd A;clear A;go_wp2_with fail
 refine vH (je3 _ to vO) fun X A=>?_;have H:=Hd (J.o.1.trans (K.o.trans A));go_wp2_with fail
 go_ret
 exact⟨rfl,H.o⟩
section
attribute [local go_sem] Oper.semAt_some
def wkC(fr to:vB)(s mb:Nat)(nv:vV)(lk:Int)(fv:vV):List vV:=[.string fr,.string to,.func (.func 89) #[.pointer (some ⟨s,0,none⟩)] #[],.map (some mb),nv,.int .i64 lk,fv]
theorem RdS.keeps'{w w':vW}{xs:vM}(h:RdS w v xs)(k:jac F w w')(hF:∀ b,v.ownBlock=some b->¬ F b):RdS w' v xs:=by
 rcases h with h |⟨b,o,c,rfl,h2,h3,h4⟩
 ·exact .inl h
 ·have hb:=hF b rfl
  exact .inr ⟨b,o,c,rfl,bC h2 k.size,h3,fun j x e=>jai (h4 j x e) k hb⟩
theorem jwE(s:Nat)(hne:wb≠mb)(fr to root t:vB)(d:Nat)(n:jae)(hg:jaW (InlD d) n)(ht:t=jaV n)(hB:Blk w wb (.cells (wkC fr to s mb (.slice none 0 0) 0 (.slice none 0 0)).toArray 195))(hm:Blk w mb (.map (Tryz.ES.arr []) 0))
  (hsg:∀ W,Ext w W->vR 89 #[.pointer (some ⟨s,0,none⟩),.string root] W (.tuple #[.string t,.bool true])) :
  vQ 144 #[.pointer (some ⟨wb,0,none⟩),.string root] w fun e w'=>e=.returned (.tuple #[n.V,.nilIface])/\jac (fun z=>z=wb\/z=mb) w w'/\∃ g c,Blk w' wb (.cells (wkC fr to s mb (.slice (some ⟨g,0,none⟩) 1 c) 0 (.slice none 0 0)).toArray 195)/\RdS w' (.slice (some ⟨g,0,none⟩) 1 c) [t]/\w.heap.size<=g:=by
 have H:=(hg.one (inlP d)).refs;have HL:=Hd (n.cells_len H);have HG:=Hd (fun W=>jer (inlP d) W n hg);have HB:=Hd (bA hB hm);have HS:=Hd hsg;have HT:=Hd ht;have c3:=hB.lt;have c4:=hm.lt;clear hg ht hB hm hsg;go_enter Tryz.func144,Tryz.ntmps144;go_wp2_with (refine jah Tryz.allocNode rfl rfl ?_;intro w1 b0 J;have q2:w1.cell? ⟨wb,2,none⟩=some (.func (.func 89) #[.pointer (some ⟨s,0,none⟩)] #[]):=(HB.o.1.keeps J (fun h=>h)).cellL rfl)
 have H1:=Hd (bA J (bA b0 (bA (HB.o.1.keeps J (fun h=>h)) (HB.o.2.keeps J (fun h=>h)))));clear J b0 q2;refine vH (HS.o w1 H1.o.1) fun w2 b9=>?_;go_wp2_with fail
 rw[HT.o];refine vH (HG.o w2) fun w3 c0=>?_;rw[<-HT.o];have q:=b9.o.trans c0;have H3:=Hd (bA (H1.o.1.trans q) (bA (H1.o.2.1.keeps q (fun h=>h)) (bA (H1.o.2.2.1.keeps q (fun h=>h)) (H1.o.2.2.2.keeps q (fun h=>h)))));clear q;unfold jae.V;have c5:=H3.o.2.1.lt;have b1:=H;go_wp2_with (first
  |(refine jaf 206 (.tmp 8) rfl rfl _ _ rfl (jap _ _ n b1 c1) ?_)
  |(refine jad (vs:=n.cells) rfl rfl rfl rfl c2 (by rw[HL.o];rfl) (by rw[HL.o];exact Tryz.szNode) n.one ?_;intro b2 a8 K)
  |(at_builtin;go_loud (refine ja0 Tryz.sStrs (ORow.nil 9 1 ((ExtR X).alloc (.cells #[.string t] 9))) (.tmp 49) (.tmp 51) rfl rfl rfl (jaN (Blk.new X _)) (news:=[.string t]) (by intro u hu;simp at hu;rw[hu];rfl) rfl rfl (by unfold maxLen;omega) vO (fun v7 w7 Z r2 r3=>?_))
    obtain⟨a7,c7,rfl⟩:=Z.sl
    have a0:=H6.o.2.2.1.keeps Z.ext (fun h=>h);have q7:w7.cell? ⟨wb,4,none⟩=some (.slice none 0 0):=a0.cellL rfl;have f7:w7.frozen? ⟨wb,4,none⟩=false:=a0.frozen;have H7:=Hd (bA Z a0);clear Z r2 r3 a0 b3 q3 q4)
  |(refine jc0 rfl wb 4 (.slice a7 1 c7) rfl rfl rfl rfl vY q7 f7 ?_;intro W8 a2
    have k8:jac (fun z=>z=wb) w7 W8:=by rw[a2];exact jac.oneSet w7 ⟨wb,4,none⟩ (.slice a7 1 c7)
    have O:Blk W8 wb (.cells (wkC fr to s mb (.slice a7 1 c7) 0 (.slice none 0 0)).toArray 195):=by
     have:=H7.o.2.set_same (i:=4) (.slice a7 1 c7)
     rw[a2];exact this
    have a3:=((H6.o.2.2.2.1.keeps H7.o.1.ext (fun h=>h)).keeps k8 (fun e=>hne e.symm));have q3:W8.cell? ⟨wb,3,none⟩=some (.map (some mb)):=O.cellL rfl;have b3:(Instr.lookup 124 (.map (some mb)) (.string root) false).run Tryz.prog W8=.ok (.int .i64 0) W8:=jbQ Tryz.ES Tryz.uMapSI a3 (Tryz.zeroI W8) root.data.toList false
    obtain⟨W9,a4⟩:=vE (W8.putObj mb (.map (Tryz.ES.arr [(root.data.toList,.int .i64 1,0)]) 1))
    have c8:(Instr.mapUpdate 124 (.map (some mb)) (.string root) (.int .i64 1)).run Tryz.prog W8=.ok () W9:=by
     have:=jbj Tryz.ES Tryz.uMapSI a3 root.data.toList (.int .i64 1)
     rw[a4];exact this
    have K9:jac (fun z=>z=mb) W8 W9:=by rw[a4];exact jac.onePut _ _ _
    have c1:=(((H6.o.2.2.2.2.1.keeps H7.o.1.ext (fun h=>h)).keeps k8 (show ¬ w3.heap.size=wb by have:=H3.o.2.2.1.lt;omega)).keeps K9 (show ¬ w3.heap.size=mb by have:=H3.o.2.2.2.lt;omega));have c2:=(((H6.o.2.1.keeps H7.o.1.ext (fun h=>h)).keeps k8 (show ¬ w.heap.size=wb by omega)).keeps K9 (show ¬ w.heap.size=mb by omega));have H9:=Hd (bA k8 (bA O K9));clear a2 a4 k8 O a3 K9 q7 f7)
  |(refine jah Tryz.allocNode rfl rfl ?_;intro W5 b4 b5;refine jad (vs:=n.cells) rfl rfl rfl rfl b4 (by rw[HL.o];rfl) (by rw[HL.o];exact Tryz.szNode) n.one ?_;intro X b6 b7
    have A:Ext w3 X:=b5.trans' b7 (fun x hx e=>by have e:x=w3.heap.size:=e;omega);have a1:=H3.o.2.2.1.keeps A (fun h=>h);have a5:=H3.o.2.2.2.keeps A (fun h=>h);have b8:=H3.o.2.1.keeps A (fun h=>h);have q3:X.cell? ⟨wb,3,none⟩=some (.map (some mb)):=a1.cellL rfl;have q4:X.cell? ⟨wb,4,none⟩=some (.slice none 0 0):=a1.cellL rfl;have b3:(Instr.lookup 124 (.map (some mb)) (.string root) false).run Tryz.prog X=.ok (.int .i64 0) X:=jbQ Tryz.ES Tryz.uMapSI a5 (Tryz.zeroI X) root.data.toList false;have H6:=Hd (bA (H3.o.1.trans A) (bA b8 (bA a1 (bA a5 (bA b6 A.size)))));clear b4 b5 b6 b7 A a1 a5 b8))
 refine bodyPost_ret (jan rfl rfl rfl (jat b2 _ n b1 a8)) rfl ?_
 obtain⟨k8,O,K9⟩:=H9.o
 obtain⟨Z,_⟩:=H7.o
 obtain⟨g7,rfl⟩:=jgp Z.own vI
 have c9:X.heap.size<=g7:=Z.new g7 rfl;have d0:=H6.o.2.2.2.2.2;have d1:=H3.o.1.size;have e1:Ext w w7:=H6.o.1.trans Z.ext;have e2:jac (fun z=>z=wb\/z=mb) w b2:=((((e1.mono (G:=fun z=>z=wb\/z=mb) fun _ _ e=>e.elim).trans (k8.mono fun z _ e=>.inl e)).trans (K9.mono fun z _ e=>.inr e)).trans' K fun z hz e=>by have e:z=w.heap.size:=e;omega);have a9:=((SRow.rd Z:RdS w7 _ [t]).keeps' k8 (fun b hb e=>by have hb:some g7=some b:=hb;have e:b=wb:=e;cases hb;omega))
 refine⟨rfl,e2,g7,c7,(O.keeps K9 hne).keeps K vO,?_,by omega⟩
 exact (a9.keeps' K9 (fun b hb e=>by have hb:some g7=some b:=hb;have e:b=mb:=e;cases hb;omega)).keeps' K (fun b hb e=>by have hb:some g7=some b:=hb;have e:b=w.heap.size:=e;cases hb;omega)
theorem Tryz.enterBelow1:(callFunc 223 args).run Tryz.prog w=.ok (.enter 223 args) w:=vY
theorem jt5(n:jae):vQ 185 #[.pointer (some ⟨wb,0,none⟩),n.V,.string ⟨#[]⟩] w fun e w'=>e=.returned (.func (.func 223) #[] #[.pointer (some ⟨w.heap.size+1,0,none⟩),.pointer (some ⟨w.heap.size+1+1,0,none⟩),.pointer (some ⟨w.heap.size,0,none⟩)])/\Ext w w'/\Blk w' (w.heap.size+1) (.cells n.cells.toArray 206):=by
 have H:∀ (fn:Fn) (first cap:Array vV) (w:vW),(Instr.makeFunc fn first cap).run Tryz.prog w=.ok (.func fn first cap) w:=fun _ _ _ _=>rfl;have A:=(((ExtR w).alloc (.cells #[.pointer (some ⟨wb,0,none⟩)] 189)).alloc (.cells n.cells.toArray 206)).alloc (.cells #[.string ⟨#[]⟩] 9);have q:=(Blk.new (w.alloc (.cells #[.pointer (some ⟨wb,0,none⟩)] 189)) (.cells n.cells.toArray 206)).alloc (.cells #[.string ⟨#[]⟩] 9);rw[bF]at q;have J:=Hd (bA A q);clear A q;unfold jae.V;unfold vQ;go_in;go_wp2_with fail
 go_ret
 exact⟨rfl,J.o⟩
theorem joD(s:Nat)(nv:vV)(hnv:nv.oneCell'=true)(fr to key:vB)(n:jae)(hn:n.refs=List.replicate 16 ⟨#[]⟩)(hv:n.value.toList.isEmpty=false)(hsz:n.path.size<=1000)
  (hf:fr.size<=1000) (ht:to.size<=1000) (A:Op.bytesLess n.path.toList (jaJ fr).toList=false) (h2:Op.bytesLess n.path.toList (jaJ to).toList=true) (hk:keyV n.path=.tuple #[.string key,.bool true])
  (hB:Blk w wb (.cells (wkC fr to s mb nv 0 (.slice none 0 0)).toArray 195)) :
  vQ 145 #[.pointer (some ⟨wb,0,none⟩),n.V,.string ⟨#[]⟩] w fun e w'=>e=.returned .nilIface/\jac (fun z=>z=wb) w w'/\∃ fv,Blk w' wb (.cells (wkC fr to s mb nv 1 fv).toArray 195):=by
 have H:n.refs.length=16:=by rw[hn,gT]
 have HL:=Hd (n.cells_len H);have HB:=Hd hB;have HH:=Hd (bA A (bA h2 (bA hk (bA hf (bA ht hn)))));have d6:=hB.lt;clear hB A h2 hk hf ht hn;refine (callsIn_wide (n:=0)).1 ?_;refine callsIn_of_wp_marks Tryz.func145 rfl trivial ?_ rfl;refine wpIn_wide.2 ?_;simp only[Tryz.ntmps145,cT,bU,dA,Nat.reduceAdd,Nat.reduceSub,cV,cU,dE,cZ,cN,cY];unfold jae.V;have a5:=(((ExtR w).alloc (.cells #[.pointer (some ⟨wb,0,none⟩)] 189)).alloc (.cells n.cells.toArray 206)).alloc (.cells #[.nilIface] 88);have b6:=((Blk.new w (.cells #[.pointer (some ⟨wb,0,none⟩)] 189)).alloc (.cells n.cells.toArray 206)).alloc (.cells #[.nilIface] 88);have a7:=(Blk.new (w.alloc (.cells #[.pointer (some ⟨wb,0,none⟩)] 189)) (.cells n.cells.toArray 206)).alloc (.cells #[.nilIface] 88);have a8:=Blk.new ((w.alloc (.cells #[.pointer (some ⟨wb,0,none⟩)] 189)).alloc (.cells n.cells.toArray 206)) (.cells #[.nilIface] 88);simp only[bF]at a7 a8;have Z:=HB.o.keeps a5 (fun h=>h);have q5:=Z.cellL (i:=5) (v:=.int .i64 0) rfl;have f5:World.frozen? (((w.alloc (.cells #[.pointer (some ⟨wb,0,none⟩)] 189)).alloc (.cells n.cells.toArray 206)).alloc (.cells #[.nilIface] 88)) ⟨wb,5,none⟩=false:=Z.frozen;have H0:=Hd (bA a5 (bA b6 (bA a7 (bA a8 Z))));clear a5 b6 a7 a8 Z;go_wp2_with (refine jc0 rfl wb 5 (.int .i64 1) rfl rfl rfl rfl vY q5 f5 ?_;intro W1 a9;have k1:=jac.oneSet (((w.alloc (.cells #[.pointer (some ⟨wb,0,none⟩)] 189)).alloc (.cells n.cells.toArray 206)).alloc (.cells #[.nilIface] 88)) ⟨wb,5,none⟩ (.int .i64 1);rw[<-a9]at k1;have a0:Blk W1 wb (.cells (wkC fr to s mb nv 1 (.slice none 0 0)).toArray 195):=(by have:=H0.o.2.2.2.2.set_same (i:=5) (.int .i64 1);rw[a9];exact this);have b0:=H0.o.2.1.keeps k1 (show ¬ w.heap.size=wb by omega);have a1:=H0.o.2.2.1.keeps k1 (show ¬ w.heap.size+1=wb by omega);have b7:=H0.o.2.2.2.1.keeps k1 (show ¬ w.heap.size+1+1=wb by omega);have qp:W1.cell? ⟨w.heap.size,0,none⟩=some (.pointer (some ⟨wb,0,none⟩)):=b0.cell (i:=0) rfl;have c9:W1.cell? ⟨w.heap.size+1,1,none⟩=some (.string n.path):=a1.cellL rfl;have d0:W1.cell? ⟨w.heap.size+1,2,none⟩=some (.string n.value):=a1.cellL rfl;have d1:W1.cell? ⟨wb,0,none⟩=some (.string fr):=a0.cellL rfl;have d2:W1.cell? ⟨wb,1,none⟩=some (.string to):=a0.cellL rfl;have H1:=Hd (bA ((H0.o.1.mono (G:=fun z=>z=wb) fun _ _ e=>e.elim).trans k1) (bA a0 (bA b0 (bA a1 b7))));clear a9 k1 a0 b0 a1 b7 q5 f5)
 have e0:(⟨#[]⟩:vB)++n.path=n.path:=by apply ByteArray.ext;simp
 rw[e0];refine vH (jyD W1 fr to n.path HH.o.2.2.2.1 HH.o.2.2.2.2.1 HH.o.1 HH.o.2.1) fun W2 d3=>?_;go_wp2_with fail
 refine vH (jlt W2 n.path vO) fun W3 d4=>?_;rw[HH.o.2.2.1];have q:=d3.o.trans d4;have J:=Hd (bA q (bA (H1.o.2.1.keeps q (fun h=>h)) (bA (H1.o.2.2.1.keeps q (fun h=>h)) (bA (H1.o.2.2.2.1.keeps q (fun h=>h)) (H1.o.2.2.2.2.keeps q (fun h=>h))))));have d7:=J.o.2.2.2.1.lt;have b1:=J.o.2.2.2.2.lt;clear q qp c9 d0 d1 d2;go_wp2_with fail
 refine jbm [0,1,2,3,4,5,6,7,8,9,10,11,12] 13 [9,10] Ext (jac (fun z=>W3.heap.size<=z)) ExtR ExtT (fun x y z h k=>jac.trans h k) (fun x y h=>h.mono (fun _ _ h=>h.elim)) vY vY vY ?_;refine qZL ⟨w.heap.size,0,none⟩ (.pointer (some ⟨wb,0,none⟩)) rfl (fun w1 A=>jag (fun w=>by kernel_rfl) ((J.o.2.2.1.drew.keeps A vO).cell (i:=0) rfl)) ?_;refine vS ?_;refine qZL ⟨w.heap.size,0,none⟩ (.pointer (some ⟨wb,0,none⟩)) rfl (fun w1 A=>jag (fun w=>by kernel_rfl) ((J.o.2.2.1.drew.keeps A vO).cell (i:=0) rfl)) ?_;refine vS ?_;refine qZA _ (.pointer (some ⟨wb,0,none⟩)) rfl (fun w1=>by kernel_rfl) ?_;refine vS ?_
 refine vZ ?_
 refine qZL ⟨wb,6,none⟩ (.slice none 0 0) rfl (fun w1 A=>jag (fun w=>by kernel_rfl) ((J.o.2.1.drew.keeps A vO).cellL rfl)) ?_;refine vS ?_;iterate 2 refine vZ ?_
 refine qZL ⟨w.heap.size+1,2,none⟩ (.string n.value) rfl (fun w1 A=>jag (fun w=>by kernel_rfl) ((J.o.2.2.2.1.drew.keeps A vO).cellL rfl)) ?_;refine vS ?_
 refine vZ ?_
 refine jcb _ rfl vY rfl (fun wa ha K hK=>?_);have ka:Ext W3 wa:=(jak _).trans ha;have d8:=ka.size;refine jbk (v:=.slice (some ⟨wa.heap.size,0,none⟩) 1 1) (w':=wa.alloc (.cells #[.string key,.string n.value] 52)) vY (hK _ _ ((jac.refl _ wa).alloc _) ?_);have O:=jaN (news:=[.string key,.string n.value]) (Blk.new wa (.cells #[.string key,.string n.value] 52));have b2:Ext W3 (wa.alloc (.cells #[.string key,.string n.value] 52)):=ka.trans ((ExtR wa).alloc _);generalize wa.alloc (.cells #[.string key,.string n.value] 52)=w4 at O b2 ⊢;clear hK K ha ka;refine vS ?_;refine jcb _ rfl vY rfl (fun wc hc K hK=>?_);have b3:=b2.trans hc;have d9:=b3.size;refine jgI Tryz.sEnts (ORow.nil 52 2 b3) (.tmp 55) (.tmp 60) (news:=[.string key,.string n.value]) rfl rfl (fun j u hj=>by have:=O j u hj;rw[Addr.add_lit]at this ⊢;exact jaa this hc) (by intro u hu;simp at hu;rcases hu with rfl | rfl <;> rfl) rfl rfl (by unfold maxLen;omega) vO (fun v' w5 r1 r2 r3=>hK _ _ (r2.mono fun z _ e=>by cases e) ?_);have H5:=Hd (bA r1.ext r1.sl)
 obtain⟨a',c',rfl⟩:=r1.sl
 clear hK K hc r1 r2 r3 b3 b2 O;refine vS ?_;refine qZA _ (.pointer (some ⟨wb,0,none⟩)) rfl (fun w1=>by kernel_rfl) ?_;refine vS ?_
 refine vZ ?_
 refine jcI _ rfl vY rfl (fun wd hd K hK=>?_);have b4:=H5.o.1.trans hd;have a2:=J.o.2.1.keeps b4 (fun h=>h);have q6:wd.cell? ⟨wb,6,none⟩=some (.slice none 0 0):=a2.cellL rfl;have f6:wd.frozen? ⟨wb,6,none⟩=false:=a2.frozen;have H6:=Hd (bA b4 a2);clear hd b4 a2;go_simp;refine hK _ _ ?_;clear hK K q6 f6;have b8:Blk (wd.setCell ⟨wb,6,none⟩ (.slice a' 1 c')) wb (.cells (wkC fr to s mb nv 1 (.slice a' 1 c')).toArray 195):=by
  have:=H6.o.2.set_same (i:=6) (.slice a' 1 c')
  exact this
 have k7:=jac.oneSet wd ⟨wb,6,none⟩ (.slice a' 1 c');generalize wd.setCell ⟨wb,6,none⟩ (.slice a' 1 c')=w7 at b8 k7 ⊢;have X:jac (fun z=>z=wb) W3 w7:=(H6.o.1.mono fun _ _ e=>e.elim).trans k7;have b9:=J.o.2.2.1.keeps X (show ¬ w.heap.size=wb by omega);have b5:=J.o.2.2.2.1.keeps X (show ¬ w.heap.size+1=wb by omega);have c0:=J.o.2.2.2.2.keeps X (show ¬ w.heap.size+1+1=wb by omega);have H7:=Hd (bA (H1.o.1.trans ((J.o.1.mono fun _ _ e=>e.elim).trans X)) (bA b8 (bA b5 c0)));have qp:w7.cell? ⟨w.heap.size,0,none⟩=some (.pointer (some ⟨wb,0,none⟩)):=b9.cell (i:=0) rfl;clear k7 X b9 c0;go_wp2_with (refine jaf 206 (.tmp 4) rfl rfl _ _ rfl (jap _ _ n H b5) ?_)
 refine (jt5 w7 wb n).mono ?_;rintro e w8 ⟨rfl,a3,c1⟩;have c2:=H7.o.2.1.keeps a3 (fun h=>h);have c3:=H7.o.2.2.2.keeps a3 (fun h=>h);have H8:=Hd (bA (H7.o.1.trans (a3.mono fun _ _ e=>e.elim)) (bA c2 c3));have d5:=Hd (jpa (w7.heap.size+1) (w7.heap.size+1+1) w7.heap.size n HH.o.2.2.2.2.2)
 obtain⟨nb,c5⟩:=vE (w7.heap.size+1)
 have c7:=Hd (show Blk w8 nb (.cells n.cells.toArray 206) by rw[c5];exact c1);clear a3 c1 c2 c3 b5 qp;go_wp2_with fail
 refine (wpIn_wide (n:=0)).1 ?_;refine jdm rfl Tryz.enterBelow1 d5.o (fun k=>rfl) (fun _ W=>Ext w8 W/\Blk W (w7.heap.size+1) (.cells n.cells.toArray 206)) (fun _ _ _=>False) (fun _ W W' h e=>⟨h.1.trans e,h.2.keeps e (fun h=>h)⟩) (fun _ _ _ _ h _=>h) (fun _ W h=>h.2) (fun _ W o h=>?_) (fun _ _ _ _ h=>h) ⟨ExtR w8,by rw[<-c5];exact c7.o⟩ (fun _=>⟨#[],[]⟩) (fun _ k _ _ h=>absurd h (Nat.not_lt_zero k)) (fun _ k _ h=>absurd h (Nat.not_lt_zero k)) ?_ (fun _ _ _ _ _ h=>h.elim)
 ·have A:=c7.o.lt
  exact⟨h.1.putObj (.inr vO) _,h.2.put_other vO _⟩
 ·intro W hC hd
  have a4:=H8.o.2.2.keeps hC.1 (fun h=>h);have q9:W.cell? ⟨w.heap.size+1+1,0,none⟩=some .nilIface:=a4.cell (i:=0) rfl;have f9:W.frozen? ⟨w.heap.size+1+1,0,none⟩=false:=a4.frozen;have H9:=Hd (bA hC.1 (bA a4 hd));clear hC a4 hd;go_wp2_with fail
  have k3:=jac.oneSet W ⟨w.heap.size+1+1,0,none⟩ .nilIface;have b1:=H9.o.2.1.set_same (i:=0) .nilIface;have e1:=H8.o.2.2.lt;have c8:=H9.o.2.2.keeps k3 (show ¬ w8.heap.size=w.heap.size+1+1 by omega);generalize W.setCell ⟨w.heap.size+1+1,0,none⟩ .nilIface=W3 at k3 b1 c8 ⊢;have k4:jac (fun z=>z=w8.heap.size) W3 (W3.putObj w8.heap.size (.deferred none)):=jac.onePut _ _ _;have c4:(W3.putObj w8.heap.size (.deferred none)).cell? ⟨w.heap.size+1+1,0,none⟩=some .nilIface:=(b1.put_other vO _).cell (i:=0) (by simp)
  refine⟨by simp,.inl ⟨_,_,rfl,run_takeDeferred c8,?_⟩⟩
  refine⟨.nilIface,by simp[results,Tryz.results145,go_sem,c4],?_⟩
  have e2:=H8.o.1.size
  refine⟨rfl,?_,_,((H8.o.2.1.keeps H9.o.1 (fun h=>h)).keeps k3 (show ¬ wb=w.heap.size+1+1 by omega)).keeps k4 (show ¬ wb=w8.heap.size by omega)⟩
  exact ((H8.o.1.trans (H9.o.1.mono fun _ _ e=>e.elim)).trans' k3 fun z hz e=>by have e:z=w.heap.size+1+1:=e;omega).trans' k4 fun z hz e=>by have e:z=w8.heap.size:=e;omega
theorem jsg(v:vV):vR 47 #[.nilIface,v] w (.bool false):=by
 unfold vR vQ;go_in;go_wp2_with fail
 go_ret
 exact⟨rfl,ExtR w⟩
def WkE(n:jae)(t fr to key:vB):Prop:=(∃ d,jaW (InlD d) n)/\t=jaV n/\n.refs=List.replicate 16 ⟨#[]⟩/\n.value.toList.isEmpty=false/\n.path.size<=1000/\fr.size<=1000/\to.size<=1000/\Op.bytesLess n.path.toList (jaJ fr).toList=false/\Op.bytesLess n.path.toList (jaJ to).toList=true/\keyV n.path=.tuple #[.string key,.bool true]
theorem jvU(to root t key:vB)(n:jae)(hW:WkE n t fr to key)
  (hsg:∀ W,Ext w W->vR 89 #[.pointer (some ⟨s,0,none⟩),.string root] W (.tuple #[.string t,.bool true])) :
  vQ 101 #[.string root,.agg #[.string fr,.string to],.func (.func 89) #[.pointer (some ⟨s,0,none⟩)] #[]] w fun e w'=>Ext w w'/\∃ wb mb g c lk fv,e=.returned (.tuple #[.pointer (some ⟨wb,0,none⟩),.nilIface])/\Blk w' wb (.cells (wkC fr to s mb (.slice (some ⟨g,0,none⟩) 1 c) lk fv).toArray 195)/\RdS w' (.slice (some ⟨g,0,none⟩) 1 c) [t]:=by
 have HW:=Hd hW;have HS:=Hd hsg;have b1:=Tryz.makeMapSI
 obtain⟨⟨d,hg⟩,ht,hn,hv,J,hf,K,h1,h2,hk⟩:=hW
 have q:n.refs.length=16:=by rw[hn,gT]
 have HL:=Hd (n.cells_len q);clear hsg hg ht hn hv J hf K h1 h2 hk;go_enter Tryz.func101,Tryz.ntmps101;go_wp2_with fail
 have O:=(Blk.new (w.alloc (.cells #[.string fr,.string to] 110)) (.map #[] 0)).alloc (.cells (wkC fr to s (w.heap.size+1) (.slice none 0 0) 0 (.slice none 0 0)).toArray 195);have A:=Blk.new ((w.alloc (.cells #[.string fr,.string to] 110)).alloc (.map #[] 0)) (.cells (wkC fr to s (w.heap.size+1) (.slice none 0 0) 0 (.slice none 0 0)).toArray 195);have X:=(((ExtR w).alloc (.cells #[.string fr,.string to] 110)).alloc (.map #[] 0)).alloc (.cells (wkC fr to s (w.heap.size+1) (.slice none 0 0) 0 (.slice none 0 0)).toArray 195);simp only[bF]at O A;change Calls _ _ _ (((w.alloc (.cells #[.string fr,.string to] 110)).alloc (.map #[] 0)).alloc (.cells (wkC fr to s (w.heap.size+1) (.slice none 0 0) 0 (.slice none 0 0)).toArray 195)) _;generalize ((w.alloc (.cells #[.string fr,.string to] 110)).alloc (.map #[] 0)).alloc (.cells (wkC fr to s (w.heap.size+1) (.slice none 0 0) 0 (.slice none 0 0)).toArray 195)=w1 at O A X ⊢
 obtain⟨⟨d,hg⟩,ht,hn,hv,J,hf,K,h1,h2,hk⟩:=HW.o
 refine (jwE w1 (w.heap.size+1+1) (w.heap.size+1) s vO fr to root t d n hg ht A O (fun W e=>HS.o W (X.trans e))).mono ?_;rintro e w2 ⟨rfl,a0,g,c,a1,a2,a9⟩;have b2:=A.lt;have H2:=Hd (bA ((X.trans' a0 fun z hz e=>by rcases e with e | e <;> omega)) (bA a1 (bA a2 (show w.heap.size+1+1 < g by omega))));have b0:=Hd (fun(W:vW) (hB:Blk W (w.heap.size+1+1) _)=>joD W (w.heap.size+1+1) (w.heap.size+1) s (.slice (some ⟨g,0,none⟩) 1 c) rfl fr to key n hn hv J hf K h1 h2 hk hB);clear O A X hg ht hn hv J hf K h1 h2 hk a0 a1 a2 a9;unfold jae.V;go_wp2_with (first
  |(refine jah Tryz.allocNode rfl rfl ?_;intro W5 a3 a4;refine jad (vs:=n.cells) rfl rfl rfl rfl a3 (by rw[HL.o];rfl) (by rw[HL.o];exact Tryz.szNode) n.one ?_;intro W6 a5 a7)
  |(refine jaf 206 (.tmp 9) rfl rfl _ _ rfl (jap _ _ n q a5) ?_))
 have H:Ext w2 W6:=a4.trans' a7 (fun x hx e=>by have e:x=w2.heap.size:=e;omega);have H6:=Hd (bA (H2.o.1.trans H) (bA (H2.o.2.2.1.ext H) H.size));refine (b0.o W6 (H2.o.2.1.keeps H (fun h=>h))).mono ?_;rintro e w7 ⟨rfl,Z,fv,a8⟩;have H7:=Hd (bA (H6.o.1.trans' Z fun z hz e=>by have e:z=w.heap.size+1+1:=e;omega) (bA a8 (H6.o.2.1.keeps' Z (fun b hb e=>by have hb:some g=some b:=hb;have e:b=w.heap.size+1+1:=e;have:=H2.o.2.2.2;cases hb;omega))));clear H a3 a4 a5 a7 Z a8;go_wp2_with fail
 go_ret2
 exact⟨H7.o.1,_,_,g,c,1,fv,rfl,H7.o.2⟩
theorem jsw(to root t key:vB)(n:jae)(hW:WkE n t fr to key)(hft:Op.bytesLess fr.toList to.toList=true)
  (hsg:∀ W,Ext w W->vR 89 #[.pointer (some ⟨s,0,none⟩),.string root] W (.tuple #[.string t,.bool true])) :
  vQ 53 #[.pointer (some ⟨s,0,none⟩),.string root,.agg #[.string fr,.string to]] w fun e w'=>∃ g c,e=.returned (.tuple #[.slice (some ⟨g,0,none⟩) 1 c,.int .i64 0])/\Ext w w'/\RdS w' (.slice (some ⟨g,0,none⟩) 1 c) [t]:=by
 have HW:=Hd hW;have HS:=Hd hsg;have a1:∀ (fn:Fn) (first cap:Array vV) (w:vW),(Instr.makeFunc fn first cap).run Tryz.prog w=.ok (.func fn first cap) w:=fun _ _ _ _=>rfl;have H:=(ExtR w).alloc (.cells #[.string fr,.string to] 110);have J:=Blk.new w (.cells #[.string fr,.string to] 110);have H0:=Hd (bA H J);clear hW hsg H J;go_enter Tryz.func53,Tryz.ntmps53;go_wp2_with fail
 refine vC (HS.o _ H0.o.1) fun w1 q=>?_;have A:=H0.o.2.keeps q (fun h=>h);have q0:w1.cell? ⟨w.heap.size,0,none⟩=some (.string fr):=A.cell (i:=0) rfl;have q1:w1.cell? ⟨w.heap.size,1,none⟩=some (.string to):=A.cell (i:=1) rfl;have H1:=Hd (H0.o.1.trans q);clear q A;go_wp2_with fail
 refine (jvU w1 s fr to root t key n HW.o (fun W e=>HS.o W (H1.o.trans e))).mono ?_;rintro e w2 ⟨K,wb,mb,g,c,lk,fv,rfl,O,X⟩;have H2:=Hd (bA (H1.o.trans K) (bA O X));clear K O X;go_wp2_with fail
 refine vH (jsg _ _) fun w3 Z=>?_;have hE:=(ExtR w2).alloc (.cells #[.pointer none] 192);have H3:=Hd (hE.trans Z);have a0:=H2.o.2.1.keeps (hE.trans Z) (fun h=>h);have q4:w3.cell? ⟨wb,4,none⟩=some (.slice (some ⟨g,0,none⟩) 1 c):=a0.cellL rfl;clear hE a0;go_wp2_with fail
 go_ret2
 exact⟨g,c,rfl,H2.o.1.trans H3.o,H2.o.2.2.ext H3.o⟩
end
theorem jti(f:vV):vR 114 #[.slice none 0 0,f] w (.int .i64 (-1)):=by
 unfold vR vQ;go_in;go_wp2_with fail
 go_loopw [8] (fun i wr=>i=.int .i64 0/\Ext w wr) (fun i _=>1)
 case atStart=>exact⟨rfl,ExtR w⟩
 case round =>
  obtain⟨rfl,e⟩:=hrel
  have q:=Hd e;clear e;go_wp2_with fail
  go_ret
  exact⟨rfl,q.o⟩
theorem jm4(key:vB)(hq:w.cell? ⟨cb,1,none⟩=some (.slice none 0 0)):vR 69 #[.pointer (some ⟨cb,0,none⟩),.string key] w (.int .i64 (-1)):=by
 have A:∀ (fn:Fn) (first cap:Array vV) (w:vW),(Instr.makeFunc fn first cap).run Tryz.prog w=.ok (.func fn first cap) w:=fun _ _ _ _=>rfl;have e:=(ExtR w).alloc (.cells #[.string key] 9);have K:=jaa hq e;have q:=Hd e;clear hq e;unfold vR vQ;go_in;go_wp2_with fail
 refine vH (jti _ _) fun w1 H=>?_;have J:=Hd (q.o.trans H);go_wp2_with fail
 go_ret
 exact⟨rfl,J.o⟩
theorem jkg{w:vW}{a:Act}{ty:TypeId}(hl:(Instr.lookup 124 m (.string key) false).run Tryz.prog w=.ok v w)(hx:a.eval x=m:=by rfl)(hy:a.eval y=.string key:=by rfl):(execOp a.eval ⟨d,.lookup 124 x y false,ty,pos,af,g⟩).run Tryz.prog w=.ok (.value v) w:=by
 simp only[execOp,hx,hy,bK,hl,Result.andThen,cP]
def Cac1(W:vW)(cb mb:Nat)(key:vB):Prop:=Blk W cb (.cells #[.int .i64 4,.slice none 0 0,.map (some mb),.int .i64 1] 127)/\Blk W mb (.map (Tryz.ES.arr [(key.data.toList,.int .i64 1,0)]) 1)
theorem jvj(hne:cb≠mb)(h:jfX w cb mb 4)(key:vB) :
  vQ 35 #[.pointer (some ⟨cb,0,none⟩),.string key] w fun e w'=>e=.returned (.tuple #[.string ⟨#[]⟩,.bool false])/\jac (fun z=>z=cb\/z=mb) w w'/\Cac1 w' cb mb key:=by
 have H:=Hd h;have q0:=h.1.cell (i:=0) (v:=.int .i64 4) vF;clear h;go_enter Tryz.func35,Tryz.ntmps35;go_wp2_with fail
 refine jbm [0,1,2,3,4,5,6,7,8,9,10,11,12] 13 [] Ext Ext ExtR ExtT ExtT (fun x y h=>h) vY vY vY ?_
 refine vZ ?_
 refine qZA _ (.pointer (some ⟨cb,0,none⟩)) rfl (fun w1=>by kernel_rfl) ?_;refine vS ?_
 refine vZ ?_
 refine qZL ⟨cb,2,none⟩ (.map (some mb)) rfl (fun w1 X=>jag (fun w=>by kernel_rfl) ((H.o.1.drew.keeps X (fun h=>h)).cell (i:=2) rfl)) ?_;refine vS ?_;iterate 2 refine vZ ?_
 refine qZA _ (.pointer (some ⟨cb,0,none⟩)) rfl (fun w1=>by kernel_rfl) ?_;refine vS ?_
 refine vZ ?_
 refine qZL ⟨cb,2,none⟩ (.map (some mb)) rfl (fun w1 X=>jag (fun w=>by kernel_rfl) ((H.o.1.drew.keeps X (fun h=>h)).cell (i:=2) rfl)) ?_;refine vS ?_
 refine vZ ?_
 refine jmZ _ (.int .i64 0) rfl vY vY rfl (fun w3 h3=>by
  have:=jbQ Tryz.ES Tryz.uMapSI (H.o.2.drew.keeps h3 (fun h=>h)) (Tryz.zeroI w3) key.data.toList false
  exact jkg this) ?_
 refine vS ?_
 refine vZ ?_
 refine qZA _ (.int .i64 1) rfl (fun w1=>by kernel_rfl) ?_;refine vS ?_;refine jcI _ rfl vY rfl (fun wc hc K hK=>?_);have kc:Ext w wc:=(jak _).trans hc;have Z:=H.o.2.keeps kc (fun h=>h)
 obtain⟨W2,A⟩:=vE (wc.putObj mb (.map (Tryz.ES.arr [(key.data.toList,.int .i64 1,0)]) 1))
 have a3:(Instr.mapUpdate 124 (.map (some mb)) (.string key) (.int .i64 1)).run Tryz.prog wc=.ok () W2:=by
  have:=jbj Tryz.ES Tryz.uMapSI Z key.data.toList (.int .i64 1)
  rw[A];exact this
 have a1:Blk W2 mb (.map (Tryz.ES.arr [(key.data.toList,.int .i64 1,0)]) 1):=by rw[A];exact Z.put_same _
 have K2:jac (fun z=>z=mb) wc W2:=by rw[A];exact jac.onePut _ _ _
 have J:=(H.o.1.keeps kc (fun h=>h)).keeps K2 hne;have H2:=Hd (bA a1 (bA ((kc.mono (G:=fun z=>z=mb) fun _ _ e=>e.elim).trans K2) J));clear A a1 K2 Z kc hc;go_simp;refine hK _ _ ?_;clear hK K a3;have q3:W2.cell? ⟨cb,3,none⟩=some (.int .i64 0):=J.cell (i:=3) rfl;have f3:W2.frozen? ⟨cb,3,none⟩=false:=J.frozen;clear J;go_wp2_with fail
 have q:=H2.o.2.2.set_same (i:=3) (.int .i64 1);have k3:=jac.oneSet W2 ⟨cb,3,none⟩ (.int .i64 1);have a0:=H2.o.1.keeps k3 (fun e=>hne e.symm);generalize W2.setCell ⟨cb,3,none⟩ (.int .i64 1)=w3 at q k3 a0 ⊢;refine jaj [0,1,2,3,4,5,6,7,8,9] Ext ExtR ExtT vY vY vY ?_
 refine vK ?_
 refine qKV _ (.pointer (some ⟨cb,0,none⟩)) rfl (fun w1 _=>by kernel_rfl) ?_;refine vS ?_
 refine vK ?_
 refine qKL ⟨cb,3,none⟩ (.int .i64 1) rfl (fun w1 X=>jag (fun w=>by kernel_rfl) ((q.drew.keeps X (fun h=>h)).cell (i:=3) rfl)) ?_;refine vS ?_
 refine vK ?_
 refine qKV _ (.pointer (some ⟨cb,0,none⟩)) rfl (fun w1 _=>by kernel_rfl) ?_;refine vS ?_
 refine vK ?_
 refine qKL ⟨cb,0,none⟩ (.int .i64 4) rfl (fun w1 X=>jag (fun w=>by kernel_rfl) ((q.drew.keeps X (fun h=>h)).cell (i:=0) rfl)) ?_;refine vS ?_;iterate 2 refine vK ?_
 refine qKE (fun w4 h4=>?_);have O:Ext w3 w4:=(jak _).trans h4;have a2:=q.keeps O (fun h=>h);have H4:=Hd (bA ((H2.o.2.1.mono (G:=fun z=>z=cb\/z=mb) fun z _ e=>.inr e).trans ((k3.mono fun z _ e=>.inl e).trans (O.mono fun _ _ e=>e.elim))) (bA a2 (a0.keeps O (fun h=>h))));clear h4 O q k3 a0 a2 q3 f3;go_wp2_with fail
 refine vC (jm4 w4 cb key (H4.o.2.1.cell (i:=1) rfl)) fun w5 hE=>?_;have H5:=Hd (bA (H4.o.1.trans (hE.mono fun _ _ e=>e.elim)) (bA (H4.o.2.1.keeps hE (fun h=>h)) (H4.o.2.2.keeps hE (fun h=>h))));clear hE;go_wp2_with fail
 go_ret2
 exact⟨rfl,H5.o.1,H5.o.2⟩
theorem Tryz.szThing:(Tryz.prog.info? 145).map (·.size)=some 2:=vY
theorem Tryz.allocThing:(Instr.alloc 145 true (.tuple #[])).run Tryz.prog w=.ok (.pointer (some ⟨w.heap.size,0,none⟩)) (w.alloc (.cells [Value.string ⟨#[]⟩,.string ⟨#[]⟩].toArray 145)):=vY
theorem Tryz.uThings:Tryz.prog.underlying 125=some (.slice 145):=vY
theorem jh5(dT sT ty elem:TypeId)(d a:Option Addr)(dLen dCap sLen sCap:Nat)(hu:P.underlying dT=some (.slice elem))(hs:(P.info? elem).map (·.size)=some sz)(hn:Nat.min sLen dLen=0:=by rfl) :
  (Builtin.copy_ #[dT,sT] ty #[.slice d dLen dCap,.slice a sLen sCap]).run P w=.ok (goInt 0) w:=by
 cases hq:P.info? elem with
 | none=>simp[hq]at hs
 | some i =>
  have e:∀ (x:Addr),(loadCells x 0).run P w=.ok #[] w:=fun x=>by simpa using run_loadCells_list (P:=P) w x [] (by simp)
  cases d <;> cases a <;> simp[Builtin.copy_,run_underlying hu,Builtin.lenOf,Builtin.firstCells,sizeOf,typeInfo,hq,hn,storeCells,e]
theorem jn0{w:vW}{a:Act}{dT sT ty:TypeId}(hx:a.eval x=v1)(hy:a.eval y=v2)(hr:(Builtin.copy_ #[dT,sT] ty #[v1,v2]).run P w=.ok v w):(execOp a.eval ⟨d,.call { callee:=.builtin .copy,args:=#[x,y],argTypes:=#[dT,sT] },ty,pos,af,g⟩).run P w=.ok (.value v) w:=by
 simp[execOp,hx,hy,hr,resolve,invoke,builtin,bK,Result.andThen]
theorem Tryz.isThing:jb2 (Tryz.prog.underlying 145)=true:=vY
theorem jh7(vs:List vV)(hl:vs.length=2){T:TypeId}(hB:Blk W b (.cells vs.toArray T fz)):(Instr.loadAt 145 (.pointer (some ⟨b,0,none⟩))).run Tryz.prog W=.ok (.agg vs.toArray) W:=by
 obtain⟨A,e⟩:=jbv Tryz.isThing
 exact ja2 e (by rw[hl];exact Tryz.szThing) (fun j v q=>by rw[Go.WideShapes.add_plain,bT];exact hB.cellL q)
def Cac2(W:vW)(cb mb tg c:Nat)(key val:vB):Prop:=Blk W cb (.cells #[.int .i64 4,.slice (some ⟨tg,0,none⟩) 1 c,.map (some mb),.int .i64 1] 127)/\1<=c/\∃ rest,Blk W tg (.cells ([.string key,.string val]++rest).toArray 145)
theorem js6(c:Nat)(hne:cb≠tg)(key v0 val:vB)(h:Cac2 w cb mb tg c key v0) :
  vQ 70 #[.pointer (some ⟨cb,0,none⟩),.int .i64 0,.string val] w fun e w'=>e=.returned (.tuple #[])/\jac (fun z=>z=tg) w w'/\Cac2 w' cb mb tg c key val:=by
 obtain⟨J,O,Z,ht⟩:=h
 have q1:w.cell? ⟨cb,1,none⟩=some (.slice (some ⟨tg,0,none⟩) 1 c):=J.cell (i:=1) rfl;have t0:w.cell? ⟨tg,0,none⟩=some (.string key):=ht.cellL rfl;have H:=Hd (bA J ht);clear J ht;go_enter Tryz.func70,Tryz.ntmps70;go_wp2_with (first |(refine jah Tryz.allocThing rfl rfl ?_;intro W2 a1 a2) |(refine jad (vs:=[.string key,.string val]) rfl rfl rfl rfl a1 rfl Tryz.szThing (by simp[Value.oneCell']) ?_;intro W3 a3 a4))
 have hE:Ext w W3:=a2.trans' a4 fun x hx e=>by have e:x=w.heap.size:=e;omega
 have H3:=Hd (bA hE (bA a3 (bA (H.o.1.keeps hE (fun h=>h)) (H.o.2.keeps hE (fun h=>h)))));clear hE a1 a2 a3 a4 q1 t0;refine vS ?_;have c1:(1:Int)<=(c:Int):=vO
 refine jaj [0,1,2,3,4,5,6,7,8,9,10,11,12,13] Ext ExtR ExtT vY vY vY ?_
 refine vK ?_
 refine qKV _ (.pointer (some ⟨cb,0,none⟩)) rfl (fun w1 _=>by kernel_rfl) ?_;refine vS ?_
 refine vK ?_
 refine qKL ⟨cb,1,none⟩ (.slice (some ⟨tg,0,none⟩) 1 c) rfl (fun w1 O=>jag (fun w=>by kernel_rfl) ((H3.o.2.2.1.drew.keeps O (fun h=>h)).cell (i:=1) rfl)) ?_;refine vS ?_;iterate 2 refine vK ?_
 refine vK ?_
 generalize (if c=1 then some (⟨tg,0,none⟩:Addr)else some ⟨tg,2,none⟩)=ad
 refine vK ?_
 refine qKV _ (.pointer (some ⟨cb,0,none⟩)) rfl (fun w1 _=>by kernel_rfl) ?_;refine vS ?_
 refine vK ?_
 refine qKL ⟨cb,1,none⟩ (.slice (some ⟨tg,0,none⟩) 1 c) rfl (fun w1 O=>jag (fun w=>by kernel_rfl) ((H3.o.2.2.1.drew.keeps O (fun h=>h)).cell (i:=1) rfl)) ?_;refine vS ?_;iterate 2 refine vK ?_
 refine qKV _ (.int .i64 0) rfl (fun w1 _=>jn0 rfl rfl (jh5 (P:=Tryz.prog) w1 125 125 3 145 ad (some ⟨tg,0,none⟩) 0 (c - 1) 0 c Tryz.uThings Tryz.szThing)) ?_;refine vS ?_;refine qKE (fun w4 h4=>?_);have q:Ext W3 w4:=(jak _).trans h4;have a5:=H3.o.2.1.keeps q (fun h=>h);have a7:=H3.o.2.2.1.keeps q (fun h=>h);have a0:=H3.o.2.2.2.keeps q (fun h=>h);have a8:=a0.lt;have a9:=H.o.2.lt;have H4:=Hd (bA (H3.o.1.trans q) (bA a5 (bA a7 a0)));clear h4 q a5 a7 a0 a8;go_wp2_with fail
 refine jau [0,1,2,3,4,5,6] [6] Ext (jac (fun z=>z=tg)) ExtR ExtT (fun x y z h k=>jac.trans h k) (fun x y h=>h.mono (fun _ _ h=>h.elim)) vY vY vY ?_
 refine vD ?_
 refine qDV _ (.pointer (some ⟨cb,0,none⟩)) rfl (fun w1 _=>by kernel_rfl) ?_;refine vS ?_
 refine vD ?_
 refine qDL ⟨cb,1,none⟩ (.slice (some ⟨tg,0,none⟩) 1 c) rfl (fun w1 O=>jag (fun w=>by kernel_rfl) ((H4.o.2.2.1.drew.keeps O hne).cell (i:=1) rfl)) ?_;refine vS ?_;refine qDL ⟨w.heap.size,0,none⟩ (.agg #[.string key,.string val]) rfl (fun w1 O=>jh7 w1 w.heap.size [.string key,.string val] rfl (H4.o.2.1.drew.keeps O vO)) ?_;refine vS ?_
 refine vD ?_
 refine qDH _ rfl (fun wc J K hK=>?_);refine jlV (old:=[.string key,.string v0]++Z) (vs:=[.string key,.string val]) rfl rfl rfl ((H4.o.2.2.2.drew).keeps J (fun h=>h)) (by simp) Tryz.szThing (by simp[Value.oneCell']) (fun W5 X A=>hK _ _ A ?_);have H5:=Hd (bA J (bA X A));clear hK K J X A;refine vS ?_;refine qDE (fun w6 h6=>?_);refine bodyPost_end (results_none rfl _ _ _) rfl ?_
 obtain⟨J,X,A⟩:=H5.o
 have k6:jac (fun z=>z=tg) w4 w6:=(((jak _).trans J).mono (fun _ _ e=>e.elim)).trans (A.trans (h6.mono fun _ _ e=>e.elim))
 exact⟨rfl,(H4.o.1.mono fun _ _ e=>e.elim).trans k6,H4.o.2.2.1.keeps k6 hne,O,Z,by simpa using X.keeps h6 (fun h=>h)⟩
theorem Tryz.sThings:jcw Tryz.prog 125 145 2 32:=jcw.mk' Tryz.uThings (show (Tryz.prog.info? 145).map (fun i=>(i.zero,i.size,i.bytes))=some (some (.agg #[.string ⟨#[]⟩,.string ⟨#[]⟩]),2,32) by kernel_rfl) rfl vI
theorem jpG(hne:cb≠mb)(key val:vB)(h:Cac1 w cb mb key) :
  vQ 37 #[.pointer (some ⟨cb,0,none⟩),.string key,.string val] w fun e w'=>e=.returned (.bool true)/\jac (fun z=>z=cb) w w'/\∃ A c,Cac2 w' cb mb A c key val/\w.heap.size<=A:=by
 have H:=Hd h;have q0:=h.1.cell (i:=0) (v:=.int .i64 4) vF;have b1:=h.1.lt;clear h;go_enter Tryz.func37,Tryz.ntmps37;go_wp2_with fail
 refine vC (jm4 w cb key (H.o.1.cell (i:=1) rfl)) fun w1 hE=>?_;have X:=H.o.1.keeps hE (fun h=>h);have q1:=X.cell (i:=1) (v:=.slice none 0 0) vF;have H1:=Hd (bA hE X);clear hE X;go_wp2_with fail
 refine jaj [0,1,2,3,4,5,6,7,8,9,10] Ext ExtR ExtT vY vY vY ?_
 refine vK ?_
 refine qKV _ (.pointer (some ⟨cb,0,none⟩)) rfl (fun w1 _=>by kernel_rfl) ?_;refine vS ?_
 refine vK ?_
 refine qKL ⟨cb,1,none⟩ (.slice none 0 0) rfl (fun w2 h1=>jag (fun w=>by kernel_rfl) ((H1.o.2.drew.keeps h1 (fun h=>h)).cell (i:=1) rfl)) ?_;refine vS ?_;refine qKV _ (.int .i64 0) rfl (fun w1 _=>by kernel_rfl) ?_;refine vS ?_
 refine vK ?_
 refine qKV _ (.pointer (some ⟨cb,0,none⟩)) rfl (fun w1 _=>by kernel_rfl) ?_;refine vS ?_
 refine vK ?_
 refine qKL ⟨cb,0,none⟩ (.int .i64 4) rfl (fun w2 h1=>jag (fun w=>by kernel_rfl) ((H1.o.2.drew.keeps h1 (fun h=>h)).cell (i:=0) rfl)) ?_;refine vS ?_;iterate 2 refine vK ?_
 refine qKE (fun w2 h2=>?_);have J:Ext w w2:=H1.o.1.trans ((jak _).trans h2);have Z:=H.o.1.keeps J (fun h=>h);have b2:=Z.cell (i:=1) (v:=.slice none 0 0) vF;have H2:=Hd (bA J (bA Z (H.o.2.keeps J (fun h=>h))));clear h2 J Z q1;go_wp2_with (at_builtin;go_loud (refine ja0 Tryz.sThings (ORow.nil 145 2 ((ExtR w2).alloc (.cells #[.string key,.string ⟨#[]⟩] 145))) (.tmp 45) (.tmp 48) rfl rfl rfl (jaN (Blk.new w2 _)) (news:=[.string key,.string ⟨#[]⟩]) (by intro u hu;simp at hu;rcases hu with rfl | rfl <;> rfl) rfl rfl (by unfold maxLen;omega) vO (fun v5 w5 K r2 r3=>?_));obtain⟨a5,c5,rfl⟩:=K.sl;have q:=H2.o.2.1.keeps K.ext (fun h=>h);have q5:=q.cell (i:=1) (v:=.slice none 0 0) vF;have f5:w5.frozen? ⟨cb,1,none⟩=false:=q.frozen;have H5:=Hd (bA K q);clear K r2 r3 q)
 obtain⟨K,q⟩:=H5.o
 have a0:=q.set_same (i:=1) (.slice a5 (0+1) c5);have k6:=jac.oneSet w5 ⟨cb,1,none⟩ (.slice a5 (0+1) c5)
 obtain⟨_,⟨e,_⟩ |⟨A,b3,a1,e,_,a2,a9,_,b0,a3⟩⟩:=K.own
 ·cases e
 cases e;have b4:w2.heap.size<=A:=K.new A rfl;have b5:=H2.o.1.size;have a4:cb≠A:=vO
 have O:Blk w5 A (.cells (([.string key,.string ⟨#[]⟩]:List vV)++a1.toList.drop 2).toArray 145):=by
  have h2:a1.toList.take 2=[Value.string key,.string ⟨#[]⟩]:=a3;rw[<-h2,dJ];show w5.heap[A]?=_;simpa using a2
 have a7:Cac2 (w5.setCell ⟨cb,1,none⟩ (.slice (some ⟨A,0,none⟩) (0+1) c5)) cb mb A c5 key ⟨#[]⟩:=⟨by simpa using a0,a9,_,O.keeps k6 (fun e=>a4 e.symm)⟩;refine (js6 _ cb mb A c5 a4 key ⟨#[]⟩ val a7).mono ?_;rintro e w7 ⟨rfl,a8,h7⟩;have H7:=Hd (bA ((((H2.o.1.trans K.ext).mono (G:=fun z=>z=cb) fun _ _ e=>e.elim).trans k6).trans' a8 fun z hz e=>by have e:z=A:=e;omega) (bA h7 (show w.heap.size<=A by omega)));clear a8 h7 a7 O a2 a0 k6 q K q5 f5 b0 a3;go_wp2_with fail
 go_ret
 exact⟨rfl,H7.o.1,A,c5,H7.o.2⟩
def CkR(w:vW)(kv iv:vV)(wr:vW):Prop:=∃ i:Nat,i<=1/\iv=.int .i64 i/\∃ xs,ORow 9 1 w wr kv i xs
theorem jsA(c:Nat)(key val:vB)(h:Cac2 w cb mb tg c key val) :
  vQ 57 #[.pointer (some ⟨cb,0,none⟩)] w fun e w'=>∃ a c,e=.returned (.slice a 1 c)/\Ext w w':=by
 obtain⟨hc,h1,a2,ht⟩:=h
 have q1:w.cell? ⟨cb,1,none⟩=some (.slice (some ⟨tg,0,none⟩) 1 c):=hc.cell (i:=1) rfl;have H:=Hd (bA hc ht)
 obtain⟨i0,hi,K,O,X⟩:=info_parts Tryz.infoS1
 obtain⟨w2,q,A,J⟩:=run_make_own (P:=Tryz.prog) (w:=w) w.heap.size 34 9 i0 _ 1 Tryz.sStrs.ht hi K O .i64 .i64 1 (by rw[X];decide) (by unfold maxLen;omega) (bL _)
 have k2:Ext w w2:=jac.of_grown J (fun _ e=>by cases e);have Z:=ORow.made w A J;have a4:=jaa q1 k2;have a3:(Instr.makeSlice 34 (.int .i64 0) (.int .i64 1)).run Tryz.prog w=.ok (.slice (some ⟨w.heap.size,0,none⟩) 0 1) w2:=q;have a0:=Hd Z;clear q hc ht A J hi K O X Z k2;go_enter Tryz.func57,Tryz.ntmps57;go_wp2_with fail
 go_loopw [3,17] (fun kv iv wr=>CkR w kv iv wr) (fun _ iv _=>1 - (intOf iv).toNat)
 case atStart=>exact⟨0,by decide,rfl,_,a0.o⟩
 case round =>
  obtain⟨i,hi,rfl,xs,hR⟩:=hrel
  have HR:=Hd hR
  obtain⟨ak,ck,rfl⟩:=hR.sl
  have hE:=hR.ext;have t0:wr.cell? ⟨tg,0,none⟩=some (.string key):=(H.o.2.keeps hE (fun h=>h)).cellL rfl;have t1:wr.cell? ⟨tg,1,none⟩=some (.string val):=(H.o.2.keeps hE (fun h=>h)).cellL rfl;clear hR hE
  by_cases hlt:i < 1
  ·obtain rfl:i=0:=vO
   clear hi;go_wp2_with (at_builtin;go_loud (refine ja0 Tryz.sStrs (HR.o.mono (((ExtR wr).alloc _).alloc _)) (.tmp 21) (.tmp 24) rfl rfl rfl (by have:=jg3 (wr.alloc (.cells #[.string key,.string val] 145)) 9 [.string key];rw[bF]at this;exact this) (news:=[.string key]) (by intro u hu;simp at hu;rw[hu];rfl) rfl rfl (by unfold maxLen;omega) vO (fun v5 w5 r1 r2 r3=>?_));obtain⟨a5,c5,rfl⟩:=r1.sl;have a1:=Hd r1;clear r1 r2 r3)
   go_roundw
   case rel=>exact⟨1,by decide,by go_num,_,a1.o⟩
   case measure=>simp[intOf]
  ·obtain rfl:i=1:=vO
   go_wp2_with fail
   go_ret
   exact⟨ak,ck,rfl,HR.o.ext⟩
