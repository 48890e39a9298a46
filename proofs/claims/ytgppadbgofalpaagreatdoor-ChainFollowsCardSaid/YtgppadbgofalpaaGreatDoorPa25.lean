/- Lemmas. -/
import Derived.Test.YtgppadbgofalpaaGreatDoorPa0
import Derived.Test.YtgppadbgofalpaaGreatDoorPa24
namespace Go.Proofs.YtgppadbgofalpaaGreatDoor
open Tryz
set_option linter.unusedSimpArgs false
set_option linter.unusedVariables false
set_option maxRecDepth 100000
set_option maxHeartbeats 16000000
variable (o:Option vB)(args:Array vV)(W w:vW)(D:Nat->Prop)(b wb z cb mb tg s:Nat)(p fr:vB)(vs:List vV){af:Array Edge}{tmps:Array vV}{F:Bf}{e:Ending}{Q:Exit->Act->vW->Prop}{fn:Func}{room x k room' bk:Int}{es es':List (Ce Int)}{cs:List Bk}{M:Cn}{ck bm f g1 u sz i sb c rm:Nat}{q fz:Nat × Nat}{g:Option (Nat × Bool)}{a a6:Option Addr}{d:Option Tmp}{P:Program}{pos:String}{n:Ai}{r t root key:vB}{l m:vL}{L U T xs:vM}{S S1 S' G:vT}{v ev v1 v2:vV}{w0 w' w1 W':vW}
section
open Go Go.RowKit
def DY(es:List (Ce Int))(M:Cn):vB:=match Dr es ((Hw M).block:Int)with|some (.string r)=>r|_=>⟨#[]⟩
def Tf(b rm bm:Nat)(S:vT):Bf:=fun z=>z=b\/z=rm\/z=bm\/z∈S.map (·.2.1)
def Rk(es:List (Ce Int))(M:Cn)(t:vB)(ck:Nat):List (Ce Int):=es++[((M.next:Int),.string t,ck)]
def XG(w0 w:vW)(b:Nat)(M:Cn)(cs:List Bk)(I:vW->Prop)(rm sb cb:Nat)(es:List (Ce Int))(ck bm:Nat)(room:Int)(S:vT)(n:Nat)(N:Int->Prop)(R:vB->vT->Prop)(e:Ending)(w':vW):Prop:=
 (∃ k:Int,k≠0/\((Gu M cs).2.2=k\/(Gu M cs).2.2=0/\N k)/\e=.returned (.tuple #[.int .i64 0,.int .i64 k])/\I w'/\Ad (fun z=>z=b) w w') \/
 ((Gu M cs).2.2=0/\∃ t S1 S' D' a' c',R t S1/\e=.returned (.tuple #[.int .i64 (M.next:Int),.int .i64 0])/\Hz w0 D' w' b (Gu M cs).1 a' c' rm sb cb ((Rk es M t ck).filter fun x=>Bx (Gu M cs).1.all x.1) (ck+1) bm room S' (n+1000)/\Ad (Tf b rm bm S) w w'/\(∀ x∈S',x.2.1∈S.map (·.2.1)\/w.heap.size<=x.2.1)/\((∀ x∈Rk es M t ck,Bx (Gu M cs).1.all x.1=true)->S'=S1)/\(∀ z,D' z->w.heap.size<=z)/\Tp (Gu M cs).1.all (Rk es M t ck) S1 ((Rk es M t ck).filter fun x=>Bx (Gu M cs).1.all x.1) S')
theorem Q_(h:∀ x∈es,∃ r,x.2.1=.string r):(Dr es ((Hw M).block:Int)).getD (.string ⟨#[]⟩)=.string (DY es M):=by
 unfold DY;cases e:Dr es ((Hw M).block:Int)with
 |none=>rfl
 |some v =>(have:∃ r,v=.string r:=by unfold Dr at e;rw[dG]at e;obtain⟨x,q,rfl⟩:=e;exact h x (List.mem_of_find?_eq_some q));obtain⟨r,rfl⟩:=this;rfl
theorem Lh:(callFunc 37 args).run prog w=.ok (.enter 37 args) w:=vY
theorem l_:(Gu M cs).2.2=0->(Gu M cs).2.1=M.next:=by
 unfold Gu;split
 ·rename_i h;exact fun e=>absurd e h
 ·split;{exact fun e=>absurd (show (12:Int)=0 from e) vI};exact fun _=>rfl
theorem UJ{w:vW}{r:Nat}{x:Array vV}{T:TypeId}(h:Ae w r (.cells x T q))(hT:T≠9):Qa w (fun z=>z=r):=fun z A q e hb=>by
 have e:z=r:=e;subst e
 have:=h.uniq hb
 injection this with _ e _;exact hT e
theorem TR{w:vW}{r:Nat}{x:Array MapEntry}(h:Ae w r (.map x ck)):Qa w (fun z=>z=r):=fun z q A e hb=>by
 have e:z=r:=e;subst e
 have:=h.uniq hb
 cases this
theorem ZR:(Gu M cs).1.all.length<=M.all.length+1:=by
 unfold Gu;split
 ·exact Nat.le_succ _
 ·split;{exact Nat.le_succ _};refine bF AL.length_le ?_;rw[bK];exact bP _
theorem W_(h:k ∉ es.map (·.1)):Dr es k=none:=by
 unfold Dr;rw[Option.map_eq_none_iff,List.find?_eq_none];intro x q;simp only[decide_eq_true_eq];exact fun e=>h (bC.2 ⟨x,q,e.symm⟩)
theorem ZX{k:Int}{v:vV}{n:Nat}:∀ {es:List (Ce Int)},k ∉ es.map (·.1)->Iy es k v n=es++[(k,v,n)]
 |[],_=>rfl
 |x::r,h=>by
  have q:¬ k=x.1:=fun e=>h (by simp[e]);have A:k ∉ r.map (·.1):=fun e=>h (by simp only[bN,bT];exact .inr e);unfold Iy;rw[if_neg q,ZX A];rfl
theorem UI{W:vW}{D:Nat->Prop}{b:Nat}{cb:Nat}{n:Nat}(h:Hz w0 D W b M a c rm sb cb es ck bm room S n)(hall:∀ x∈es,Bx M.all x.1=true):(M.next:Int) ∉ es.map (·.1):=fun e=>by
 obtain⟨x,q,e⟩:=bC.1 e
 obtain⟨i,A⟩:=cX.1 (hall x q)
 obtain⟨v,H,hb⟩:=JB A
 have:=h.ok.less v (bD H)
 omega
theorem Hz.more{w W:vW}{D E:Nat->Prop}{b:Nat}{c6 cb:Nat}{n:Nat}(h:Hz w0 D w b M a c rm sb cb es ck bm room S n)(hall:∀ x∈es,Bx M.all x.1=true)(cs:List Bk)(t:vB)
  (hB:Ae W b (.cells (([.int .i64 ((Gu M cs).1.win:Int),.int .i64 ((Gu M cs).1.next:Int),.slice a6 (Gu M cs).1.all.length c6]:List vV)++(Qw M a c rm sb cb).drop 3).toArray 78))
  (hv:Cz E W (.slice a6 (Gu M cs).1.all.length c6) (Gu M cs).1.all) (hE:∀ z,E z->w.heap.size<=z/\z<g1) (hg:g1<=W.heap.size) (hg0:w.heap.size<=g1)
  (hm:Ae W rm (.map (EB.arr (Rk es M t ck)) (ck+1))) (hs:Kf w0 sb bm room S1 W (n+1000)) (hS1:∀ x∈S1,x.2.1∈S.map (·.2.1)\/g1<=x.2.1):Hz w0 E W b (Gu M cs).1 a6 c6 rm sb cb (Rk es M t ck) (ck+1) bm room S1 (n+1000):=by
 obtain⟨l1,l2,l3,l4,X⟩:=h.lt'
 have K:=UI h hall
 refine⟨⟨hB,hv,hm⟩,hs,fun z H=>?_,h.rb,fun e=>?_,fun z H=>?_,jrT h.ok cs,?_,?_,fun x q=>?_,fun x q=>?_⟩
 ·have A:∀ z,z≠bm/\z≠sb/\z ∉ S.map (·.2.1)->z<g1->z≠bm/\z≠sb/\z ∉ S1.map (·.2.1):=fun z O h2=>⟨O.1,O.2.1,fun e=>by obtain⟨x,q,e⟩:=bC.1 e;rcases hS1 x q with h3|h3;{exact O.2.2 (by rw[<-e];exact h3)};omega⟩;rcases H with H|H|H;{exact A z (h.sep z (.inl H)) vO};{exact A z (h.sep z (.inr (.inl H))) vO};have:=hE z H;exact A z ⟨by omega,by omega,fun e=>by have:=X z e;omega⟩ vO
 ·have:=hE b e;omega
 ·have:=hE z H;omega
 ·unfold Rk;rw[bW,dS];refine⟨h.st,by simp,fun x q y J=>?_⟩;obtain⟨u,Z,rfl⟩:=bC.1 q;have:=h.lt u Z;(have J:y=ck:=by simpa using J);omega
 ·unfold Rk;rw[bW,dS];refine⟨h.kn,by simp,fun x q y J=>?_⟩;(have J:y=(M.next:Int):=by simpa using J);rw[J];exact fun e=>K (by rw[<-e];exact q)
 ·rcases bR.1 q with q|q;{have:=h.lt x q;omega};rw[bL.1 q];exact Nat.lt_succ_self ck
 ·rcases bR.1 q with q|q;{exact h.val x q};rw[bL.1 q];exact⟨t,rfl⟩
theorem ZO(w0:vW)(D:Nat->Prop)(b:Nat)(M:Cn)(a:Option Addr)(c rm sb cb:Nat)(es:List (Ce Int))(ck bm:Nat)(room:Int)(S:vT)(n:Nat)(h:Hz w0 D w b M a c rm sb cb es ck bm room S n)(hn:n<=19000)(hl:M.all.length<=900)(d2:∀ x∈es,Bx M.all x.1=true)(u:vV)(cs:List Bk)(hu:Jb w u cs)(hnc:cs.length<=1000)(hsc:∀ c∈cs,c.key.size<=1000/\c.value.size<=1000)(N:Int->Prop)(R:vB->vT->Prop)(hT:∀ W,Ad (fun z=>z=b) w W->Kf w0 sb bm room S W n->vQ 37 #[.pointer (some ⟨sb,0,none⟩),.string (DY es M),u] W (QB w0 W sb bm room S n N R)) :
  vQ 9 #[.pointer (some ⟨b,0,none⟩),u] w (XG w0 w b M cs (fun w'=>Hz w0 D w' b M a c rm sb cb es ck bm room S n) rm sb cb es ck bm room S n N R):=by
 have s8:∀ (fn:Fn) (first cap:Array vV) (w:vW),(Instr.makeFunc fn first cap).run prog w=.ok (.func fn first cap) w:=fun _ _ _ _=>rfl;have H:=Hd h;have HP:=Hd (bA hn (bA hl (bA d2 (bA hu (bA hnc (bA hsc hT))))))
 obtain⟨nl,k1⟩:=vE M.all.length
 have HN:=Hd k1
 obtain⟨X,hX⟩:=vE (Gu M cs)
 have HX:=Hd hX
 obtain⟨lv,k2,p2⟩:=h.ok.lastAt
 have p3:=Hd (bA k2 p2);have h5:=h.lt';have g0:=Hd h5;have r8:0<nl:=by rw[k1];have:=(bI.1 k2).1;omega
 obtain⟨kl,p4⟩:∃ kl,nl=kl+1:=⟨nl-1,by omega⟩
 have d9:IntKind.i64.wrap ((nl:Int)-1)=(kl:Int):=by rw[Pt vO vO];omega
 have d7:(kl:Int)<(nl:Int):=vO
 have d8:(nl:Int)-1=(kl:Int):=vO
 have p5:=Hd (bA p4 (bA d9 (bA d7 d8)));clear h hn hl d2 hu hnc hsc hT k1 hX k2 p2 h5 r8 p4 d9 d7 d8;go_enter_defers func9,ntmps9;go_wp2_with fail
 have e8:=((Aa w).alloc (.cells #[.pointer (some ⟨b,0,none⟩)] 24)).alloc (.cells #[.int .i64 0] 3);have j0:=(Ae.new w (.cells #[.pointer (some ⟨b,0,none⟩)] 24)).alloc (.cells #[.int .i64 0] 3);have k3:Ae ((w.alloc (.cells #[.pointer (some ⟨b,0,none⟩)] 24)).alloc (.cells #[.int .i64 0] 3)) (w.heap.size+1) (.cells #[.int .i64 0] 3):=by have:=Ae.new (w.alloc (.cells #[.pointer (some ⟨b,0,none⟩)] 24)) (.cells #[.int .i64 0] 3);rwa [bG]at this
 generalize (w.alloc (.cells #[.pointer (some ⟨b,0,none⟩)] 24)).alloc (.cells #[.int .i64 0] 3)=w1 at e8 j0 k3 ⊢;refine vC (CM w1 D b M a c rm sb cb es ck (H.o.m.ext e8)) fun w2 e7=>?_;have q0:w2.cell? ⟨b,0,none⟩=some (.int .i64 (M.win:Int)):=((H.o.m.ext e8).ext e7).blk.cellL rfl;have q1:w2.cell? ⟨b,1,none⟩=some (.int .i64 (M.next:Int)):=((H.o.m.ext e8).ext e7).blk.cellL rfl;have q2:w2.cell? ⟨b,2,none⟩=some (.slice a nl c):=by rw[HN.o];exact ((H.o.m.ext e8).ext e7).blk.cellL rfl
 have qc:w2.cell? ⟨w.heap.size,0,none⟩=some (.pointer (some ⟨b,0,none⟩)):=(j0.keeps e7 (fun h=>h)).cell (i:=0) rfl;have H2:=Hd (bA (e8.trans e7) (bA (j0.keeps e7 (fun h=>h)) (k3.keeps e7 (fun h=>h))));clear e8 j0 k3 e7;go_wp2_with (first|(refine Di Co rfl rfl ?_;intro J k4 p6)|(refine Bv (vs:=[.int .i64 (M.win:Int),.int .i64 (M.next:Int),.slice a nl c]) rfl rfl rfl rfl (k4.alloc _) rfl Ao (by simp[Value.oneCell']) ?_;intro W4 p7 k5;have h6:=k4.lt;have j1:=(Ae.new J (.cells #[.bool false] 4)).keeps k5 (show ¬ J.heap.size=w2.heap.size by omega);have d4:W4.cell? ⟨J.heap.size,0,none⟩=some (.bool false):=j1.cell (i:=0) rfl;have f4:W4.frozen? ⟨J.heap.size,0,none⟩=false:=j1.frozen))
 have p8:=H2.o.2.2.lt;have p9:=H.o.m.blk.lt;have k6:w.heap.size+1<w2.heap.size:=p8;have kW:Af w2 (W4.setCell ⟨J.heap.size,0,none⟩ (.bool false)):=((p6.alloc (.cells #[.bool false] 4)).trans' k5 fun x hx e=>by have e:x=w2.heap.size:=e;omega).trans' (Ad.oneSet W4 ⟨J.heap.size,0,none⟩ (.bool false)) fun x hx e=>by have e:x=J.heap.size:=e;omega
 have k7:=p7.set_other (p:=⟨J.heap.size,0,none⟩) (by show w2.heap.size≠J.heap.size;omega) (.bool false);have k9:=j1.set_same (i:=0) (.bool false);have r9:w2.heap.size<J.heap.size:=h6;generalize W4.setCell ⟨J.heap.size,0,none⟩ (.bool false)=W5 at kW k7 k9 ⊢;have H5:=Hd (bA (H2.o.1.trans kW) (bA (H2.o.2.1.keeps kW (fun h=>h)) (bA (H2.o.2.2.keeps kW (fun h=>h)) (bA k7 k9))));have HS:=Hd (bA p9 (bA k6 r9));clear p8 kW k7 k9 k4 p6 p7 k5 h6 j1 d4 f4 H2 q0 q1 q2 qc;have p9:=HS.o.1;refine Nc [0,1,2,3,4,5,6,7,8,9,10,11,12] [3,10,11] Af (Ad (fun z=>z=b\/z=w.heap.size+1)) Aa Aq (fun x y z h k=>Ad.trans h k) (fun x y h=>h.mono (fun _ _ h=>h.elim)) vY vY vY ?_;refine Fc ⟨w.heap.size,0,none⟩ (.pointer (some ⟨b,0,none⟩)) rfl (fun w1 h1=>Dt (fun w=>by kernel_rfl) ((H5.o.2.1.drew.keeps h1 vO).cell (i:=0) rfl)) ?_;refine vS ?_;refine Fc ⟨w2.heap.size,0,none⟩ _ rfl (fun w1 h1=>IU w1 w2.heap.size 0 [.int .i64 (M.win:Int),.int .i64 (M.next:Int),.slice a nl c] rfl (fun j v hv=>by rw[bX];exact ((H5.o.2.2.2.1.drew).keeps h1 (by have:=HS.o.2.1;omega)).cellL hv)) ?_;refine vS ?_
 refine vD ?_
 refine Hl _ rfl (fun wb hb K hK=>?_);have kb:Af W5 wb:=(Ap _).trans hb;have j2:=jrS wb D M (.slice a M.all.length c) ((H.o.m.ver.ext H5.o.1).ext kb) H.o.ok HP.o.2.1 u cs ((HP.o.2.2.2.1.keeps H5.o.1 (fun _ _ e=>e)).keeps kb (fun _ _ e=>e)) HP.o.2.2.2.2.1 HP.o.2.2.2.2.2.1;rw[<-HX.o]at j2;unfold Il at j2;refine Oe (Ex (vs:=#[.agg #[.int .i64 (M.win:Int),.int .i64 (M.next:Int),.slice a nl c],u]) Lg vY) ?_;rw[HN.o];refine j2.mono ?_;rintro e w6 ⟨av,rfl,l0,l6⟩
 refine⟨_,rfl,hK _ _ (l0.mono (fun _ _ h=>h.elim)) ?_⟩
 obtain⟨a6,c6,s0⟩:=l6.sl
 subst s0;have e9:=Hd (bA kb (bA l0 l6));clear hK K hb kb l0 l6 j2;refine vS ?_;iterate 4 refine vD ?_
 refine Lr _ (.pointer (some ⟨b,0,none⟩)) rfl (fun w1 _=>by kernel_rfl) ?_;refine vS ?_
 refine vD ?_
 refine Hl _ rfl (fun wc hc K hK=>?_);have kc:Af w wc:=H5.o.1.trans (e9.o.1.trans (e9.o.2.1.trans hc));have g5:Af W5 wc:=e9.o.1.trans (e9.o.2.1.trans hc);have q3:=e9.o.2.2.ext hc;refine VO (old:=Qw M a c rm sb cb) (vs:=[.int .i64 (X.1.win:Int),.int .i64 (X.1.next:Int),.slice a6 X.1.all.length c6]) rfl rfl rfl (H.o.m.blk.keeps kc (fun h=>h)) (by show 3<=6;decide) Ao (by simp[Value.oneCell']) (fun W7 g6 c7=>hK _ _ (c7.mono fun z _ e=>.inl e) ?_);have H7:=Hd (bA kc (bA g5 (bA g6 (bA c7 (bA q3 (bA e9.o.1.size (bA (bF e9.o.2.1.size hc.size) hc.size)))))));clear hK K hc kc g5 g6 c7 q3;refine vS ?_;refine Hl _ rfl (fun wd hd K hK=>?_);have k6:=HS.o.2.1;have j3:=((H5.o.2.2.1.keeps H7.o.2.1 (fun h=>h)).keeps H7.o.2.2.2.1 (show ¬ w.heap.size+1=b by omega)).keeps hd (fun h=>h);have q7:=j3.cell (i:=0) (v:=.int .i64 0) rfl;have f7:wd.frozen? ⟨w.heap.size+1,0,none⟩=false:=j3.frozen;have H8:=Hd (bA hd j3);clear hd j3;go_simp;refine hK _ _ (Ad.setCell (Ad.refl _ _) (.inl (.inr rfl)) _) ?_;clear hK K q7 f7;have q4:=H8.o.2.set_same (i:=0) (.int .i64 (X.2.1:Int));have k8:=Ad.oneSet wd ⟨w.heap.size+1,0,none⟩ (.int .i64 (X.2.1:Int));generalize wd.setCell ⟨w.heap.size+1,0,none⟩ (.int .i64 (X.2.1:Int))=w8 at q4 k8 ⊢
 refine vD ?_
 refine Mr (fun w9 h9=>?_);have c5:Ae w9 (w.heap.size+1) (.cells #[.int .i64 (X.2.1:Int)] 3):=q4.keeps h9 (fun h=>h);have q9:w9.cell? ⟨w.heap.size+1,0,none⟩=some (.int .i64 (X.2.1:Int)):=c5.cell (i:=0) rfl;have f9:w9.frozen? ⟨w.heap.size+1,0,none⟩=false:=c5.frozen
 obtain⟨k8,h9,c5⟩:=bA k8 (bA h9 c5)
 obtain⟨kc,g5,g6,c7,q5,f3,h7,h8⟩:=H7.o
 obtain⟨s9,k6,t0⟩:=HS.o
 have g2:Ad (fun z=>z=w.heap.size+1) _ w9:=(((H8.o.1.mono (G:=fun z=>z=w.heap.size+1) fun _ _ e=>e.elim).trans k8).trans (h9.mono fun _ _ e=>e.elim));have g7:Ad (fun z=>z=b\/z=w.heap.size+1) W5 w9:=((g5.mono (G:=fun z=>z=b\/z=w.heap.size+1) fun _ _ e=>e.elim).trans (c7.mono fun z _ e=>.inl e)).trans (g2.mono fun z _ e=>.inr e);have q6:=g6.keeps g2 (show ¬ b=w.heap.size+1 by omega);have g8:Ad (fun z=>z=b) w w9:=(H5.o.1.mono (G:=fun z=>z=b) fun _ _ e=>e.elim).trans' g7 (fun z Z e=>e.elim id fun e=>by omega);have j4:=(q5.keeps c7 (fun z Z e=>by have h:=Z.1;have h2:=H5.o.2.2.2.2.lt;have e:z=b:=e;omega)).keeps g2 (fun z Z e=>by have h:=Z.1;have h2:=H5.o.2.2.2.2.lt;have e:z=w.heap.size+1:=e;omega);have g9:=H5.o.2.2.2.2.keeps g7 vO;have l7:=H5.o.2.1.keeps g7 vO;have l8:Ae w9 w2.heap.size (.cells (LH M (.slice a M.all.length c)).toArray 70):=by have:=H5.o.2.2.2.1.keeps g7 vO;rw[HN.o]at this;exact this
 have l9:J.heap.size<W5.heap.size:=H5.o.2.2.2.2.lt;have m0:wb.heap.size<=w9.heap.size:=bF h7 (bF c7.size g2.size);have m1:w6.heap.size<=w9.heap.size:=bF h8 (bF c7.size g2.size);have H9:=Hd (bA g8 (bA q6 (bA c5 (bA j4 (bA g9 (bA l7 (bA l8 (bA l9 (bA f3 (bA m0 m1))))))))));have q8:=Hd (fun(W:vW) (v0:vV) (kW:Ad (fun z=>z=b\/z=w.heap.size+1) w9 W) (hBW:Ae W b _) (f0:Ae W (w.heap.size+1) (.cells #[v0] 3))=>jxL W w0 D b M a c rm sb cb es ck bm room S n (by have:=HP.o.1;omega) (by have:=HP.o.2.1;omega) .returning J.heap.size w2.heap.size w.heap.size (w.heap.size+1) (.int .i64 (X.1.win:Int)) (.int .i64 (X.1.next:Int)) (.slice a6 X.1.all.length c6) v0 ((g9.keeps kW vO).cell (i:=0) rfl) ((l7.keeps kW vO).cell (i:=0) rfl) (l8.keeps kW vO) f0 ⟨by omega,by omega,by omega⟩ hBW (fun W' s1 n8=>H.o.back (((g8.trans' kW fun z Z e=>e.elim id fun e=>by omega)).trans' s1 (fun z Z e=>e.elim id fun e=>by omega)) n8) HP.o.2.2.1)
 clear k8 h9 c5 kc g5 g6 c7 q5 f3 h7 h8 g2 g7 q6 g8 j4 g9 l7 l8 l9 m0 m1
 obtain⟨er,m2⟩:=vE X.2.2
 have j5:=Hd m2;rw[<-m2];clear m2
 by_cases he:er=0
 case neg =>(have e1:(er != 0)=true:=by simpa using he);(have HE:=Hd he;clear he;go_wp2_with fail);(have i0:=H9.o.2.2.1.set_same (i:=0) (.int .i64 (X.2.1:Int));have m3:=Ad.oneSet w9 ⟨w.heap.size+1,0,none⟩ (.int .i64 (X.2.1:Int));generalize w9.setCell ⟨w.heap.size+1,0,none⟩ (.int .i64 (X.2.1:Int))=m4 at i0 m3 ⊢;have i1:Ad (fun z=>z=b\/z=w.heap.size+1) w9 m4:=m3.mono fun z _ e=>.inr e;have a7:=q8.o m4 _ i1 (H9.o.2.1.keeps m3 (show ¬ b=w.heap.size+1 by omega)) i0;refine leaves_cons (f:=34) (args:=#[.pointer (some ⟨J.heap.size,0,none⟩),.pointer (some ⟨w2.heap.size,0,none⟩),.pointer (some ⟨w.heap.size,0,none⟩),.pointer (some ⟨w.heap.size+1,0,none⟩)]) (by simp) (by simp[go_sem]) ?_;refine a7.mono ?_;rintro e u' b1 ⟨rfl,rfl,hI,hK,f0⟩;have h0:(loadVar 3 ⟨w.heap.size+1,0,none⟩).run prog b1=.ok (.int .i64 0) b1:=by have:=Bq Fg rfl (f0.cell (i:=0) (v:=.int .i64 0) rfl);simpa [Instr.loadAt,Instr.sureAddr,bQ,Result.andThen]using this);refine⟨_,DQ rfl rfl rfl h0,.inl ⟨er,HE.o,.inl (by rw[j5.o,HX.o]),rfl,hI,?_⟩⟩;exact (H9.o.1.trans' i1 fun z Z e=>e.elim id fun e=>by omega).trans' hK fun z Z e=>e.elim id fun e=>by omega
 case pos =>(have e1:(er != 0)=false:=by rw[he];rfl);subst he;have r0:=H.o.m.ver.keeps H9.o.1 (fun z Z e=>H.o.db (by have e:z=b:=e;rw[<-e];exact Z));obtain⟨b',o',a1,c1,a2,c2,e0,p0,_⟩:=r0.at' p3.o.1;(cases e0;have s2:w9.cell? ⟨b',o'+kl*4,none⟩=some (.int .i64 (lv.block:Int)):=by have h:=p5.o.1;have h2:=HN.o;rw[show M.all.length-1=kl by omega]at p0;exact p0);(have qw:w9.cell? ⟨w2.heap.size,2,none⟩=some (.slice (some ⟨b',o',none⟩) nl c):=by rw[HN.o];exact H9.o.2.2.2.2.2.2.1.cellL rfl);obtain⟨-,d9,d7,d8⟩:=p5.o;(have d5:nl<=900:=by have h:=HP.o.2.1;have h2:=HN.o;omega);(have d6:Go.RowKit.wrap64 (kl:Int)=(kl:Int):=by unfold Go.RowKit.wrap64;omega);(clear r0 p0;go_wp2_with fail);have r1:Hw M=lv:=Ew.newV p3.o.1;have j6:=Q_ (M:=M) H.o.val;rw[r1]at j6;obtain⟨rt,m5⟩:=vE (DY es M);rw[<-m5]at j6;have h4:=Hd (bA m5 (bA j6 (H.o.m.map.keeps H9.o.1 H.o.rb)));obtain⟨l1,l2,l3,l4,l5⟩:=g0.o;(have n1:¬(w.heap.size=bm\/w.heap.size∈S.map (·.2.1)):=fun e=>e.elim (fun e=>by omega) fun e=>by have:=l5 _ e;omega);have n2:¬(b=bm\/b∈S.map (·.2.1)):=fun e=>e.elim (H.o.sep b (.inl rfl)).1 (H.o.sep b (.inl rfl)).2.2;have n3:¬(rm=bm\/rm∈S.map (·.2.1)):=fun e=>e.elim (H.o.sep rm (.inr (.inl rfl))).1 (H.o.sep rm (.inr (.inl rfl))).2.2;have c8:=Hd (bA n1 (bA n2 n3));clear m5 j6 r1 s2 qw d9 d7 d8 d5 d6 l1 l2 l3 l4 l5 n1 n2 n3;refine Nc [0,1,2,3,4,5,6,7,8,9,10,11,12,13,14,15,16] [11] Af (Ad (fun z=>z=bm\/z∈S.map (·.2.1))) Aa Aq (fun x y z h k=>Ad.trans h k) (fun x y h=>h.mono (fun _ _ h=>h.elim)) vY vY vY ?_;refine Fc ⟨w.heap.size,0,none⟩ (.pointer (some ⟨b,0,none⟩)) rfl (fun w1 h1=>Dt (fun w=>by kernel_rfl) ((H9.o.2.2.2.2.2.1.drew.keeps h1 c8.o.1).cell (i:=0) rfl)) ?_;refine vS ?_;refine Lr _ (.pointer (some ⟨b,0,none⟩)) rfl (fun w1 _=>by kernel_rfl) ?_;refine vS ?_;refine vD ?_;refine Fc ⟨b,4,none⟩ (.pointer (some ⟨sb,0,none⟩)) rfl (fun w1 h1=>Dt (fun w=>by kernel_rfl) ((H9.o.2.1.drew.keeps h1 c8.o.2.1).cellL rfl)) ?_;refine vS ?_;refine Fc ⟨w.heap.size,0,none⟩ (.pointer (some ⟨b,0,none⟩)) rfl (fun w1 h1=>Dt (fun w=>by kernel_rfl) ((H9.o.2.2.2.2.2.1.drew.keeps h1 c8.o.1).cell (i:=0) rfl)) ?_;refine vS ?_;refine Lr _ (.pointer (some ⟨b,0,none⟩)) rfl (fun w1 _=>by kernel_rfl) ?_;refine vS ?_;refine vD ?_;refine Fc ⟨b,3,none⟩ (.map (some rm)) rfl (fun w1 h1=>Dt (fun w=>by kernel_rfl) ((H9.o.2.1.drew.keeps h1 c8.o.2.1).cellL rfl)) ?_;refine vS ?_;refine vD ?_;refine Lr _ (.string rt) rfl (fun w3 h3=>by refine (RM false (h4.o.2.2.drew.keeps h3 c8.o.2.2) rfl rfl).trans ?_;rw[h4.o.2.1];rfl) ?_;refine vS ?_;refine vD ?_;refine Hl _ rfl (fun f1 c5 K hK=>?_);have f2:Af w9 f1:=(Ap _).trans c5;have j7:Ad (fun z=>z=b) w f1:=H9.o.1.trans (f2.mono fun _ _ e=>e.elim);have b5:=H.o.sep b (.inl rfl);have m6:Kf w0 sb bm room S f1 n:=H.o.s.keeps j7 (fun e=>b5.2.1 e.symm) (fun e=>b5.1 e.symm) (fun x hx e=>b5.2.2 (bC.2 ⟨x,hx,e⟩)) (fun z t1 fz e s3=>by have e:z=b:=e;subst e;have:=H.o.m.blk.uniq s3;injection this with _ e _;exact absurd e vI);have j8:=HP.o.2.2.2.2.2.2 f1 j7 m6;rw[<-h4.o.1]at j8;refine Oe (Ex Lh vY) (j8.mono ?_);rintro e m4 (⟨k,hk,r2,rfl,f5⟩|⟨t,S1,j9,rfl,d3,b6,a8⟩);(case inl =>refine⟨_,rfl,hK _ _ (f5.mono fun _ _ e=>e.elim) ?_⟩;(have c9:=Hd (bA (f2.trans f5) (bA hk r2));have e2:(k != 0)=true:=by simpa using hk);(clear hK K c5 f2 j7 b5 m6 j8 f5 hk r2 e1;refine vS ?_;iterate 5 refine vD ?_);(refine Mr (fun b1 b2=>?_);have f6:=c9.o.1.trans b2;have O:=H9.o.2.2.1.keeps f6 (fun h=>h);have t2:=O.cell (i:=0) (v:=.int .i64 (X.2.1:Int)) rfl;have t3:b1.frozen? ⟨w.heap.size+1,0,none⟩=false:=O.frozen;have d0:=Hd (bA f6 O);clear b2 f6 O;go_wp2_with fail);(have i2:=d0.o.2.set_same (i:=0) (.int .i64 (X.2.1:Int));have m7:=Ad.oneSet b1 ⟨w.heap.size+1,0,none⟩ (.int .i64 (X.2.1:Int));generalize b1.setCell ⟨w.heap.size+1,0,none⟩ (.int .i64 (X.2.1:Int))=w12 at i2 m7 ⊢;have i3:Ad (fun z=>z=b\/z=w.heap.size+1) w9 w12:=(d0.o.1.mono fun _ _ e=>e.elim).trans (m7.mono fun z _ e=>.inr e);have a7:=q8.o w12 _ i3 ((H9.o.2.1.keeps d0.o.1 (fun h=>h)).keeps m7 (show ¬ b=w.heap.size+1 by omega)) i2;refine leaves_cons (f:=34) (args:=#[.pointer (some ⟨J.heap.size,0,none⟩),.pointer (some ⟨w2.heap.size,0,none⟩),.pointer (some ⟨w.heap.size,0,none⟩),.pointer (some ⟨w.heap.size+1,0,none⟩)]) (by simp) (by simp[go_sem]) ?_;refine a7.mono ?_;rintro e u' b3 ⟨rfl,rfl,hI,hK,f0⟩;have h0:(loadVar 3 ⟨w.heap.size+1,0,none⟩).run prog b3=.ok (.int .i64 0) b3:=by have:=Bq Fg rfl (f0.cell (i:=0) (v:=.int .i64 0) rfl);simpa [Instr.loadAt,Instr.sureAddr,bQ,Result.andThen]using this);refine⟨_,DQ rfl rfl rfl h0,.inl ⟨k,c9.o.2.1,.inr ⟨by rw[<-HX.o, <-j5.o],c9.o.2.2⟩,rfl,hI,?_⟩⟩;exact (H9.o.1.trans' i3 fun z Z e=>e.elim id fun e=>by omega).trans' hK fun z Z e=>e.elim id fun e=>by omega);case inr =>refine⟨_,rfl,hK _ _ b6 ?_⟩;(have k0:X.2.1=M.next:=by rw[HX.o];exact l_ (by rw[<-HX.o, <-j5.o]));(have m8:=UI H.o HP.o.2.2.1;have c9:=Hd (bA f2 (bA j9 (bA d3 (bA b6 (bA a8 (bA k0 m8))))));rw[k0]at H9;clear hK K c5 f2 j7 b5 m6 j8 b6 a8 j9 d3 e1 k0 m8;refine vS ?_;iterate 5 refine vD ?_);(refine Mr (fun b1 b2=>?_);have A:Ad (fun z=>z=bm\/z∈S.map (·.2.1)) w9 b1:=((c9.o.1.mono fun _ _ e=>e.elim).trans c9.o.2.2.2.1).trans (b2.mono fun _ _ e=>e.elim);have m9:=g0.o;have n4:¬(w.heap.size+1=bm\/w.heap.size+1∈S.map (·.2.1)):=fun e=>e.elim (fun e=>by omega) fun e=>by have:=m9.2.2.2.2 _ e;omega);(have n5:¬(J.heap.size=bm\/J.heap.size∈S.map (·.2.1)):=fun e=>e.elim (fun e=>by omega) fun e=>by have:=m9.2.2.2.2 _ e;omega);(have O:=H9.o.2.2.1.keeps A n4;have e3:=h4.o.2.2.keeps A c8.o.2.2;have b7:=H9.o.2.1.keeps A c8.o.2.1;have b8:=H9.o.2.2.2.2.2.1.keeps A c8.o.1;have b9:=H9.o.2.2.2.2.1.keeps A n5;have d0:=Hd (bA A (bA O (bA e3 (bA b7 (bA b8 (bA b9 b2))))));clear A O e3 b7 b8 b9 b2 m9 n4 n5;go_wp2_with fail);refine Nc [0,1,2,3,4,5,6] [6] Af (Ad (fun z=>z=rm)) Aa Aq (fun x y z h k=>Ad.trans h k) (fun x y h=>h.mono (fun _ _ h=>h.elim)) vY vY vY ?_;refine Fc ⟨w.heap.size,0,none⟩ (.pointer (some ⟨b,0,none⟩)) rfl (fun w1 h1=>Dt (fun w=>by kernel_rfl) ((d0.o.2.2.2.2.1.drew.keeps h1 (by have:=g0.o.2.1;omega)).cell (i:=0) rfl)) ?_;refine vS ?_;refine Lr _ (.pointer (some ⟨b,0,none⟩)) rfl (fun w1 _=>by kernel_rfl) ?_;refine vS ?_;refine vD ?_;refine Fc ⟨b,3,none⟩ (.map (some rm)) rfl (fun w1 h1=>Dt (fun w=>by kernel_rfl) ((d0.o.2.2.2.1.drew.keeps h1 (fun e=>H.o.rb e.symm)).cellL rfl)) ?_;refine vS ?_;refine Fc ⟨w.heap.size+1,0,none⟩ (.int .i64 (M.next:Int)) rfl (fun w1 h1=>Dt (fun w=>by kernel_rfl) ((d0.o.2.1.drew.keeps h1 (by have:=g0.o.2.1;omega)).cell (i:=0) rfl)) ?_;refine vS ?_;refine vD ?_;refine Hl _ rfl (fun we he K hK=>?_);have g3:Af b1 we:=(Ap _).trans he;have g4:=d0.o.2.2.1.keeps g3 (fun h=>h);obtain⟨r3,a9⟩:=vE (we.putObj rm (.map (EB.arr (Rk es M t ck)) (ck+1)));(have s4:(Instr.mapUpdate 72 (.map (some rm)) (.int .i64 (M.next:Int)) (.string t)).run prog we=.ok () r3:=by have:=Ze EB Fp g4 (M.next:Int) (.string t);rw[ZX c9.o.2.2.2.2.2.2,W_ c9.o.2.2.2.2.2.2]at this;rw[a9];exact this);(have s5:=Hd (bA g3 (bA g4 a9));have n0:Ad (fun z=>z=rm) we r3:=by rw[a9];exact Ad.onePut _ _ _);clear g3 g4 a9;go_simp;refine hK _ _ n0 ?_;clear hK K he;refine Mr (fun b3 n6=>?_);obtain⟨g3,g4,a9⟩:=s5.o;(have q:Ad (fun z=>z=rm) b1 b3:=((g3.mono fun _ _ e=>e.elim).trans n0).trans (n6.mono fun _ _ e=>e.elim);have e4:Ae b3 rm (.map (EB.arr (Rk es M t ck)) (ck+1)):=by refine Ae.keeps ?_ n6 (fun h=>h);rw[a9];exact g4.put_same _);obtain⟨A,O,e3,b7,b8,b9,b2⟩:=d0.o;have hl:=g0.o.2.1;have i4:=O.keeps q vO;have i5:=b8.keeps q vO;have b0:=b9.keeps q vO;have e5:=b7.keeps q (fun e=>H.o.rb e.symm);have t4:b3.cell? ⟨J.heap.size,0,none⟩=some (.bool false):=b0.cell (i:=0) rfl;have t5:b3.frozen? ⟨J.heap.size,0,none⟩=false:=b0.frozen;have b4:=Ad.oneSet b3 ⟨J.heap.size,0,none⟩ (.bool true);have a0:=i4.keeps b4 (show ¬ w.heap.size+1=J.heap.size by omega);have c0:=b0.set_same (i:=0) (.bool true);have c3:=i5.keeps b4 (show ¬ w.heap.size=J.heap.size by omega);obtain⟨r4,c4⟩:=vE (b3.setCell ⟨J.heap.size,0,none⟩ (.bool true));(rw[<-c4]at b4 a0 c0 c3;have t6:(b3.setCell ⟨J.heap.size,0,none⟩ (.bool true)).cell? ⟨w.heap.size+1,0,none⟩=some (.int .i64 (M.next:Int)):=by rw[<-c4];exact a0.cell (i:=0) rfl);(have t7:(b3.setCell ⟨J.heap.size,0,none⟩ (.bool true)).frozen? ⟨w.heap.size+1,0,none⟩=false:=by rw[<-c4];exact a0.frozen);(have r5:=Hd (bA A (bA q (bA e4 (bA e5 (bA b4 (bA a0 (bA c0 (bA c3 (bA b2 c4)))))))));clear n6 n0 g3 g4 a9 A O e3 b7 b8 b9 b2 hl i4 i5 b0 e5 e4 b4 a0 c0 c3 c4 q s4;go_wp2_with fail);rw[<-r5.o.2.2.2.2.2.2.2.2.2];obtain⟨A,q,e4,e5,b4,a0,c0,c3,b2,_⟩:=r5.o;obtain⟨f2,j9,d3,b6,a8,k0,m8⟩:=c9.o;obtain⟨g8,_,_,j4,g9,_,_,l9,f3,m0,m1⟩:=H9.o;obtain⟨l1,l2,l3,l4,l5⟩:=g0.o;(have d1:=Ad.oneSet r4 ⟨w.heap.size+1,0,none⟩ (.int .i64 (M.next:Int));have i6:=a0.set_same (i:=0) (.int .i64 (M.next:Int));have i7:=c0.keeps d1 (show ¬ J.heap.size=w.heap.size+1 by omega);have i8:=c3.keeps d1 (show ¬ w.heap.size=w.heap.size+1 by omega);generalize r4.setCell ⟨w.heap.size+1,0,none⟩ (.int .i64 (M.next:Int))=w15 at d1 i6 i7 i8 ⊢;have t8:=f2.size;have f8:∀ z,z ∉ S.map (·.2.1)->z<f1.heap.size->z ∉ S1.map (·.2.1):=fun z h1 h2 e=>by obtain⟨x,hx,e⟩:=bC.1 e;rcases a8 x hx with h3|h3;{exact h1 (by rw[<-e];exact h3)};omega);(have e6:∀ z,w.heap.size<=z->z ∉ S.map (·.2.1):=fun z h e=>by have:=l5 z e;omega);(have o1:=f8 rm (H.o.sep rm (.inr (.inl rfl))).2.2 vO;have o2:=f8 J.heap.size (e6 _ vO) vO;have o3:=f8 (w.heap.size+1) (e6 _ vO) vO;have r6:=H.o.sep rm (.inr (.inl rfl));have n9:=(d3.ext b2).keeps q (fun e=>r6.2.1 e.symm) (fun e=>r6.1 e.symm) (fun x hx e=>o1 (bC.2 ⟨x,hx,e⟩)) (TR (h4.o.2.2.keeps A c8.o.2.2));have b0:=(g9.keeps A (show ¬(J.heap.size=bm\/J.heap.size∈S.map (·.2.1))from fun e=>e.elim (fun e=>by omega) (e6 _ vO))).keeps q (show ¬ J.heap.size=rm by omega);have o0:=n9.keeps b4 (show ¬ sb=J.heap.size by omega) (show ¬ bm=J.heap.size by omega) (fun x hx e=>o2 (bC.2 ⟨x,hx,e⟩)) (UJ b0 vI);have o4:=o0.keeps d1 (show ¬ sb=w.heap.size+1 by omega) (show ¬ bm=w.heap.size+1 by omega) (fun x hx e=>o3 (bC.2 ⟨x,hx,e⟩)) (UJ a0 vI);have o5:=(((j4.keeps A (fun z Z e=>e.elim (fun e=>by have:=Z.1;omega) (e6 z (by have:=Z.1;omega)))).keeps q (fun z Z e=>by have:=Z.1;have e:z=rm:=e;omega)).keeps b4 (fun z Z e=>by have:=Z.1;have e:z=J.heap.size:=e;omega)).keeps d1 (fun z Z e=>by have:=Z.1;have e:z=w.heap.size+1:=e;omega);have o6:=(e5.keeps b4 (show ¬ b=J.heap.size by omega)).keeps d1 (show ¬ b=w.heap.size+1 by omega);have o7:=(e4.keeps b4 (show ¬ rm=J.heap.size by omega)).keeps d1 (show ¬ rm=w.heap.size+1 by omega);have o8:f1.heap.size<=w15.heap.size:=bF b6.size (bF b2.size (bF q.size (bF b4.size d1.size)));have o9:=H.o.more HP.o.2.2.1 cs t (a6:=a6) (c6:=c6) (E:=Fo wb w6) (W:=w15) (g1:=f1.heap.size) (S1:=S1) (by rw[<-HX.o];exact o6) (by rw[<-HX.o];exact o5) (fun z Z=>by have h1:=Z.1;have h2:=Z.2;omega) o8 vO o7 o4 a8;have a7:=juT w15 w0 _ b (Gu M cs).1 a6 c6 rm sb cb (Rk es M t ck) (ck+1) bm room S1 (n+1000) o9 (by have:=HP.o.1;omega) (by have:=ZR (M:=M) (cs:=cs);have:=HP.o.2.1;omega) .returning J.heap.size w2.heap.size w.heap.size (w.heap.size+1) (i7.cell (i:=0) rfl) (i8.cell (i:=0) rfl);refine leaves_cons (f:=34) (args:=#[.pointer (some ⟨J.heap.size,0,none⟩),.pointer (some ⟨w2.heap.size,0,none⟩),.pointer (some ⟨w.heap.size,0,none⟩),.pointer (some ⟨w.heap.size+1,0,none⟩)]) (by simp) (by simp[go_sem]) ?_;refine a7.mono ?_;rintro e u' n7 ⟨rfl,rfl,S',s6,r7,i9,d2⟩;have f0:=i6.keeps r7 (show ¬(w.heap.size+1=rm\/w.heap.size+1=bm\/w.heap.size+1∈S1.map (·.2.1))from fun e=>e.elim (fun e=>by omega) fun e=>e.elim (fun e=>by omega) o3);have h0:(loadVar 3 ⟨w.heap.size+1,0,none⟩).run prog n7=.ok (.int .i64 (M.next:Int)) n7:=by have:=Bq Fg rfl (f0.cell (i:=0) (v:=.int .i64 (M.next:Int)) rfl);simpa [Instr.loadAt,Instr.sureAddr,bQ,Result.andThen]using this);(have s7:(Gu M cs).2.2=0:=by rw[<-HX.o];exact j5.o.symm);(have p1:Ad (Tf b rm bm S) w n7:=by(have a1:Ad (Tf b rm bm S) w w9:=g8.mono fun z _ e=>.inl e;have a2:Ad (Tf b rm bm S) w9 b1:=A.mono fun z _ e=>.inr (.inr e);have a3:Ad (Tf b rm bm S) b1 b3:=q.mono fun z _ e=>.inr (.inl e);have a4:=((a1.trans a2).trans a3).trans' b4 fun z Z e=>by have e:z=J.heap.size:=e;omega);(have a5:=a4.trans' d1 fun z Z e=>by have e:z=w.heap.size+1:=e;omega);refine a5.trans' r7 fun z Z e=>?_;rcases e with e|e|e;{exact .inr (.inl e)};{exact .inr (.inr (.inl e))};obtain⟨x,hx,e⟩:=bC.1 e;rcases a8 x hx with h3|h3;{exact .inr (.inr (.inr (by rw[<-e];exact h3)))};omega);refine⟨_,DQ rfl rfl rfl h0,.inr ⟨s7,t,S1,S',_,a6,c6,j9,rfl,s6,p1,fun x hx=>?_,fun h=>(d2 h).1,fun z Z=>by have h1:=Z.1;omega,i9⟩⟩;obtain⟨z,Z,e⟩:=i9.sub x hx;rw[e];exact (a8 z Z).imp id fun h=>by omega
end
section
open Go Go.RowKit
attribute [local go_sem] Oper.semAt_some
theorem Uc.bad{w:vW}(h:Fi l cs=x)(h0:x≠0)(he:Af w w'):Uc w S l cs (.returned (.tuple #[.slice none 0 0,.int .i64 x])) w':=by
 unfold Uc;rw[h,if_neg h0];exact⟨rfl,he⟩
theorem xQ(hc:Ha w)(he:Gj w)(s bm:Nat)(room:Int)(S:vT)(hs:Ev w s bm room S)(hN:BH S)(l:vL)(h:Ru S l)(u:vV)(cs:List Bk)(hu:Jb w u cs)(hnc:cs.length<=9223372036854775807)(hsc:∀ c∈cs,c.key.size<=9223372036854775807/\c.value.size<=9223372036854775807) :
  vQ 81 #[.pointer (some ⟨s,0,none⟩),.string (Cc l),u] w (Uc w S l cs):=by
 have HR:=Hd (jyo w s bm room S hs hN l h);have HK:=Hd h.ok;have g6:=Hd (bA hc he);have l3:=Hd hs;have c8:=Fr h.ok;have g7:=Hd (show (l.length<=9223372036854775807)/\∀ p∈l,p.1.size<=9223372036854775807/\p.2.size<=9223372036854775807 from⟨by have:=c8.len;omega,fun p hp=>by have:=c8.size p hp;omega⟩);have f5:=Hd (fun(w2:vW) (v:vV) (hv:Io w2 v l) (e:Af w w2)=>OI w2 v u l cs hv (hu.ext e) g7.o.1 hnc g7.o.2 hsc)
 obtain⟨a,c,m7⟩:=hu.sl
 subst m7
 obtain⟨P,hP⟩:=vE (Da 13 (Em l))
 have HP:=Hd hP;have o7:=JL P;have g8:=Hd (fun(w3:vW) (v:vV) (hv:Io w3 v l) (e:Af w w3)=>VL w3 v l (hc.ext e) hv h.ok);have l4:Hid (Ak (Ds l).text=Cc l):=rfl;rw[l4.o]at g8;clear hs hN h hP hc he c8 hu hsc l4
 obtain⟨rt,l5⟩:=vE (Cc l)
 rw[<-l5]at HR g8 ⊢;clear l5;unfold vQ;go_in;go_wp2_with fail
 refine HR.o.mono ?_;rintro e w1 ⟨T,x,rfl,hM⟩;have HM:=Hd hM;have c9:=hM.pa.at'.meth;rw[<-HP.o]at c9;have m8:∀ w,(Go.method (522+1) T x "guilloche/trie.entries").run prog w=.ok (Vh P,x) w:=c9.ent;have HC:=Hd (uH w1 w1 l HK.o T x _ hM.pa (Aa w1));rw[<-HP.o]at HC;clear hM c9;go_wp2_with fail
 refine HC.o.mono ?_;rintro e w2 ⟨v,rfl,h1⟩;have H1:=Hd h1;have i5:=Hd (HM.o.ext.trans h1.ext);have d7:=Hd (bA (HM.o.pa.ext h1.ext) h1.ext.size);rw[<-HP.o]at d7;have HA:=Hd (f5.o w2 v h1.rd i5.o)
 obtain⟨a1,c1,hv⟩:=h1.sl
 subst hv;clear h1 m8 f5 HC;go_wp2_with fail
 refine HA.o.mono ?_;rintro e w3 e4;unfold Vd at e4
 by_cases h0:Fi l cs=0
 case neg =>rw[if_neg h0]at e4;obtain⟨rfl,hE⟩:=e4;have HX:=Hd (i5.o.trans hE);obtain⟨x0,i6⟩:=vE (Fi l cs);(have m9:=Hd i6.symm;rw[<-i6]at h0 ⊢;clear hE i6;go_wp2_with fail);go_ret2;exact Uc.bad m9.o h0 HX.o
 rw[if_pos h0]at e4
 obtain⟨r,rfl,h3⟩:=e4
 have n0:=Hd h0;have g9:=Ye h0
 obtain⟨m,hm⟩:=vE (Hi (Lq l cs))
 rw[<-hm]at h3 g9;have n1:=Hd hm;have b9:=Hd g9;have c8:=Fr g9;have f6:=Hd (show (m.length<=9223372036854775807)/\∀ p∈m,p.1.size<=9223372036854775807/\p.2.size<=9223372036854775807 from⟨by have:=c8.len;omega,fun p hp=>by have:=c8.size p hp;omega⟩);have l6:=Hd (i5.o.trans h3.ext);have f7:=Hd (bA (d7.o.1.ext h3.ext) (bF d7.o.2 h3.ext.size));have HV:=Hd (bA (Ey.rd (H1.o.mono h3.ext)) h3.rd)
 obtain⟨a2,c2,hr⟩:=h3.sl
 subst hr;have l7:=Hd (g8.o w3 _ HV.o.1 l6.o);clear h3 c8 g9 hm h0 HA H1 g8;go_wp2_with fail
 refine l7.o.mono ?_;rintro e w4 ⟨rfl,hE⟩;have n2:=Hd (l6.o.trans hE);have d8:=Hd (bA (f7.o.1.ext hE) (bF f7.o.2 hE.size));have l8:=Hd (sI w4 _ _ l m (HV.o.1.ext hE) (HV.o.2.ext hE) g7.o.1 f6.o.1 g7.o.2 f6.o.2);clear hE l7;go_wp2_with fail
 refine l8.o.mono ?_;rintro e w5 ⟨dv,rfl,hd⟩;have HD:=Hd hd;have n3:=Hd (n2.o.trans hd.ext);have k6:=Hd (bA (d8.o.1.ext hd.ext) (bF d8.o.2 hd.ext.size));have i7:=ML HK.o b9.o;have n4:=ZT (Fr HK.o).len (Fr b9.o).len
 obtain⟨ds,i8⟩:=vE (Ku l m)
 rw[<-i8]at HD i7 n4;have i9:=Hd i7
 obtain⟨a3,c3,l9⟩:=hd.sl
 rw[<-i8]at l9;subst l9;clear hd i7 i8 l8;have f8:=Hd (uO HK.o);rw[<-HP.o]at f8;have k7:=Hd HD.o.rdT;go_wp2_with fail
 go_loopw [8,56] (fun pv iv wr=>jzQ w5 (CT w w1) P ds pv iv wr) (fun _ iv _=>ds.length-(intOf iv).toNat)
 case atStart=>exact⟨0,T,x,CT w w1,by omega,rfl,rfl,k6.o.1,fun z hz=>.inl hz,(Aa w5).mono (fun _ _ e=>e.elim)⟩
 case round =>obtain⟨k,Tk,xk,D,hk,rfl,rfl,d0,hD,d1⟩:=hrel;by_cases hlt:k<ds.length;{rcases k7.o with⟨_,_,_,hz⟩|⟨b,o,cd,hh,hb,hcd,hcell⟩;{rw[hz]at hlt;cases hlt};cases hh;obtain⟨p,hp⟩:∃ p,ds[k]?=some p:=⟨_,bB hlt⟩;obtain⟨q1,q2,q3⟩:=hcell k p hp;(have h4:¬ CT w w1 b:=fun e=>by have h1:=HD.o.new b rfl;have h2:=d8.o.2;have h3:=e.2;omega);(have q1:=Dw q1 d1 h4;have q2:=Dw q2 d1 h4;have q3:=Dw q3 d1 h4;have O:p.bad=false:=by cases e:p.bad with| false=>rfl| true=>exact absurd (rY hp e) (by rw[i9.o.fine];simp));have j0:=mC O;have b1:(k:Int)<(ds.length:Int):=vO;(have b4:=jvu f8.o ds i9.o.fine k;have b0:(ds.take (k+1)).foldl Oh P=Oh ((ds.take k).foldl Oh P) p:=by rw[VN hp,dX];rfl);obtain⟨Q,hQ⟩:=vE ((ds.take k).foldl Oh P);rw[<-hQ]at d0 b4 b0;have e2:=Hd (bA b4 (b4.step O));have c5:=Hd b0;have c9:=d0.at'.meth;have K:=Hd (bA d0 (bA hD d1));obtain⟨ky,vl,gn⟩:=p;(simp only at q1 q2 q3 j0;clear hcell hp hb hcd h4 O b4 b0 d0 hD d1 hQ;have o8:=MN Q;have o9:=TJ Q;have p0:∀ w,(Go.method (522+1) Tk xk "guilloche/trie.drop").run prog w=.ok (Yq Q,xk) w:=c9.drop;have p1:∀ w,(Go.method (522+1) Tk xk "guilloche/trie.put").run prog w=.ok (BJ Q,xk) w:=c9.put;clear c9;go_wp2_with fail);(have p2:=Hd j0;clear q1 q2 q3;refine vC (Zu _ ky vO) fun w6 d2=>?_;have j1:=(Ae.new wr (.cells #[.string ky,.string vl,.bool gn] 47)).keeps d2 (fun e=>e);have f9:=((Aa wr).alloc (.cells #[.string ky,.string vl,.bool gn] 47)).trans d2;have q1:w6.cell? ⟨wr.heap.size,1,none⟩=some (.string vl):=j1.cell (i:=1) vF;have q2:w6.cell? ⟨wr.heap.size,2,none⟩=some (.bool gn):=j1.cell (i:=2) vF;have c0:=Hd f9;have m0:(Ci ky).size<=900000:=by have:=JT ky;omega);have m1:=Hd m0;clear d2 j1 f9 j0 m0;cases gn with| true =>have X:=Hd (NX Q e2.o.1.va w6 Tk xk D (Ci ky) (K.o.1.ext c0.o) m1.o (FE ky) e2.o.1.dp9);obtain⟨pb,O⟩:=vE (Ci ky);(have e5:=Hd O;rw[<-O]at X ⊢;clear O;go_wp2_with fail);(refine X.o.mono ?_;rintro e J ⟨v7,rfl,d3,d4⟩;have a4:(ds.take (k+1)).foldl Oh P=Ho Q pb:=by rw[c5.o,e5.o];rfl);have d5:=e2.o.2.there;rw[show Oh Q ⟨ky,vl,true⟩=Ho Q pb by rw[e5.o];rfl]at d5;obtain⟨T7,x7,rfl⟩:=d3.form d5;(have HF:=Hd (show Hm ((ds.take (k+1)).foldl Oh P) (.iface T7 x7) (Dj D w6 J) J from by rw[a4];exact Bh.own d3 d4 (K.o.1.ext c0.o).lt);have j2:=Hd d4;clear d3 d4 a4 d5;go_wp2_with fail);go_roundw;(case rel=>exact⟨k+1,T7,x7,_,by omega,by go_num,rfl,HF.o,fun z hz=>by rcases hz with hz|hz;{exact K.o.2.1 z hz};exact .inr (bF K.o.2.2.size (bF c0.o.size hz.1)),K.o.2.2.trans' ((c0.o.mono (fun _ _ e=>e.elim)).trans j2.o) (fun z hz e=>(K.o.2.1 z e).resolve_right vO)⟩);case measure=>exact vJ| false =>have X:=Hd (VJ Q e2.o.1.va w6 Tk xk D (Ci ky) vl (K.o.1.ext c0.o) m1.o (FE ky) e2.o.1.dp9);obtain⟨pb,O⟩:=vE (Ci ky);(have e5:=Hd O;rw[<-O]at X ⊢;clear O;go_wp2_with fail);(refine X.o.mono ?_;rintro e J ⟨v7,rfl,d3,d4⟩;have a4:(ds.take (k+1)).foldl Oh P=Dh Q pb vl:=by rw[c5.o,e5.o];rfl);have d5:=e2.o.2.there;rw[show Oh Q ⟨ky,vl,false⟩=Dh Q pb vl by rw[e5.o];rfl]at d5;obtain⟨T7,x7,rfl⟩:=d3.form d5;(have HF:=Hd (show Hm ((ds.take (k+1)).foldl Oh P) (.iface T7 x7) (Dj D w6 J) J from by rw[a4];exact Bh.own d3 d4 (K.o.1.ext c0.o).lt);have j2:=Hd d4;clear d3 d4 a4 d5;go_wp2_with fail);go_roundw;(case rel=>exact⟨k+1,T7,x7,_,by omega,by go_num,rfl,HF.o,fun z hz=>by rcases hz with hz|hz;{exact K.o.2.1 z hz};exact .inr (bF K.o.2.2.size (bF c0.o.size hz.1)),K.o.2.2.trans' ((c0.o.mono (fun _ _ e=>e.elim)).trans j2.o) (fun z hz e=>(K.o.2.1 z e).resolve_right vO)⟩);case measure=>exact vJ};obtain rfl:k=ds.length:=vO;rw[cD,HP.o,jvt HK.o b9.o i9.o]at d0;have j3:Hid (Af w wr):=(n3.o.trans' d1 (fun z hz e=>by have:=e.1;omega));obtain⟨W6,h7⟩:=vE (wr.alloc (.cells #[.slice none 0 0] 239));(have d2:Af wr W6:=by rw[h7];exact (Aa wr).alloc _);have j4:Dx wr.heap.size wr.heap.size (.slice none 0 0) [] W6:=⟨bP _,by rw[h7];exact Ae.new wr _,fE _ _ _ _,fun b hb=>(by cases hb),fun _=>rfl⟩;have k8:Bp (Da 13 (Em m))=En 12 (Em m):=UT 12 _ (Ou (Fr b9.o));have b5:=jtu 12 (Em m) (Ou (Fr b9.o)) wr W6 Tk xk D wr.heap.size (.slice none 0 0) [] (g6.o.1.ext j3.o) (g6.o.2.ext j3.o) d0 d2 j4 (by have:=OK (Fr b9.o);have:([]:vM).length=0:=rfl;show 0+Bp (Da 13 (Em m))<=100000;omega);rw[cL,show Bc (Da (12+1) (Em m))=(Ds m).text from jy7 b9.o,show Bu (Da (12+1) (Em m))=Hg m from rfl]at b5;have h8:=Hd (jS b9.o);have g0:=Hd (show Hj S (Gw l cs)=(Ds m).text::Ed S (Hg m)from by unfold Hj Gw;rw[<-n1.o]);obtain⟨t,ht⟩:=vE (Ds m).text;obtain⟨U,hU⟩:=vE (Hg m);(rw[<-ht, <-hU]at g0;rw[<-hU]at h8;rw[<-ht, <-hU]at b5;have k9:=Hd b5;have j5:=Hd (bA j4 (bA d2 h7));clear d0 hD d1 d2 j4 k8 b5 ht hU h7;go_wp2_with fail);rw[<-j5.o.2.2];refine k9.o.mono ?_;rintro e J ⟨rfl,v7,h9⟩;have b3:=Hd (bA h9.at' (bA (j3.o.trans (h9.ext0 j5.o.1 j5.o.2.1 (bP _))) h9.at'.var.lt));obtain⟨g,hg⟩:=vE wr.heap.size;rw[<-hg]at b3 ⊢;clear h9 hg;obtain⟨a7,c7,m2⟩:=Ir b3.o.1.row;obtain⟨n7,j6⟩:∃ n,n=U.length:=⟨_,rfl⟩;(have b2:=Hd b3.o.1.row;rw[<-j6]at m2 b2;subst m2;have j7:=Hd j6;have q7:=b3.o.1.var.cell (i:=0) (v:=.slice a7 n7 c7) vF;clear j6;have n5:(Instr.makeMap 133 none).run prog (J.alloc (.cells #[.string t] 9))=.ok (.map (some (J.heap.size+1))) ((J.alloc (.cells #[.string t] 9)).alloc (.map #[] 0)):=by rw[<-bG J (.cells #[.string t] 9)];exact Ec _);obtain⟨W8,e8⟩:=vE ((J.alloc (.cells #[.string t] 9)).alloc (.map #[] 0));obtain⟨mb,j8⟩:=vE (J.heap.size+1);(rw[<-e8, <-j8]at n5;have m3:Af J W8:=by rw[e8];exact ((Aa J).alloc _).alloc _);(have m4:Ae W8 mb (.map (Al.arr []) 0):=by rw[e8,j8, <-bG J (.cells #[.string t] 9)];exact Ae.new _ _);(have i0:Cd J (J.alloc (.cells #[.string t] 9)) (.slice (some ⟨J.heap.size,0,none⟩) 1 1) 1 [t]:=Av.lit (n:=1) #[.string t] (Aa J) vI rfl;have i0:Cd J W8 (.slice (some ⟨J.heap.size,0,none⟩) 1 1) 1 [t]:=by rw[e8];exact i0.mono ((Aa _).alloc _));(have n6:=Hd (show XL J S mb t U 0 (.slice (some ⟨J.heap.size,0,none⟩) 1 1) W8 from⟨⟨1,i0⟩,fun e=>by injection e with e;have e:J.heap.size=mb:=e;omega,[],0,m4,fun y=>rfl⟩);have q7:=Am q7 m3;have n8:=Hd (show J.heap.size<=mb by omega);clear e8 j8 m3 m4 i0;go_wp2_with fail);(go_loopw [19,86] (fun rv iv wr=>jzR J S mb t U rv iv wr) (fun _ iv _=>U.length-(intOf iv).toNat));(case atStart=>exact⟨0,by omega,rfl,n6.o⟩);case round =>obtain⟨k,hk,rfl,m5⟩:=hrel;by_cases hlt:k<U.length;{rcases Nat.eq_zero_or_pos n7 with h0|h0;{have:=j7.o;omega};obtain⟨b7,rfl⟩:=GJ b2.o vO;obtain⟨x,hx⟩:∃ x,U[k]?=some x:=⟨_,bB hlt⟩;obtain⟨⟨n,q⟩,d9,es,ck,h5,h6⟩:=m5;obtain⟨ar,cr,j9⟩:=q.sl;subst j9;have HX:=Hd q.ext;have qx:=Am (AP b2.o (j:=k) (u:=.string x) (by rw[bY,hx];rfl)) q.ext;obtain⟨cn,e9⟩:=vE (Ez (U.take k) x);(have p3:cn<=1000000:=by rw[e9];unfold Ez;refine bF jF ?_;rw[bU,cV];have:=h8.o;omega);(have e6:=h6 x;rw[<-e9]at e6;have k0:(Instr.lookup 133 (.map (some mb)) (.string x) false).run prog wr=.ok (.int .i64 (cn:Int)) wr:=by have:=Xd Al Bi h5 (Df wr) x.data.toList false;rw[e6]at this;unfold Jv at this;by_cases h0:cn=0;{rw[if_pos h0]at this;rw[h0];exact this};rw[if_neg h0]at this;exact this);obtain⟨a5,b6⟩:∃ Gb,Gb=Iy es x.data.toList (.int .i64 ((cn:Int)+1)) ck:=⟨_,rfl⟩;obtain⟨b8,g2⟩:∃ ck2,ck2=(if (Dr es x.data.toList).isSome then ck else ck+1):=⟨_,rfl⟩;obtain⟨W2,i1⟩:=vE (wr.putObj mb (.map (Al.arr a5) b8));(have k1:(Instr.mapUpdate 133 (.map (some mb)) (.string x) (.int .i64 ((cn:Int)+1))).run prog wr=.ok () W2:=by have:=Ze Al Bi h5 x.data.toList (.int .i64 ((cn:Int)+1));rw[<-b6, <-g2, <-i1]at this;exact this);(have B2:Ae W2 mb (.map (Al.arr a5) b8):=by rw[i1];exact h5.put_same _);(have e7:∀ y:vB,Dr a5 y.data.toList=Jv (Ez (U.take (k+1)) y):=fun y=>by rw[b6,DO,h6 y,VN hx,jpZ];by_cases hxy:y.data.toList=x.data.toList;{have n9:y=x:=ByteArray.ext (Array.ext' hxy);subst n9;rw[if_pos rfl,if_pos rfl, <-e9];unfold Jv;rw[if_neg vO];simp};rw[if_neg hxy,if_neg (fun e=>hxy e.symm)];rfl);(have g3:∀ W3,Af W2 W3->(Instr.lookup 133 (.map (some mb)) (.string x) false).run prog W3=.ok (.int .i64 ((cn:Int)+1)) W3:=fun W3 e3=>by have:=Xd Al Bi (B2.keeps e3 (fun e=>e)) (Df W3) x.data.toList false;rw[b6,DO,if_pos rfl]at this;exact this);(have K2:Ad (fun z=>z=mb) wr W2:=by rw[i1];exact Ad.onePut _ _ _);have O2:Cd J W2 (.slice ar n cr) n (t::Ed S (U.take k)):=q.keeps K2 (fun b hb e=>d9 (by rw[hb];exact congrArg some e)) (fun b hb e=>by have e:b=mb:=e;have:=n8.o;omega);have g4:=Hd (show n<=119 by have h1:=q.len;rw[bU,bS]at h1;have h2:=jK S (U.take k);rw[cV]at h2;have:=h8.o;omega);have g5:=Hd (show Ji (Hb (U.take k)) x=true↔cn≠0 from by rw[FV,Rb,e9];unfold Ez;rw[<-Nat.pos_iff_ne_zero,gE,bC];exact⟨fun hm=>⟨x,hm,rfl⟩,fun ⟨y,hy,e⟩=>by rw[<-show y=x from ByteArray.ext (Array.ext' e)];exact hy⟩);(have i2:=Hd (jqc S (U.take k) x);rw[<-VN hx]at i2;have e0:=Hd (show ∀ W3,Af W2 W3->∃ es ck,Ae W3 mb (.map (Al.arr es) ck)/\∀ y:vB,Dr es y.data.toList=Jv (Ez (U.take (k+1)) y)from fun W3 e3=>⟨a5,b8,B2.keeps e3 (fun e=>e),e7⟩);have k2:=Hd (bA B2 e7);have k3:=Hd g3;have c4:=Hd O2;have a8:=Hd d9;have b1:(k:Int)<(n7:Int):=by have:=j7.o;omega);have i3:=Hd (bA hk hlt);have p4:=h8.o;clear q d9 h5 h6 hx e9 e6 b6 g2 i1 B2 e7 g3 K2 O2 h0;by_cases hc0:cn=0;{subst hc0;have i4:=Hd (show Ji (Hb (U.take k)) x=false by cases hm:Ji (Hb (U.take k)) x with| false=>rfl| true=>exact absurd rfl (g5.o.1 hm));(have o5:(Instr.lookup 133 (.map (some mb)) (.string x) false).run prog wr=.ok (.int .i64 0) wr:=k0;have o6:(Instr.mapUpdate 133 (.map (some mb)) (.string x) (.int .i64 1)).run prog wr=.ok () W2:=k1;have l0:Hid (∀ W3,Af W2 W3->(Instr.lookup 133 (.map (some mb)) (.string x) false).run prog W3=.ok (.int .i64 1) W3):=k3.o;clear k0 k1 k3;go_wp2_with fail);refine vC (Tb _ _ [x] (by simp) (BA W2 [x] 9) (g6.o.1.ext (b3.o.2.1.trans (c4.o.ext.alloc _)))) fun w8 Z=>?_;rw[CA];have Z:=((Aa W2).alloc (.cells #[.string x] 9)).trans Z;have f0:=Hd Z;have A:=Hd (BG w8 s bm room S (Ak x) (l3.o.ext (b3.o.2.1.trans (c4.o.ext.trans Z))));have k4:Hid (Qc S x=(Be S (Ak x).data.toList).isNone):=rfl;obtain⟨ag,f1⟩:=vE (Be S (Ak x).data.toList);rw[<-f1]at A k4;obtain⟨sx,f2⟩:=vE (Ak x);rw[<-f2]at A ⊢;clear Z f1 f2 qx;cases ag with| some y =>obtain⟨ty,f3⟩:=vE y.2.2.text;(have d6:=Hd (show vQ 97 #[.pointer (some ⟨s,0,none⟩),.string sx] w8 (fun e w'=>e=.returned (.tuple #[.string y.2.2.text,.bool true])/\Af w8 w')from A.o);go_wp2_with fail);(refine d6.o.mono ?_;rintro e w9 ⟨rfl,a0⟩;have H:=Hd (f0.o.trans a0);clear a0;rw[<-f3];clear f3;have f4:Ed S (U.take (k+1))=Ed S (U.take k):=by rw[i2.o];rw[if_neg (by rw[i4.o];simp),if_neg (by rw[k4.o];simp),cB]);(have HF:=Hd f4;clear f4;go_wp2_with fail);go_roundw;(case rel=>exact⟨k+1,by have:=i3.o;omega,by go_num,⟨n,by rw[HF.o];exact c4.o.mono H.o⟩,a8.o,e0.o w9 H.o⟩);case measure=>exact vJ| none =>(have d6:=Hd (show vQ 97 #[.pointer (some ⟨s,0,none⟩),.string sx] w8 (fun e w'=>e=.returned (.tuple #[.string ⟨#[]⟩,.bool false])/\Af w8 w')from A.o);go_wp2_with fail);(refine d6.o.mono ?_;rintro e w9 ⟨rfl,a0⟩;have H:=Hd (f0.o.trans a0);clear a0;have l1:=l0.o w9 H.o;have o0:n+1<=maxLen:=by have:=g4.o;unfold maxLen;omega);(have o1:(n+1)*16<=140737488355328:=by have:=g4.o;omega);(go_wp2_with (at_builtin;refine Rc Cg ((c4.o.mono H.o).mono ((Aa w9).alloc _)) (.tmp 110) (.tmp 112) rfl rfl rfl (Jx (Ae.new w9 _)) (news:=[.string x]) (by intro u hu;simp at hu;rcases hu with rfl;rfl) rfl rfl o0 o1 ?_;intro v' w' r1 r2 r3));(have k5:Cd J w' v' (n+1) (t::Ed S (U.take (k+1))):=by(have e1:Ed S (U.take (k+1))=Ed S (U.take k)++[x]:=by rw[i2.o,if_neg (by rw[i4.o];simp),if_pos (by rw[k4.o];rfl)]);unfold Cd;rw[e1, <-cR,bW];exact r1);obtain⟨o2,o3,rfl⟩:=k5.sl;have l2:=(k2.o.1.keeps H.o (fun e=>e)).lt;have m6:=Hd (bA k5 (show (Value.slice o2 (n+1) o3).ownBlock≠some mb from fun e=>by rcases r3 with r3|r3;{exact a8.o (r3 ▸ e)};have:=r3 mb e;rw[bG]at this;omega));(have o4:=Hd (((k2.o.1.keeps H.o (fun e=>e)).alloc (.cells #[.string x] 9)).keeps r2 (fun e=>a8.o e));clear r1 r2 r3 k5 l2;go_wp2_with fail);go_roundw;(case rel=>exact⟨k+1,by have:=i3.o;omega,by go_num,⟨n+1,m6.o.1⟩,m6.o.2,a5,b8,o4.o,k2.o.2⟩);case measure=>exact vJ};have p5:¬((cn:Int)+1=1):=vO;(have p6:(((cn:Int)+1) == 1)=false:=by simp;omega);(have i4:=Hd (g5.o.2 hc0);go_wp2_with fail);refine vC (Tb _ _ [x] (by simp) (BA W2 [x] 9) (g6.o.1.ext (b3.o.2.1.trans (c4.o.ext.alloc _)))) fun w8 Z=>?_;rw[CA];have Z:=((Aa W2).alloc (.cells #[.string x] 9)).trans Z;have f0:=Hd Z;have A:=Hd (BG w8 s bm room S (Ak x) (l3.o.ext (b3.o.2.1.trans (c4.o.ext.trans Z))));obtain⟨ag,f1⟩:=vE (Be S (Ak x).data.toList);rw[<-f1]at A;obtain⟨sx,f2⟩:=vE (Ak x);(rw[<-f2]at A ⊢;clear Z f1 f2 qx k0 k1;have f4:Ed S (U.take (k+1))=Ed S (U.take k):=by rw[i2.o,if_pos i4.o,cB]);have HF:=Hd f4;clear f4;cases ag with| some y =>obtain⟨ty,f3⟩:=vE y.2.2.text;(have d6:=Hd (show vQ 97 #[.pointer (some ⟨s,0,none⟩),.string sx] w8 (fun e w'=>e=.returned (.tuple #[.string y.2.2.text,.bool true])/\Af w8 w')from A.o);go_wp2_with fail);(refine d6.o.mono ?_;rintro e w9 ⟨rfl,a0⟩;have H:=Hd (f0.o.trans a0);clear a0;rw[<-f3];clear f3;go_wp2_with fail);go_roundw;(case rel=>exact⟨k+1,by have:=i3.o;omega,by go_num,⟨n,by rw[HF.o];exact c4.o.mono H.o⟩,a8.o,e0.o w9 H.o⟩);case measure=>exact vJ| none =>(have d6:=Hd (show vQ 97 #[.pointer (some ⟨s,0,none⟩),.string sx] w8 (fun e w'=>e=.returned (.tuple #[.string ⟨#[]⟩,.bool false])/\Af w8 w')from A.o);go_wp2_with fail);(refine d6.o.mono ?_;rintro e w9 ⟨rfl,a0⟩;have H:=Hd (f0.o.trans a0);clear a0;have l1:=k3.o w9 H.o;go_wp2_with fail);go_roundw;(case rel=>exact⟨k+1,by have:=i3.o;omega,by go_num,⟨n,by rw[HF.o];exact c4.o.mono H.o⟩,a8.o,e0.o w9 H.o⟩);case measure=>exact vJ};obtain rfl:k=U.length:=vO;obtain⟨⟨n,q⟩, -, -⟩:=m5;obtain⟨ar,cr,j9⟩:=q.sl;(subst j9;rw[cD]at q;have a9:=Hd q;have p7:¬((U.length:Int)<(n7:Int)):=by have:=j7.o;omega);(clear q;go_wp2_with fail);(go_ret2;unfold Uc;rw[if_pos n0.o,g0.o];have hn:(t::Ed S U).length=n:=by have:=a9.o.len;simpa using this);rw[hn];exact⟨_,rfl,a9.o.sl,a9.o.own,b3.o.2.1.trans a9.o.ext,fun b hb=>bF b3.o.2.1.size (a9.o.new b hb)⟩
def Oy(w:vW)(s bm:Nat)(room:Int)(S:vT)(l:vL)(cs:List Bk)(e:Ending)(w':vW):Prop:=
 (Fi l cs≠0/\e=.returned (.tuple #[.string ⟨#[]⟩,.int .i64 (Fi l cs)])/\Af w w')\/(Fi l cs=0/\∃ w1,Af w w1/\OR False w1 s bm room S (Hj S (Gw l cs)) e w')
theorem Oy.bad{w:vW}{s:Nat}(h:Fi l cs=x)(h0:x≠0)(hE:Af w w'):Oy w s bm room S l cs (.returned (.tuple #[.string ⟨#[]⟩,.int .i64 x])) w':=by
 subst h;exact .inl ⟨h0,rfl,hE⟩
theorem Oy.go{w:vW}{s:Nat}(h:Fi l cs=0)(hL:L=Hj S (Gw l cs))(hE:Af w w1)(hA:OR False w1 s bm room S L e w'):Oy w s bm room S l cs e w':=by
 subst hL;exact .inr ⟨h,w1,hE,hA⟩
theorem WB(h:Dv m=0):(Hj S m).length<=119:=by
 unfold Hj;rw[bS];have e:=jK S (Hg m);have q:=jS h;omega
theorem pS(h:Dv m=0)(ht:t∈Hj S m):t∈Bz (Ds m):=by
 unfold Hj at ht;have e:Bz (Ds m)=(Ds m).text::Hg m:=by rw[UQ h];show Bz (.mk _ _)=_;rw[Bz];rfl
 rw[e];rcases bT.1 ht with rfl|ht
 ·exact bO
 ·unfold Ed at ht;exact bM _ ((Rb _ _).1 (cG.1 ht).1)
theorem js9(h:Dv m=0):∀ t∈Hj S m,∃ n,Ht t n:=fun t e=>by
 obtain⟨n,q,_⟩:=(XC h).node t ((Rb _ _).2 (pS h e))
 exact⟨n,q⟩
theorem lK(hc:Ha w)(he:Gj w)(s bm:Nat)(room:Int)(S:vT)(hs:Ev w s bm room S)(hN:BH S)(l:vL)(h:Ru S l)(u:vV)(cs:List Bk)(hu:Jb w u cs)(hnc:cs.length<=9223372036854775807)(hsc:∀ c∈cs,c.key.size<=9223372036854775807/\c.value.size<=9223372036854775807)(hr0:0<=room)(hr1:room<=9223372036854775807)(hS:S.length<=100000)(hSu:∀ x∈S,0<=x.2.2.used/\x.2.2.used<=1000000000)(hSh:∀ x∈S,0<=x.2.2.held/\x.2.2.held<=1000000000) :
  vQ 37 #[.pointer (some ⟨s,0,none⟩),.string (Cc l),u] w (Oy w s bm room S l cs):=by
 have HU:=Hd (xQ w hc he s bm room S hs hN l h u cs hu hnc hsc);have X:=Hd (bA hc he);have a4:=Hd hs;have HB:=Hd (bA hS (bA hSu hSh));have HR:=Hd (bA hr0 hr1)
 obtain⟨a,c,a5⟩:=hu.sl
 subst a5
 obtain⟨rt,Z⟩:=vE (Cc l)
 rw[<-Z]at HU ⊢;clear Z hs hN h hc he hu hnc hsc hS hSu hSh hr0 hr1;unfold vQ;go_in;go_wp2_with fail
 refine HU.o.mono ?_;rintro e w1 hU;unfold Uc at hU
 by_cases h0:Fi l cs=0
 case neg =>rw[if_neg h0]at hU;obtain⟨rfl,hE⟩:=hU;have J:=Hd hE;obtain⟨x0,K⟩:=vE (Fi l cs);(have a7:=Hd K.symm;rw[<-K]at h0 ⊢;have H0:=Hd h0;have b0:(x0 != 0)=true:=by simpa using h0);(have b1:(x0 == 0)=false:=by simpa using h0);(clear hE K h0;go_wp2_with fail);go_ret2;exact Oy.bad a7.o H0.o J.o
 rw[if_pos h0]at hU
 obtain⟨r,rfl,hR⟩:=hU
 have H0:=Hd h0;have q:=Ye h0;have q:Dv (Gw l cs)=0:=q;have O:=WB (S:=S) q;have a0:=Hd hR.rd;have J:=Hd hR.ext;have a1:=Hd (jpL (js9 (S:=S) q));have A:Hid ((Hj S (Gw l cs))[0]?=some (Ds (Gw l cs)).text):=rfl
 obtain⟨L,hL⟩:=vE (Hj S (Gw l cs))
 rw[<-hL]at a0 a1 A O hR;have a2:=Hd hL;have a8:=Hd O
 obtain⟨a3,c3,e3⟩:=hR.sl
 subst e3
 obtain⟨top,H⟩:=vE (Ds (Gw l cs)).text
 rw[<-H]at A;clear hR hL h0 q O H;go_wp2_with fail
 refine (oV w1 (X.o.1.ext J.o) (X.o.2.ext J.o) s bm room S (a4.o.ext J.o) _ L a0.o False a1.o (by have:=a8.o;omega) top A.o HR.o.1 HR.o.2 HB.o.1 HB.o.2.1 HB.o.2.2).mono ?_;intro e w2 hA;have HA:=Hd hA;rcases hA with⟨k,_,_,rfl,_⟩|⟨_,_,_,_,hY⟩
 ·(go_wp2_with fail);go_ret2;exact Oy.go H0.o a2.o J.o HA.o
 ·have a9:=hY.res;(subst a9;clear hY;go_wp2_with fail);go_ret2;exact Oy.go H0.o a2.o J.o HA.o
end
section
open Go Go.RowKit
theorem jp9(h:Dv m=0):Bz (Ds m)=(Ds m).text::Hg m:=by
 rw[UQ h];show Bz (.mk _ _)=_;rw[Bz];rfl
theorem jv9(S:vT)(h:Dv m=0):Rw S m (Hj S m):=
 ⟨h,rfl,fun t e=>(Rb _ _).2 (pS h e),fun t e=>by
  have e:=(Rb (Bz (Ds m)) t).1 e;rw[jp9 h]at e;unfold Hj;rcases bT.1 e with rfl|e
  ·exact .inl bO
  ·cases hl:Qc S t with
   |true=>exact .inl (bM _ (cG.2 ⟨(Rb _ _).2 e,hl⟩))
   |false =>
    refine .inr (Xi.1 ?_);unfold Qc at hl;unfold ky;cases ha:Be S (Ak t).data.toList with
    |none=>rw[ha]at hl;cases hl
    |some x=>rfl⟩
theorem Rt.ahead{w:vW}(h:Rt w1 U S m L S')(hw:w.heap.size<=w1.heap.size):Rt w U S m L S':=
 ⟨h.kp,h.key,h.held,h.sum,h.len,fun x q=>(h.blk x q).imp id (fun e=>bF hw e),h.bd⟩
structure CZ(w:World)(s bm:Nat)(room:Int)(U:vM)(S:vT)(m:vL)(L:vM)(e:Ending)(w':World)(S':vT):Prop where
 res:e=.returned (.tuple #[.string (Cc m),.int .i64 0])
 st:Ev w' s bm room S'
 add:Rt w U S m L S'
 kp:Ad (fun z=>z=bm\/z∈S.map (·.2.1)) w w'
 fits:(S'.length:Int)<=room\/room<S.length
def IG(w:vW)(room:Int)(S:vT)(L:vM)(e:Ending)(w':vW):Prop:=e=.returned (.tuple #[.string ⟨#[]⟩,.int .i64 3])/\Af w w'/\room<(S.length:Int)+(L.length:Int)
theorem juo(w0 w:vW)(hU:He U)(hK:Kp U S)(hp:Rw S m L)(hs:∀ t∈Nf m,t∈U)(hl:L.length<=1000){s:Nat}(hE:Af w0 w)(h:OR False w s bm room S L e w') :
  IG w0 room S L e w'\/∃ S',CZ w0 s bm room U S m L e w' S':=by
 rcases h with⟨k,hwhy,_,rfl,hE2⟩|⟨top,G,M,htop,hY⟩
 ·obtain⟨rfl,H⟩:=hp.why w hwhy;exact .inl ⟨rfl,hE.trans hE2,H⟩
 ·(have q:top=(Ds m).text:=by have:=hp.head;rw[htop]at this;exact bV this);subst q;refine .inr ⟨_,hY.res,hY.st,(hp.add w hU hK hs hl hY).ahead hE.size,(hE.mono (fun _ _ e=>e.elim)).trans hY.kp,?_⟩;have J:=hY.fits;have A:=OF (S:=S) (G:=G) (M:=M) (top:=(Ds m).text);have A:(Yw (Ak (Ds m).text).data.toList (Pq ((Cq S M).flatMap (Ik G)) (S++La G (Cq S M)))).length<=S.length+(Cq S M).length:=A;omega
theorem xA(hU:He U)(hK:Kp U S)(h0:Fi l cs=0)(hs:∀ t∈Nf (Gw l cs),t∈U){s:Nat}(h:Oy w s bm room S l cs e w') :
  IG w room S (Hj S (Gw l cs)) e w'\/∃ S',CZ w s bm room U S (Gw l cs) (Hj S (Gw l cs)) e w' S':=by
 rcases h with⟨h1,_⟩|⟨_,w1,hE,h⟩
 ·exact absurd h0 h1
 ·have q:Dv (Gw l cs)=0:=Ye h0;exact juo w w1 hU hK (jv9 S q) hs (by have:=WB (S:=S) q;omega) hE h
theorem juU(hU:He U)(hK:Kp U S)(h0:Fi l cs=0)(hs:∀ t∈Nf (Gw l cs),t∈U){s:Nat}(h:Oy w s bm room S l cs e w')(hr:(S.length:Int)+((Hj S (Gw l cs)).length:Int)<=room) :
  ∃ S',CZ w s bm room U S (Gw l cs) (Hj S (Gw l cs)) e w' S':=by
 rcases xA w hU hK h0 hs h with⟨_,_,h3⟩|h3
 ·omega
 ·exact h3
def AI(r:vB):vV->Bool
 |.string q=>decide (q=r)
 |_=>false
def Qx(es:List (Ce Int))(r:vB):Nat:=es.countP fun x=>AI r x.2.1
theorem lJ{r:vB}:∀ {es:List (Ce Int)} {x:Ce Int},x∈es->(es.map (·.1)).Nodup->Qx es r=Qx (Jr es x.1) r+if AI r x.2.1=true then 1 else 0
 |y::t,x,q,hn=>by
  obtain⟨A,H⟩:=dF.1 hn
  unfold Jr Qx;rw[List.countP_cons]
  by_cases e:x.1=y.1
  ·rw[if_pos e]
   have:x=y:=by
    rcases bT.1 q with h|h
    ·exact h
    ·exact absurd (bC.2 ⟨x,h,e⟩) A
   rw[this]
  ·rw[if_neg e,List.countP_cons]
   have q:x∈t:=(bT.1 q).resolve_left fun h=>e (by rw[h])
   have:=lJ (r:=r) q H
   unfold Qx at this;omega
theorem ju1{y:Ce Int}(h:y∈es)(hk:y.1≠k):y∈Jr es k:=by
 induction es with
 |nil=>cases h
 |cons z t ih =>unfold Jr;split;{rename_i e;exact (bT.1 h).resolve_left fun h=>hk (by rw[h,e])};rcases bT.1 h with rfl|h;{exact bO};exact bM _ (ih h)
theorem ju2:(Jr es k).Sublist es:=by
 induction es with
 |nil=>exact .slnil
 |cons z t ih =>unfold Jr;split;{exact iA _ _};exact ih.cons_cons _
theorem RL{k:Int}{v:vV}{n:Nat}:∀ {es:List (Ce Int)},(es.map (·.1)).Nodup->((k,v,n):Ce Int)∈es->Dr es k=some v
 |y::t,hn,h=>by
  obtain⟨q,A⟩:=dF.1 hn
  unfold Dr;rw[fL]
  by_cases e:k=y.1
  ·rw[decide_eq_true e]
   rcases bT.1 h with h|h
   ·rw[<-h];rfl
   ·exact absurd (bC.2 ⟨_,h,e⟩) q
  ·rw[decide_eq_false e]
   exact RL A ((bT.1 h).resolve_left fun h=>e (by rw[<-h]))
theorem U_{w:vW}{s s' bm':Nat}{y:Gd}(hst:Ev w0 s bm room S)(hy:Be S r.data.toList=some y)(hp:0<y.2.2.held)(hc:Ni S)(hD:GQ w s' bm' room' S S' y w')(q:vB) :
  Xn (Be S' q.data.toList)=Xn (Be S q.data.toList)-if q=r then 1 else 0:=by
 obtain⟨J,K⟩:=Fa hy
 have hz:∀ z∈S,z.1=q.data.toList->Be S q.data.toList=some z/\(Cl 3 y.2.1 (y.2.2.held-1) z).2.2.held=z.2.2.held-if q=r then 1 else 0:=fun z H O=>by(have ha:Be S q.data.toList=some z:=by cases e:Be S q.data.toList with| none=>exact absurd O.symm (DR.1 e z H)| some u=>rw[Pk hst.nd (Fa e).1 H ((Fa e).2.trans O.symm)]);refine⟨ha,?_⟩;unfold Cl;by_cases e:z.2.1=y.2.1;{have X:z=y:=Pk hst.mp.blks H J e;have A:q=r:=ByteArray.ext (Array.ext' (O.symm.trans (by rw[X];exact K)));rw[if_pos e,if_pos A,X];rfl};have A:q≠r:=fun A=>e (by rw[A]at O;rw[Pk hst.nd H J (O.trans K.symm)]);rw[if_neg e,if_neg A];omega
 cases e:Be S' q.data.toList with
 |some u =>obtain⟨u1,u2⟩:=Fa e;obtain⟨v,hv,e1,_,_,_,e5⟩:=hD.sub u u1;obtain⟨z,H,rfl⟩:=bC.1 hv;obtain⟨h3,Z⟩:=hz z H (by rw[<-(BX y.2.1 (y.2.2.held-1) z).2.2.1, <-e1,u2]);rw[h3];show u.2.2.held=z.2.2.held-_;rw[e5,Z]
 |none =>cases e2:Be S q.data.toList with| none =>(have A:q≠r:=fun A=>by rw[A,hy]at e2;cases e2);rw[if_neg A];rfl| some z =>obtain⟨z1,z2⟩:=Fa e2;(have Z:=(hz z z1 z2).2;have hs:=hD.stay _ (bC.2 ⟨z,z1,rfl⟩);rw[(BX y.2.1 (y.2.2.held-1) z).2.2.1,z2,Z]at hs;have a0:=hc.held z z1;have hn:¬ 0<z.2.2.held-(if q=r then 1 else 0):=fun h=>by obtain⟨u,hu⟩:=cX.1 (Xi.2 (hs h));rw[e]at hu;cases hu);show (0:Int)=z.2.2.held-_;by_cases A:q=r;{rw[if_pos A]at hn ⊢;(have:z=y:=by rw[A,hy]at e2;exact (bV e2).symm);rw[this]at hn ⊢;omega};rw[if_neg A]at hn ⊢;omega
structure JF(U:vM)(P:List (Int × vL))(es:List (Ce Int))(S:vT):Prop where
 kp:Kp U S
 nd:(es.map (·.1)).Nodup
 cnt:∀ r,(Qx es r:Int)<=Xn (Be S r.data.toList)
 new:∀ q∈P,∃ k,((q.1,.string (Cc q.2),k):Ce Int)∈es
theorem JF.has{U:vM}{P:List (Int × vL)}{L:vL}{nb:Int}{es:List (Ce Int)}{S:vT}(h:JF U P es S)(hp:(nb,L)∈P)(w:vW)(hU:He U)(hL:Dv L=0)(hs:∀ t∈Nf L,t∈U):Ru S L:=by
 obtain⟨k,A⟩:=h.new _ hp
 refine h.kp.has w hU hL hs ?_;have q:=h.cnt (Cc L);have H:0<Qx es (Cc L):=List.countP_pos_iff.2 ⟨_,A,by simp[AI]⟩;rw[<-Xi];cases e:Be S (Cc L).data.toList with
 |none=>rw[e]at q;simp[Xn]at q;omega
 |some u=>rw[show ky (Ds L).text=(Cc L).data.toList from rfl,e];rfl
theorem JF.drop{P:List (Int × vL)}(h:JF U P es S){x:Ce Int}(hx:x∈es)(hn:∀ q∈P,x.1≠q.1)(hr:x.2.1=.string r)(hD:PG S r S'):JF U P (Jr es x.1) S':=by
 have J:=fun q=>lJ (r:=q) hx h.nd;have hN:∀ q∈P,∃ k,((q.1,.string (Cc q.2),k):Ce Int)∈Jr es x.1:=fun q K=>by obtain⟨k,O⟩:=h.new q K;exact⟨k,ju1 O fun e=>hn q K e.symm⟩
 have A:=(ju2 (k:=x.1) |>.map (·.1)).nodup h.nd;rcases hD with⟨_,rfl⟩|⟨w,s,bm,room,y,w',hst,hy,hp,hY⟩
 ·exact⟨h.kp,A,fun q=>by have:=J q;have:=h.cnt q;split at *<;>omega,hN⟩
 ·refine⟨h.kp.drop hY,A,fun q=>?_,hN⟩;have H:=J q;have X:=h.cnt q;rw[U_ hst hy hp h.kp.cnt hY q];rw[hr]at H;by_cases e:q=r;{rw[if_pos e];rw[if_pos (by simp[AI,e])]at H;omega};rw[if_neg e];rw[if_neg (by simp[AI];exact fun h=>e h.symm)]at H;omega
theorem JF.clean{P:List (Int × vL)}{l:List Au}(h:JF U P es S)(hl:∀ q∈P,Bx l q.1=true)(hC:Tp l es S es' S'):JF U P es' S':=
 hC (JF U P) (fun X S1 x r Z A H hb J K=>A.drop H (fun q O e=>by rw[e,hl q O]at hb;cases hb) J K) h
theorem JF.more{P P':List (Int × vL)}(h:JF U P es S){w:vW}(hA:Rt w U S m T S')(hn:(M.next:Int) ∉ es.map (·.1))(hP:∀ q∈P',q=((M.next:Int),m)\/q∈P):JF U P' (Rk es M (Cc m) ck) S':=by
 refine⟨hA.kp,?_,fun r=>?_,fun q A=>?_⟩
 ·unfold Rk;rw[bW,dS];refine⟨h.nd,by simp,fun x K y H e=>?_⟩;(have H:y=(M.next:Int):=by simpa using H);exact hn (by rw[<-H, <-e];exact K)
 ·have J:=h.cnt r;rw[hA.held];unfold Rk Qx;rw[List.countP_append,List.countP_singleton];unfold Qx at J;by_cases e:r=Cc m;{rw[if_pos (show r.data.toList=ky (Ds m).text by rw[e];rfl)];split<;>omega};have O:¬ r.data.toList=ky (Ds m).text:=fun h=>e (ByteArray.ext (Array.ext' h));(have X:AI r (.string (Cc m))=false:=by simp[AI];exact fun h=>e h.symm);rw[if_neg O];simp only[X];simp;exact J
 ·rcases hP q A with rfl|A;{exact⟨ck,by unfold Rk;simp⟩};obtain⟨k,Z⟩:=h.new q A;exact⟨k,by unfold Rk;exact gL _ Z⟩
structure Fy where
 k:Int
 v:vV
 cs:List Bk
 n:Int
def Zs(w:vW)(v:vV)(xs:List Fy):Prop:=
 (∃ a c,v=.slice a 0 c/\xs=[])\/∃ b o c,v=.slice (some ⟨b,o,none⟩) xs.length c/\b<w.heap.size/\xs.length<=c/\∀ (j:Nat) x,xs[j]?=some x->w.cell? ⟨b,o+j*3,none⟩=some (.int .i64 x.k)/\w.cell? ⟨b,o+j*3+1,none⟩=some x.v/\w.cell? ⟨b,o+j*3+2,none⟩=some (.int .i64 x.n)/\Jb w x.v x.cs
theorem Zs.ext{w:vW}{xs:List Fy}(h:Zs w v xs)(k:Af w w'):Zs w' v xs:=by
 rcases h with h|⟨b,o,c,h1,h2,h3,h4⟩
 ·exact .inl h
 ·exact .inr ⟨b,o,c,h1,bE h2 k.size,h3,fun j x e=>⟨Am (h4 j x e).1 k,Am (h4 j x e).2.1 k,Am (h4 j x e).2.2.1 k,(h4 j x e).2.2.2.ext k⟩⟩
theorem Zs.sl{w:vW}{xs:List Fy}(h:Zs w v xs):∃ a c,v=.slice a xs.length c:=by
 rcases h with⟨a,c,rfl,rfl⟩|⟨b,o,c,rfl,_⟩
 ·exact⟨a,c,rfl⟩
 ·exact⟨_,c,rfl⟩
def KC(l:List Fy):Prop:=∀ p∈l,p.cs.length<=9223372036854775807/\∀ c∈p.cs,c.key.size<=9223372036854775807/\c.value.size<=9223372036854775807
theorem qQ(l:List Au)(bk:Int):Bx l bk=(l.map fun v=>(v.block:Int)).any fun x=>decide (x=bk):=by
 unfold Bx Ks;rw[List.findIdx?_isSome,List.any_map];rfl
theorem ZD:(Ek M x).1.all.map (fun v=>(v.block:Int))=M.all.map fun v=>(v.block:Int):=by
 unfold Ek;split
 ·rfl
 split
 ·rfl
 split
 ·rfl
 rename_i v hv hp
 have h:=aR (p:=v.pins+1) hv;show (Ke M _ v (v.pins+1)).map (fun v=>(v.block:Int))=_;have e:∀ l:List Au,l.map (fun v=>(v.block:Int))=(l.map Au.block).map fun n:Nat=>(n:Int):=fun l=>by rw[dA];rfl
 rw[e,e,h]
theorem jyA:Bx (Ek M x).1.all k=Bx M.all k:=by rw[qQ,qQ,ZD]
theorem jyB:(Ek M x).1.all.length=M.all.length:=by
 have:=congrArg List.length (ZD (M:=M) (x:=x))
 simpa using this
theorem jsu{l:List Au}(h:Bx l bk=true):∃ i v,Ks l bk=some i/\l[i]?=some v:=by
 unfold Bx at h
 obtain⟨i,e⟩:=cX.1 h
 obtain⟨v,q,_⟩:=JB e
 exact⟨i,v,e,q⟩
end
section
open Go Go.RowKit
attribute [local go_sem] Oper.semAt_some
end
section
open Go Go.RowKit
end
section
open Go Go.RowKit
attribute [local go_sem] Oper.semAt_some
end
section
open Go Go.RowKit
end
section
open Go Go.RowKit
attribute [local go_sem] Oper.semAt_some
theorem Yo(n:Nat):Af w (w.drewN n):=(Aa w).drewN n
def Xb:vV->vV->Nat | .bool true,pv=>GX pv+1|_,_=>0
def Sr:Option vB->vV|some u=>.tuple #[.string u,.int .i64 0]|none=>.tuple #[.string ⟨#[]⟩,.int .i64 9]
def jzu(z g:Nat)(v:vV)(W:vW)(A:vM)(V:Option vB)(e:Ending)(w':vW):Prop:=e=.returned (Sr V)/\∃ v',Sz z g v W w' v' A
end
section
open Go Go.RowKit
theorem jwC{d:Nat}{p q:vB}(hg:Gi (Bs d) n)(hp:Dz p=true)(hs:Rm n p=(r,q))(hr:r.size≠0):Gf (Bs d) r/\q.size<p.size/\Dz q=true:=by
 obtain⟨k,H,O,J⟩:=n
 have K:=oI hg hp hs hr;rcases K with⟨rfl,h1,h2,rfl,h3⟩|⟨rfl,x,t,h1,h2,rfl⟩
 ·cases hg with| ext p' r' a1 a2 a3 =>(have e:r'=r:=bV h2;subst e;have A:1<=H.size:=by unfold Ai.pathOk at a1;simp only[cI,decide_eq_true_eq]at a1;exact a1.1.1);refine⟨a3.imp id (fun ⟨m,h,_⟩=>⟨m,h⟩),by rw[Jp];omega,Px hp _ _⟩
 ·cases hg with| branch v J a1 a2 a3 a4 =>(have A:0<p.size:=by have:=congrArg List.length h1;rw[Ix]at this;simp at this;omega);exact⟨a3 r (bD h2) hr,by rw[Jp];omega,Px hp _ _⟩
end
section
open Go Go.RowKit
attribute [local go_sem] Oper.semAt_some
theorem wJ(x:vB):vQ 96 #[.string x] W fun e w'=>e=.returned (.tuple #[])/\w'=W:=by
 unfold vQ;go_in;go_wp2_with fail
 refine bodyPost_end (results_none rfl _ _ _) rfl ?_
 exact⟨rfl,rfl⟩
theorem sD(bm:Nat)(room:Int)(S:vT)(hs:Ev W s bm room S)(k:vB)(y:Gd)(hy:Be S k.data.toList=some y)(f:Nat)(n:Ai)(hg:Gi (Bs f) n)(ht:y.2.2.text=Cr n) :
  vR 141 #[.pointer (some ⟨s,0,none⟩),.string k,.func (.func 96) #[] #[]] W (.tuple #[n.V,.bool true]):=by
 have hn:=(hg.one (Br f)).refs;have HN:=Hd hn;have HG:=Hd hg;have HL:=Hd (n.cells_len hn);have q:=fun w (h:Ev w s bm room S)=>BG w s bm room S k h;rw[hy]at q;simp only[fW,Dg]at q;have K:=Hd q;have HS:=Hd hs
 obtain⟨t,O⟩:=vE y.2.2.text
 rw[<-O]at K ht;have HT:=Hd ht;clear q hs hg ht hn hy O;unfold vR vQ;go_in;go_wp2_with (refine Di Ac rfl rfl ?_;intro W1 X H)
 refine vC (K.o W1 (HS.o.ext H)) fun w3 J=>?_;have Z:=Hd (X.keeps J (fun h=>h));have a1:=Hd (H.trans J);clear J X H;go_wp2_with fail
 refine (wJ w3 t).mono ?_;rintro e w4 ⟨rfl,rfl⟩;go_wp2_with fail
 rw[HT.o];refine vC (Zt (Br f) w4 n HG.o) fun w5 J=>?_;rw[<-HT.o];have A:=Z.o.keeps J (fun h=>h);have a2:=Hd J;clear J Z;unfold Ai.V;go_wp2_with (first|(refine Di Ac rfl rfl ?_;intro W5 a5 a3;refine Bv (vs:=n.cells) rfl rfl rfl rfl a5 (by rw[HL.o];rfl) (by rw[HL.o];exact Ab) n.one ?_;intro W6 a7 a4;have a0:=(A.keeps a3 (fun h=>h)).keeps a4 (by have:=A.lt;omega))|(refine Gv 215 (.tmp 10) rfl rfl _ _ rfl (Jq _ _ n HN.o a7) ?_)|(refine Bv (vs:=n.cells) rfl rfl rfl rfl a0 (by rw[HL.o];rfl) (by rw[HL.o];exact Ab) n.one ?_;intro W8 a8 a9))
 refine bodyPost_ret (Od rfl rfl rfl (Pm W8 _ n HN.o a8)) rfl ?_;have b0:Af W W6:=(((a1.o.trans a2.o).trans a3)).trans' a4 (fun x hx e=>by have e:x=w5.heap.size:=e;have:=a2.o.size;have:=a1.o.size;omega)
 exact⟨rfl,b0.trans' a9 (fun x hx e=>by have e:x=W.heap.size:=e;omega)⟩
noncomputable def Jw(S:vT):Nat->Ai->vB->Option vB
 |0,_,_=>none
 |f+1,n,p=>match Pp n p with
  |some u=>some u
  |none=>if (Rm n p).1.size=0 then none else (Bn S (Rm n p).1).bind fun m=>Jw S f m (Rm n p).2
theorem nQ{p u:vB}(h:Pp n p=some u):Jw S (f+1) n p=some u:=by
 rw[Jw,h]
theorem jvs{p:vB}(h:Pp n p=none):Jw S (f+1) n p=if (Rm n p).1.size=0 then none else (Bn S (Rm n p).1).bind fun m=>Jw S f m (Rm n p).2:=by
 rw[Jw,h]
def yC(W:vW)(L:Nat)(S:vT)(V:Option vB)(okv pv:vV)(wr:vW):Prop:=
 ∃ (p:vB),pv=.string p/\Af W wr /\
  ((okv=.bool true/\∃ f d n,Gi (Bs d) n/\Dz p=true/\p.size<=2000/\p.size<f/\Jw S f n p=V/\Ae wr L (.cells n.cells.toArray 215)) \/
  (okv=.bool false/\V=none))
theorem Yt{W W'':vW}{L:Nat}(h:Af W W')(e:Ad (fun b=>b=L) W' W'')(h3:W.heap.size<=L):Af W W'':=
 h.trans' e (fun x q y=>by have y:x=L:=y;omega)
theorem jqb(bm:Nat)(room:Int)(S:vT)(hs:Ev W s bm room S)(hN:BH S)(root:vB)(y:Gd)(hy:Be S root.data.toList=some y)(key:vB)(hk:key.size<=1000) :
  vR 95 #[.pointer (some ⟨s,0,none⟩),.string root,.string key,.func (.func 96) #[] #[]] W (Sr (Jw S ((Ci key).size+1) (Bo y.2.2.text) (Ci key))):=by
 have f4:=Hd hN;have HS:=Hd hs
 obtain⟨n0,d8⟩:=hN y (Fa hy).1
 obtain⟨ht,d,hg⟩:=Wg d8
 obtain⟨n,hn⟩:=vE (Bo y.2.2.text)
 rw[<-hn]at ht hg ⊢;have HG:=Hd hg;have d9:=sD W s bm room S hs root y hy d n hg ht;have f5:=Hd d9;have HL:=Hd (n.cells_len (hg.one (Br d)).refs);have HK:=Hd hk
 obtain⟨V,hV⟩:=vE (Jw S ((Ci key).size+1) n (Ci key))
 have HV:=Hd hV;rw[<-hV];clear hs hg hn d9 hk hV hN hy d8 ht;unfold vR vQ;go_in;go_wp2_with fail
 refine f5.o.mono ?_;rintro e w1 ⟨rfl,e0⟩;have e1:=Hd e0;clear e0;unfold Ai.V;go_wp2_with (first|(refine Di Ac rfl rfl ?_;intro W5 e2 e3;refine Bv (vs:=n.cells) rfl rfl rfl rfl e2 (by rw[HL.o];rfl) (by rw[HL.o];exact Ab) n.one ?_;intro W6 e4 e5))
 refine vC (Zu _ key (by have:=HK.o;omega)) fun w7 H=>?_;have e6:Af w1 W6:=e3.trans' e5 (fun x hx e=>by have e:x=w1.heap.size:=e;omega);have f6:=Hd ((e1.o.trans e6).trans H);have e7:=Hd (e4.keeps H (fun h=>h));have a4:Hid (W.heap.size<=w1.heap.size):=e1.o.size
 obtain⟨L,hL⟩:=vE w1.heap.size
 rw[<-hL]at e7 a4 ⊢;clear hL H e6 e2 e3 e4 e5
 obtain⟨pk,c7⟩:=vE (Ci key)
 have c8:=Hd c7;rw[<-c7];clear c7;go_wp2_with fail
 go_loopw [11,12] (fun c9 pv wr=>yC W L S V c9 pv wr) (fun c9 pv _=>Xb c9 pv)
 case atStart =>exact⟨pk,rfl,f6.o,.inl ⟨rfl,pk.size+1,d,n,HG.o,by rw[c8.o];exact FE key,by rw[c8.o,JT];have:=HK.o;omega,Nat.lt_succ_self _,by rw[c8.o, <-HV.o],e7.o⟩⟩
 case round =>obtain⟨p,rfl,hT,hc⟩:=hrel;have HE:=Hd hT;clear hT;rcases hc with⟨rfl,f0,dn,m0,h1,h2,h3,h3f,h4,h6⟩|⟨rfl,h2⟩;(case inr =>(have HF:=Hd h2;clear h2;go_wp2_with fail);go_ret2;exact⟨by rw[HF.o];rfl,HE.o⟩);case inl =>obtain⟨f,rfl⟩:∃ f,f0=f+1:=⟨f0-1,by omega⟩;obtain⟨k,pa,va,rs⟩:=m0;have HC:=Hd (bA h2 (bA h3 h3f));have e8:=Hd h4;have d0:=Hd h1;have HB:=Hd h6;have g0:k<=3:=(h1.one (Br dn)).kind;have d1:rs.length=16:=(h1.one (Br dn)).refs;have g2:pa.size<=12:=(h1.one (Br dn)).path;have g3:=Hd d1;have X:=Hd (Ai.cells_len ⟨k,pa,va,rs⟩ d1);have g4:p.size<=1000000:=vO;have q0:=h6.cellL (i:=0) (v:=.int .i64 k) vF;have q1:=h6.cellL (i:=1) (v:=.string pa) vF;have q2:=h6.cellL (i:=2) (v:=.string va) vF;have Q3:=Hd (show ∀ i r,rs[i]?=some r->wr.cell? ⟨L,3+i,none⟩=some (.string r)from fun i r hi=>h6.cellL (i:=3+i) (v:=.string r) (by show (_::_::_::rs.map Value.string)[3+i]?=_;rw[show 3+i=i+1+1+1 by omega];simp[hi]));(clear d1 h1 h2 h3 h3f h4 h6;have g5:(⟨#[]⟩:vB).toList.isEmpty=true:=by rw[cC];rfl);cases hcl:Pp ⟨k,pa,va,rs⟩ p with| some u =>(have a7:=Hd (show V=some u by rw[<-e8.o,nQ hcl]);have f7:=Hd (jy0 hcl);clear hcl;rcases f7.o with⟨rfl,rfl,rfl⟩|⟨rfl,rfl,rfl,hz⟩;{have a5:wr.cell? ⟨L,0,none⟩=some (.int .i64 1):=q0;(clear q0;go_wp2_with fail);go_ret2;exact⟨by rw[a7.o];rfl,HE.o⟩};have a5:wr.cell? ⟨L,0,none⟩=some (.int .i64 3):=q0;(have g6:va.toList.isEmpty=false:=by rw[dO];intro e;rw[gQ,cC]at e;exact hz (by rw[<-Ix,e];rfl));(clear q0;go_wp2_with fail);go_ret2;exact⟨by rw[a7.o];rfl,HE.o⟩)| none =>have a8:=e8.o;rw[jvs hcl]at a8;obtain⟨r,q,b2⟩:∃ r q,Rm ⟨k,pa,va,rs⟩ p=(r,q):=⟨_,_,rfl⟩;rw[b2]at a8;simp only at a8;by_cases hr0:r.size=0;{rw[if_pos hr0]at a8;have e9:=Og hr0;rw[e9]at b2;have f8:=Hd (jy1 d0.o HC.o.1 b2 hcl);have a7:=Hd a8.symm;clear hcl a8 b2 hr0 e9;rcases f8.o with rfl|⟨rfl,f1⟩|⟨rfl,hpre⟩|⟨rfl,rfl,rfl⟩|⟨rfl,x,t,hx,hr⟩;{have a5:wr.cell? ⟨L,0,none⟩=some (.int .i64 0):=q0;(clear q0;go_wp2_with fail);(refine vC (IY _) fun w2 H=>?_;have A:Hid (Af wr w2):=Hd (by first|exact H|exact (Yo _ _).trans H);clear H;go_wp2_with fail);(refine vH (JQ w2) fun w3 H=>?_;have J:=Hd (A.o.trans H);have K:=HB.o.keeps J.o (fun h=>h);clear A;unfold Ai.V;go_wp2_with (refine Bv (vs:=Db.cells) rfl rfl rfl rfl K (by rw[X.o];rfl) (by first|exact Ab|(rw[X.o];exact Ab)) Db.one ?_;intro W8 a2 O));go_roundw;(case rel=>exact⟨_,rfl,Yt (HE.o.trans J.o) O a4.o,.inr ⟨rfl,a7.o⟩⟩);case measure=>simp[Xb]};{have a5:wr.cell? ⟨L,0,none⟩=some (.int .i64 1):=q0;(have f1:=NE f1;clear q0;go_wp2_with fail);(refine vC (IY _) fun w2 H=>?_;have A:Hid (Af wr w2):=Hd (by first|exact H|exact (Yo _ _).trans H);clear H;go_wp2_with fail);(refine vH (JQ w2) fun w3 H=>?_;have J:=Hd (A.o.trans H);have K:=HB.o.keeps J.o (fun h=>h);clear A;unfold Ai.V;go_wp2_with (refine Bv (vs:=Db.cells) rfl rfl rfl rfl K (by rw[X.o];rfl) (by first|exact Ab|(rw[X.o];exact Ab)) Db.one ?_;intro W8 a2 O));go_roundw;(case rel=>exact⟨_,rfl,Yt (HE.o.trans J.o) O a4.o,.inr ⟨rfl,a7.o⟩⟩);case measure=>simp[Xb]};{have a5:wr.cell? ⟨L,0,none⟩=some (.int .i64 2):=q0;(have b6:=Hd hpre;clear q0 hpre;go_wp2_with fail);(refine (MC _ p pa vO vO).mono ?_;rintro e d3 ⟨rfl,a9⟩;rw[a9];clear a9;rw[b6.o];go_wp2_with fail);(refine vC (IY _) fun w2 H=>?_;have A:Hid (Af wr w2):=Hd (by first|exact H|exact (Yo _ _).trans H);clear H;go_wp2_with fail);(refine vH (JQ w2) fun w3 H=>?_;have J:=Hd (A.o.trans H);have K:=HB.o.keeps J.o (fun h=>h);clear A;unfold Ai.V;go_wp2_with (refine Bv (vs:=Db.cells) rfl rfl rfl rfl K (by rw[X.o];rfl) (by first|exact Ab|(rw[X.o];exact Ab)) Db.one ?_;intro W8 a2 O));go_roundw;(case rel=>exact⟨_,rfl,Yt (HE.o.trans J.o) O a4.o,.inr ⟨rfl,a7.o⟩⟩);case measure=>simp[Xb]};{have a5:wr.cell? ⟨L,0,none⟩=some (.int .i64 3):=q0;(clear q0;go_wp2_with fail);(refine vC (IY _) fun w2 H=>?_;have A:Hid (Af wr w2):=Hd (by first|exact H|exact (Yo _ _).trans H);clear H;go_wp2_with fail);(refine vH (JQ w2) fun w3 H=>?_;have J:=Hd (A.o.trans H);have K:=HB.o.keeps J.o (fun h=>h);clear A;unfold Ai.V;go_wp2_with (refine Bv (vs:=Db.cells) rfl rfl rfl rfl K (by rw[X.o];rfl) (by first|exact Ab|(rw[X.o];exact Ab)) Db.one ?_;intro W8 a2 O));go_roundw;(case rel=>exact⟨_,rfl,Yt (HE.o.trans J.o) O a4.o,.inr ⟨rfl,a7.o⟩⟩);case measure=>simp[Xb]};have a5:wr.cell? ⟨L,0,none⟩=some (.int .i64 3):=q0;obtain⟨h0,b0⟩:=AR hx;(have a1:x.toNat<16:=Tn (p:=(p,p)) HC.o.1 hx;have q3:=Q3.o _ _ hr;rw[<-b0]at q3 a1;have d4:p.toList.isEmpty=false:=by rw[dO];intro e;rw[gQ,cC]at e;rw[hx]at e;cases e);have c1:(0:Int)<(p.size:Int):=vO;have c2:((p[0]'h0).toNat:Int)<16:=vO;have c3:(1:Int)<=(p.size:Int):=vO;(clear q0 hx hr b0;go_wp2_with fail);(go_quiet (fail));(go_wp2_with fail);(refine vC (IY _) fun w2 H=>?_;have A:Hid (Af wr w2):=Hd (by first|exact H|exact (Yo _ _).trans H);clear H;go_wp2_with fail);(refine vH (JQ w2) fun w3 H=>?_;have J:=Hd (A.o.trans H);have K:=HB.o.keeps J.o (fun h=>h);clear A;unfold Ai.V;go_wp2_with (refine Bv (vs:=Db.cells) rfl rfl rfl rfl K (by rw[X.o];rfl) (by first|exact Ab|(rw[X.o];exact Ab)) Db.one ?_;intro W8 a2 O));go_roundw;(case rel=>exact⟨_,rfl,Yt (HE.o.trans J.o) O a4.o,.inr ⟨rfl,a7.o⟩⟩);case measure=>simp[Xb]};rw[if_neg hr0]at a8;have c5:=Hd a8;obtain⟨b7,a3,b4⟩:=jwC d0.o HC.o.1 b2 hr0;(have Z:=Hd (bA a3 b4);have f9:=Hd (show r.size<=1000000000 by have:=b7.size (Br dn);omega);have HY:=Hd (oI d0.o HC.o.1 b2 hr0);have c4:Xu r:=by rcases b7 with⟨x,h1,h2⟩|⟨m,hi⟩;{intro e;obtain⟨q,h3,_⟩:=JO x h1;rw[<-h2,e]at h3;cases h3};intro e;obtain⟨q,h1,_⟩:=(Br dn).nohash r m hi;rw[e]at h1;cases h1);have a0:=fun w=>JN w r f9.o c4;clear c4;rcases b7 with hh|⟨m,hi⟩;(case inr =>cases dn with| zero=>exact hi.elim| succ dn =>have b5:=DL (Br (dn+1)) hi;have b8:=Hd (show Jw S f m q=V by rw[<-c5.o];unfold Bn;rw[b5];show _=Jw S f (Ss r) q;rw[UD W hi]);have f2:=Hd (fun w=>(Br (dn+1)).inl _ _ hi w);have b9:=Hd hi.1;have b3:=Hd (m.cells_len (hi.1.one (Br dn)).refs);rw[GD,b5]at a0;simp only[Dg]at a0;have HH:=Hd a0;clear a0 b5 hi hcl a8 a3 b4 hr0 b2;rcases HY.o with⟨rfl,hpre,hr,rfl,hle⟩|⟨rfl,x,t,hx,hr,rfl⟩;{have a5:wr.cell? ⟨L,0,none⟩=some (.int .i64 2):=q0;have b6:=Hd hpre;have q3:=Q3.o 0 _ hr;have c1:(pa.size:Int)<=(p.size:Int):=vO;(clear q0 hpre hr hle;go_wp2_with fail);(refine (MC _ p pa vO vO).mono ?_;rintro e d3 ⟨rfl,a9⟩;rw[a9];clear a9;rw[b6.o];go_wp2_with fail);(go_quiet (fail));(go_wp2_with fail);(refine vC (HH.o _) fun w2 H=>?_;have A:Hid (Af wr w2):=Hd (by first|exact H|exact (Yo _ _).trans H);clear H;go_wp2_with fail);(refine vH (f2.o w2) fun w3 H=>?_;have J:=Hd (A.o.trans H);have K:=HB.o.keeps J.o (fun h=>h);clear A;unfold Ai.V;go_wp2_with (refine Bv (vs:=m.cells) rfl rfl rfl rfl K (by rw[X.o,b3.o]) (by rw[b3.o];exact Ab) m.one ?_;intro W8 a2 O));go_roundw;(case rel=>exact⟨_,rfl,Yt (HE.o.trans J.o) O a4.o,.inl ⟨rfl,f,dn,m,b9.o,Z.o.2,by have:=Z.o.1;have:=HC.o.2.1;omega,by have:=Z.o.1;have:=HC.o.2.2;omega,b8.o,a2⟩⟩);case measure=>have h9:=Z.o.1;simp only[Xb,GX];omega};have a5:wr.cell? ⟨L,0,none⟩=some (.int .i64 3):=q0;obtain⟨h0,b0⟩:=AR hx;(have a1:x.toNat<16:=Tn (p:=(p,p)) HC.o.1 hx;have q3:=Q3.o _ _ hr;rw[<-b0]at q3 a1;have d4:p.toList.isEmpty=false:=by rw[dO];intro e;rw[gQ,cC]at e;rw[hx]at e;cases e);have c1:(0:Int)<(p.size:Int):=vO;have c2:((p[0]'h0).toNat:Int)<16:=vO;have c3:(1:Int)<=(p.size:Int):=vO;(clear q0 hx hr b0;go_wp2_with fail);(go_quiet (fail));(go_wp2_with fail);(refine vC (HH.o _) fun w2 H=>?_;have A:Hid (Af wr w2):=Hd (by first|exact H|exact (Yo _ _).trans H);clear H;go_wp2_with fail);(refine vH (f2.o w2) fun w3 H=>?_;have J:=Hd (A.o.trans H);have K:=HB.o.keeps J.o (fun h=>h);clear A;unfold Ai.V;go_wp2_with (refine Bv (vs:=m.cells) rfl rfl rfl rfl K (by rw[X.o,b3.o]) (by rw[b3.o];exact Ab) m.one ?_;intro W8 a2 O));go_roundw;(case rel=>exact⟨_,rfl,Yt (HE.o.trans J.o) O a4.o,.inl ⟨rfl,f,dn,m,b9.o,Z.o.2,by have:=Z.o.1;have:=HC.o.2.1;omega,by have:=Z.o.1;have:=HC.o.2.2;omega,b8.o,a2⟩⟩);case measure=>have h9:=Z.o.1;simp only[Xb,GX];omega);case inl =>obtain⟨h,h1,h2⟩:=hh;(have b5:Kv r=some h:=by rw[h2];exact IX h1);(rw[GD,b5]at a0;simp only[Dg]at a0;have HH:=Hd a0;have d5:Bn S r=Kc S h:=by unfold Bn;rw[b5];rfl);rw[d5]at c5;cases ha:Be S h.data.toList with| none =>(have a7:=Hd (show V=none by rw[<-c5.o];unfold Kc;rw[ha];rfl);have b1:=Hd (fun w (e:Af W w)=>rZ w s bm room S (HS.o.ext e) (.func (.func 96) #[] #[]) h ha);clear a0 b5 h1 h2 hcl a8 a3 b4 hr0 b2 d5 ha;rcases HY.o with⟨rfl,hpre,hr,rfl,hle⟩|⟨rfl,x,t,hx,hr,rfl⟩;{have a5:wr.cell? ⟨L,0,none⟩=some (.int .i64 2):=q0;have b6:=Hd hpre;have q3:=Q3.o 0 _ hr;have c1:(pa.size:Int)<=(p.size:Int):=vO;(clear q0 hpre hr hle;go_wp2_with fail);(refine (MC _ p pa vO vO).mono ?_;rintro e d3 ⟨rfl,a9⟩;rw[a9];clear a9;rw[b6.o];go_wp2_with fail);(go_quiet (fail));(go_wp2_with fail);(refine vC (HH.o _) fun w2 H=>?_;have A:Hid (Af wr w2):=Hd (by first|exact H|exact (Yo _ _).trans H);clear H;go_wp2_with fail);(refine vH (b1.o w2 (HE.o.trans A.o)) fun w3 H=>?_;have J:=Hd (A.o.trans H);have K:=HB.o.keeps J.o (fun h=>h);clear A;unfold Ai.V;go_wp2_with (refine Bv (vs:=Db.cells) rfl rfl rfl rfl K (by rw[X.o];rfl) (by first|exact Ab|(rw[X.o];exact Ab)) Db.one ?_;intro W8 a2 O));go_roundw;(case rel=>exact⟨_,rfl,Yt (HE.o.trans J.o) O a4.o,.inr ⟨rfl,a7.o⟩⟩);case measure=>simp[Xb]};have a5:wr.cell? ⟨L,0,none⟩=some (.int .i64 3):=q0;obtain⟨h0,b0⟩:=AR hx;(have a1:x.toNat<16:=Tn (p:=(p,p)) HC.o.1 hx;have q3:=Q3.o _ _ hr;rw[<-b0]at q3 a1;have d4:p.toList.isEmpty=false:=by rw[dO];intro e;rw[gQ,cC]at e;rw[hx]at e;cases e);have c1:(0:Int)<(p.size:Int):=vO;have c2:((p[0]'h0).toNat:Int)<16:=vO;have c3:(1:Int)<=(p.size:Int):=vO;(clear q0 hx hr b0;go_wp2_with fail);(go_quiet (fail));(go_wp2_with fail);(refine vC (HH.o _) fun w2 H=>?_;have A:Hid (Af wr w2):=Hd (by first|exact H|exact (Yo _ _).trans H);clear H;go_wp2_with fail);(refine vH (b1.o w2 (HE.o.trans A.o)) fun w3 H=>?_;have J:=Hd (A.o.trans H);have K:=HB.o.keeps J.o (fun h=>h);clear A;unfold Ai.V;go_wp2_with (refine Bv (vs:=Db.cells) rfl rfl rfl rfl K (by rw[X.o];rfl) (by first|exact Ab|(rw[X.o];exact Ab)) Db.one ?_;intro W8 a2 O));go_roundw;(case rel=>exact⟨_,rfl,Yt (HE.o.trans J.o) O a4.o,.inr ⟨rfl,a7.o⟩⟩);case measure=>simp[Xb])| some y2 =>obtain⟨n2,f3⟩:=f4.o y2 (Fa ha).1;obtain⟨d6,d2,c0⟩:=Wg f3;(have d7:Jw S f (Bo y2.2.2.text) q=V:=by rw[<-c5.o];unfold Kc;rw[ha];rfl);obtain⟨m,hm⟩:=vE (Bo y2.2.2.text);rw[<-hm]at d6 c0 d7;have b8:=Hd d7;have b1:=Hd (fun w (e:Af W w)=>sD w s bm room S (HS.o.ext e) h y2 ha d2 m c0 d6);have b9:=Hd c0;have b3:=Hd (m.cells_len (c0.one (Br d2)).refs);clear a0 b5 h1 h2 hcl a8 a3 b4 hr0 b2 d5 ha f3 d6 c0 d7 hm;rcases HY.o with⟨rfl,hpre,hr,rfl,hle⟩|⟨rfl,x,t,hx,hr,rfl⟩;{have a5:wr.cell? ⟨L,0,none⟩=some (.int .i64 2):=q0;have b6:=Hd hpre;have q3:=Q3.o 0 _ hr;have c1:(pa.size:Int)<=(p.size:Int):=vO;(clear q0 hpre hr hle;go_wp2_with fail);(refine (MC _ p pa vO vO).mono ?_;rintro e d3 ⟨rfl,a9⟩;rw[a9];clear a9;rw[b6.o];go_wp2_with fail);(go_quiet (fail));(go_wp2_with fail);(refine vC (HH.o _) fun w2 H=>?_;have A:Hid (Af wr w2):=Hd (by first|exact H|exact (Yo _ _).trans H);clear H;go_wp2_with fail);(refine vH (b1.o w2 (HE.o.trans A.o)) fun w3 H=>?_;have J:=Hd (A.o.trans H);have K:=HB.o.keeps J.o (fun h=>h);clear A;unfold Ai.V;go_wp2_with (refine Bv (vs:=m.cells) rfl rfl rfl rfl K (by rw[X.o,b3.o]) (by rw[b3.o];exact Ab) m.one ?_;intro W8 a2 O));go_roundw;(case rel=>exact⟨_,rfl,Yt (HE.o.trans J.o) O a4.o,.inl ⟨rfl,f,d2,m,b9.o,Z.o.2,by have:=Z.o.1;have:=HC.o.2.1;omega,by have:=Z.o.1;have:=HC.o.2.2;omega,b8.o,a2⟩⟩);case measure=>have h9:=Z.o.1;simp only[Xb,GX];omega};have a5:wr.cell? ⟨L,0,none⟩=some (.int .i64 3):=q0;obtain⟨h0,b0⟩:=AR hx;(have a1:x.toNat<16:=Tn (p:=(p,p)) HC.o.1 hx;have q3:=Q3.o _ _ hr;rw[<-b0]at q3 a1;have d4:p.toList.isEmpty=false:=by rw[dO];intro e;rw[gQ,cC]at e;rw[hx]at e;cases e);have c1:(0:Int)<(p.size:Int):=vO;have c2:((p[0]'h0).toNat:Int)<16:=vO;have c3:(1:Int)<=(p.size:Int):=vO;(clear q0 hx hr b0;go_wp2_with fail);(go_quiet (fail));(go_wp2_with fail);(refine vC (HH.o _) fun w2 H=>?_;have A:Hid (Af wr w2):=Hd (by first|exact H|exact (Yo _ _).trans H);clear H;go_wp2_with fail);(refine vH (b1.o w2 (HE.o.trans A.o)) fun w3 H=>?_;have J:=Hd (A.o.trans H);have K:=HB.o.keeps J.o (fun h=>h);clear A;unfold Ai.V;go_wp2_with (refine Bv (vs:=m.cells) rfl rfl rfl rfl K (by rw[X.o,b3.o]) (by rw[b3.o];exact Ab) m.one ?_;intro W8 a2 O));go_roundw;(case rel=>exact⟨_,rfl,Yt (HE.o.trans J.o) O a4.o,.inl ⟨rfl,f,d2,m,b9.o,Z.o.2,by have:=Z.o.1;have:=HC.o.2.1;omega,by have:=Z.o.1;have:=HC.o.2.2;omega,b8.o,a2⟩⟩);case measure=>have h9:=Z.o.1;simp only[Xb,GX];omega
def PL(N:vM)(w:vW)(e:Ending)(w':vW):Prop:=∃ a c,e=.returned (.tuple #[.slice a N.length c,.int .i64 0])/\Cd w w' (.slice a N.length c) N.length N
theorem Av.since{T:TypeId}{w:vW}{n:Nat}{xs:List vV}(h:Av T sz w1 w v n xs)(e:Af w0 w1):Av T sz w0 w v n xs:=⟨h.sl,h.own,e.trans h.ext,fun b hb=>bF e.size (h.new b hb)⟩
theorem jvx(bm:Nat)(room:Int)(S:vT)(hs:Ev W s bm room S)(hN:BH S)(root:vB)(y:Gd)(hy:Be S root.data.toList=some y)(key:vB)(hk:key.size<=1000) :
  vR 49 #[.pointer (some ⟨s,0,none⟩),.string root,.string key] W (Sr (Jw S ((Ci key).size+1) (Bo y.2.2.text) (Ci key))):=by
 have q:=Hd (jqb W s bm room S hs hN root y hy key hk)
 obtain⟨V,A⟩:=vE (Jw S ((Ci key).size+1) (Bo y.2.2.text) (Ci key))
 rw[<-A]at q ⊢;clear A hs hN hy hk;unfold vR vQ;go_in;go_wp2_with fail
 refine q.o.mono ?_;rintro e K ⟨rfl,H⟩;have J:=Hd H;clear H;cases V with
 |none =>(unfold Sr;go_wp2_with fail);go_ret2;exact⟨rfl,J.o⟩
 |some u =>(unfold Sr;go_wp2_with fail);go_ret2;exact⟨rfl,J.o⟩
theorem jwg(xs:List Bk)(T:TypeId):Jb (w.alloc (.cells (Ov xs).toArray T)) (.slice (some ⟨w.heap.size,0,none⟩) xs.length xs.length) xs:=
 .inr ⟨w.heap.size,0,xs.length,rfl,by simp,bP _,fun j x e=>by
  obtain⟨q,A,H⟩:=RX xs j x e
  exact⟨by rw[bX];exact (Ae.new w _).cellL q,by rw[bX];exact (Ae.new w _).cellL A,by rw[bX];exact (Ae.new w _).cellL H⟩⟩
theorem jwh(xs:vL)(T:TypeId):Io (w.alloc (.cells (Pz xs).toArray T)) (.slice (some ⟨w.heap.size,0,none⟩) xs.length xs.length) xs:=by
 refine .inr ⟨_,0,_,rfl,(Ae.new w _).lt,bP _,fun j x e=>?_⟩
 obtain⟨q,A⟩:=MG xs j x e
 exact⟨by rw[bX];exact (Ae.new w _).cellL q,by rw[bX];exact (Ae.new w _).cellL A⟩
end
section
open Go Go.RowKit
def Xl(c:Bk):Bool:=decide (c.key.size<=20)&&decide (c.value.size<=100)
def Ll(l:List Bk):Bool:=l.all Xl&&decide (l.length<=45)
def jzw(w:vW)(l:List Bk)(i:vV)(wr:vW):Prop:=∃ k:Nat,k<=l.length/\k<=46/\i=.int .i64 k/\Af w wr/\(l.take k).all Xl=true
theorem jq9{l:List Bk}{k:Nat}{p:Bk}(h:l[k]?=some p):(l.take (k+1)).all Xl=((l.take k).all Xl&&Xl p):=by
 rw[cA,h,List.all_append];simp
theorem lL{l:List Bk}{k:Nat}{p:Bk}(h:l[k]?=some p)(hb:Xl p=false):Ll l=false:=by
 unfold Ll
 have:l.all Xl=false:=by rw[dO];intro e;have:=fD.1 e p (bD h);rw[hb]at this;cases this
 rw[this];rfl
theorem wG(v:vV)(l:List Bk)(hv:Jb w v l)(hn:l.length<=9223372036854775807)(hs:∀ p∈l,p.key.size<=9223372036854775807/\p.value.size<=9223372036854775807) :
  vR 69 #[v] w (.bool (Ll l)):=by
 have HV:=Hd hv;have HS:=Hd hs
 obtain⟨a,c,rfl⟩:=hv.sl;clear hv hs
 obtain⟨R,X⟩:=vE (Ll l)
 rw[<-X];have K:=Hd X;clear X;unfold vR vQ;go_in;go_wp2_with fail
 go_loopw [3] (fun i wr=>jzw w l i wr) (fun i _=>l.length-(intOf i).toNat)
 case atStart=>exact⟨0,by omega,by omega,rfl,Aa w,rfl⟩
 case round =>obtain⟨k,hk,a1,rfl,hE,e⟩:=hrel;have q:=Hd hE;have H:=Hd e;clear hE e;by_cases hlt:k<l.length;{have b1:(k:Int)<(l.length:Int):=vO;by_cases h45:k<=45;{have Z:(k:Int)<=45:=vO;obtain⟨p,O⟩:∃ p,l[k]?=some p:=⟨_,bB hlt⟩;rcases HV.o with⟨_,_,_,h0⟩|⟨b,o,c1,hh,hb,hc,hcell⟩;{rw[h0]at hlt;cases hlt};cases hh;obtain⟨q1,q2,q3⟩:=hcell k p O;have q1:=Am q1 q.o;have q2:=Am q2 q.o;have q3:=Am q3 q.o;have a0:=HS.o p (bD O);have HP:=Hd O;obtain⟨x,y,gn⟩:=p;simp only at q1 q2 q3 a0;clear hcell hb hc O;by_cases hx:20<x.size;{have b3:(20:Int)<(x.size:Int):=vO;(have A:=Hd (show R=false by rw[K.o];exact lL HP.o (by unfold Xl;simp;omega));clear hx;go_wp2_with fail);go_ret;exact⟨by rw[A.o];rfl,q.o⟩};have b3:¬(20:Int)<(x.size:Int):=vO;by_cases hy:100<y.size;{have b4:(100:Int)<(y.size:Int):=vO;(have A:=Hd (show R=false by rw[K.o];exact lL HP.o (by unfold Xl;simp;omega));clear hx hy;go_wp2_with fail);go_ret;exact⟨by rw[A.o];rfl,q.o⟩};have b4:¬(100:Int)<(y.size:Int):=vO;(have HG:=Hd (show (l.take (k+1)).all Xl=true by rw[jq9 HP.o,H.o];unfold Xl;simp;omega);clear hx hy;go_wp2_with fail);go_roundw;(case rel=>exact⟨k+1,by omega,by omega,by go_num,q.o,HG.o⟩);case measure=>exact vJ};have Z:¬(k:Int)<=45:=vO;have b3:¬(l.length:Int)<=45:=vO;(have A:=Hd (show R=false by rw[K.o];unfold Ll;simp;omega);clear h45;go_wp2_with fail);go_ret;exact⟨by rw[A.o];rfl,q.o⟩};have J:k=l.length:=vO;have b1:¬(k:Int)<(l.length:Int):=vO;have e:=H.o;rw[J,cD]at e;by_cases h45:l.length<=45;{have Z:(l.length:Int)<=45:=vO;(have A:=Hd (show R=true by rw[K.o];unfold Ll;rw[e];simp;omega);clear J e h45;go_wp2_with fail);go_ret;exact⟨by rw[A.o];rfl,q.o⟩};have Z:¬(l.length:Int)<=45:=vO;(have A:=Hd (show R=false by rw[K.o];unfold Ll;simp;omega);clear J e h45;go_wp2_with fail);go_ret;exact⟨by rw[A.o];rfl,q.o⟩
end
section
open Go Go.RowKit
attribute [local go_sem] Oper.semAt_some
end
section
open Go Go.RowKit
end
section
open Go Go.RowKit
attribute [local go_sem] Oper.semAt_some
theorem J_(h1:Dv l=0)(h2:Dv m=0):∀ c∈Ku l m,c.key.size<=9223372036854775807/\c.value.size<=9223372036854775807:=by
 have q:=ML h1 h2;intro c A;have hb:c.bad=false:=by rw[dO];intro e;have:(Ku l m).any Bk.bad=true:=gR.2 ⟨c,A,e⟩;rw[q.fine]at this;cases this
 unfold Bk.bad Up Wm at hb;cases hg:c.gone with
 |true =>rw[hg]at hb;simp at hb;rw[hb.2];exact⟨by omega,by simp⟩
 |false =>rw[hg]at hb;simp at hb;omega
theorem jr7(h1:Dv l=0)(h2:Dv m=0):Fi l (Ku l m)=0/\Gw l (Ku l m)=m:=(ML h1 h2).after h1 h2
theorem ju7(h1:Dv l=0)(h2:Dv m=0):(Ku l m).length<=80:=ZT (Fr h1).len (Fr h2).len
end
section
open Go Go.RowKit
theorem jv8{W:vW}{s:Nat}(h:Ev W s bm room S){b:Nat}{x y:vB}(h1:W.cell? ⟨b,i,none⟩=some (.string x))(h2:W.cell? ⟨b,i+1,none⟩=some (.string y)):¬(b=bm\/b∈S.map (·.2.1)):=by
 rintro (rfl|hb)
 ·obtain⟨X,Z,A,_⟩:=h.mp.mp;simp[World.cell?,show W.heap[b]?=_ from A]at h1
 ·obtain⟨z,H,rfl⟩:=bC.1 hb;obtain⟨J,A,q⟩:=(h.mp.items z H).cells;simp only[World.cell?,show W.heap[z.2.1]?=_ from A]at h1 h2;match i with| 0 =>(have e:J=.string y:=by simpa using h2);subst e;obtain⟨_,⟨e,_⟩|⟨g,K,O,e,_⟩⟩:=q<;>cases e| 1=>simp at h2| 2=>simp at h1| 3=>simp at h1| n+4=>simp at h1
end
section
open Go Go.RowKit
theorem jrD(w0 w:vW)(hc:Ha w)(he:Gj w)(s bm:Nat)(S:vT)(n:Nat)(hA:Kf w0 s bm 2000 S w n)(hw0:w0.heap.size<=w.heap.size)(hn:n<=20000)(hl:S.length<=1800){U:vM}(hU:He U)(hN:LE U)(hK:Kp U S)(L:vL)(hM:Ru S L)(u:vV)(cs:List Bk)(hu:Jb w u cs)(hnc:cs.length<=9223372036854775807)(hsc:∀ c∈cs,c.key.size<=9223372036854775807/\c.value.size<=9223372036854775807)(hs:Fi L cs=0->∀ t∈Nf (Gw L cs),t∈U) :
  vQ 37 #[.pointer (some ⟨s,0,none⟩),.string (Cc L),u] w (QB w0 w s bm 2000 S n (fun _=>Fi L cs≠0) (fun t H=>t=Cc (Gw L cs)/\∃ W T,Rt W U S (Gw L cs) T H/\T.length<=119)):=by
 have hb:=hA.bds hn;refine (lK w hc he s bm 2000 S hA.st (hK.nodes hN) L hM u cs hu hnc hsc vI vI hb.1 hb.2.1 hb.2.2).mono ?_;intro e W' X
 by_cases h0:Fi L cs=0
 ·have J:Dv (Gw L cs)=0:=Ye h0;have A:=WB (S:=S) J;obtain⟨H,q⟩:=juU w hU hK h0 (hs h0) X vO;have K:BH H:=q.add.kp.nodes hN;refine .inr ⟨_,H,⟨rfl,w,_,q.add,A⟩,q.res,⟨q.st,K,hA.bnew,fun x O=>?_,q.add.kp.cnt,q.add.kp.full,?_,?_,fun x O=>?_⟩,q.kp,q.add.blk⟩;{rcases q.add.blk x O with h|h;{obtain⟨z,Z,e⟩:=bC.1 h;rw[<-e];exact hA.new z Z};omega};{have:=q.add.len;have:=hA.len;omega};{have:=q.add.len;omega};have:=q.add.bd n vO hA.held x O;omega
 ·rcases X with⟨_,rfl,hE⟩|⟨h,_⟩;{exact .inl ⟨_,h0,h0,rfl,hE⟩};exact absurd h h0
def LF(L:vL)(p:Fy):vL:=if p.k=0/\Fi L p.cs=0 then Gw L p.cs else L
def Jt(l:List Fy)(i:Nat):vL:=(l.take i).foldl LF []
theorem TP{l:List Fy}{i:Nat}{p:Fy}(h:l[i]?=some p):Jt l (i+1)=LF (Jt l i) p:=by
 unfold Jt;rw[cA,h,dX];rfl
structure Nl(w0 W:World)(b rm sb cb bm:Nat)(U:vM)(X:List (Int × vL))(L:vL)(M:Cn)(es:List (Ce Int))(S:vT)(i:Nat):Prop where
 inv:∃ D a c ck n,Hz w0 D W b M a c rm sb cb es ck bm 2000 S n/\n<=1+1000*i
 all:∀ x∈es,Bx M.all x.1=true
 len:M.all.length<=i+1
 ext:Af w0 W
 lo:w0.heap.size<=b/\w0.heap.size<=rm
 jf:JF U (((Hw M).block,L)::X) es S
 pin:∀ q∈X,∃ v∈M.all,(v.block:Int)=q.1/\0<v.pins
 sl:S.length<=1+119*i
 nw:(Hw M).ents=L
 nx:M.next<=i+1
section
variable {w0 W W':vW} {b rm sb cb bm:Nat} {U:vM} {X:List (Int × vL)} {L:vL} {M:Cn} {es:List (Ce Int)} {S:vT} {i:Nat}
theorem Nl.grow(h:Nl w0 W b rm sb cb bm U X L M es S i)(e:Af W W'):Nl w0 W' b rm sb cb bm U X L M es S i:=by
 obtain⟨D,a,c,q,n,A,H⟩:=h.inv
 exact⟨⟨D,a,c,q,n,A.ext e,H⟩,h.all,h.len,h.ext.trans e,h.lo,h.jf,h.pin,h.sl,h.nw,h.nx⟩
theorem Nl.ok(h:Nl w0 W b rm sb cb bm U X L M es S i):Ew M:=by
 obtain⟨D,a,c,q,n,e,A⟩:=h.inv
 exact e.ok
theorem Nl.map(h:Nl w0 W b rm sb cb bm U X L M es S i):Dv L=0:=by
 rw[<-h.nw];exact (h.ok.ver _ h.ok.newest.1).map
theorem Nl.far(h:Nl w0 W b rm sb cb bm U X L M es S i)(k:Ad (Tf b rm bm S) W W'):Af w0 W':=h.ext.trans' k fun x J e=>by
 obtain⟨D,a,c,K,n,q,O⟩:=h.inv
 have A:=h.lo;rcases e with e|e|e|e
 ·omega
 ·omega
 ·have:=q.s.bnew;omega
 ·obtain⟨y,H,rfl⟩:=bC.1 e
  have:=q.s.new y H;omega
end
theorem YD{win next k:Nat}{l:List Au}:Hw ⟨win,k,Hy win next l⟩=(l.getLast?).getD ⟨0,[],[],0⟩:=by
 unfold Hw;rw[MK]
theorem oH{M:Cn}{i:Nat}{v:Au}{p:Nat}(h:M.all[i]?=some v):(((Ke M i v p).getLast?).getD ⟨0,[],[],0⟩).block=(Hw M).block/\(((Ke M i v p).getLast?).getD ⟨0,[],[],0⟩).ents=(Hw M).ents:=by
 unfold Ke Hw;rw[iP,iP,gV,iS];split
 ·rename_i e;subst e;rw[if_pos (bI.1 h).1,h];exact⟨rfl,rfl⟩
 ·exact⟨rfl,rfl⟩
theorem jqv{M:Cn}{x:Int}:(Hw (Ek M x).1).block=(Hw M).block/\(Hw (Ek M x).1).ents=(Hw M).ents/\(Ek M x).1.next=M.next:=by
 unfold Ek;split
 ·exact⟨rfl,rfl,rfl⟩
 split
 ·exact⟨rfl,rfl,rfl⟩
 split
 ·exact⟨rfl,rfl,rfl⟩
 rename_i v hv hp
 obtain⟨e,q⟩:=oH (p:=v.pins+1) hv
 exact⟨e,q,rfl⟩
theorem r_{M:Cn}{x:Int}:(Hw (Kt M x).1).block=(Hw M).block/\(Hw (Kt M x).1).ents=(Hw M).ents/\(Kt M x).1.next=M.next:=by
 unfold Kt;split
 ·exact⟨rfl,rfl,rfl⟩
 split
 ·exact⟨rfl,rfl,rfl⟩
 split
 ·exact⟨rfl,rfl,rfl⟩
 rename_i v hv hp
 obtain⟨e,q⟩:=oH (p:=v.pins-1) hv
 rw[YD]
 exact⟨e,q,rfl⟩
theorem SX{M:Cn}(h:Ew M):Bx M.all ((Hw M).block:Int)=true:=by
 unfold Bx;cases e:Ks M.all ((Hw M).block:Int)with
 |some i=>rfl
 |none=>exact absurd rfl (ZE e _ h.newest.1)
theorem jx6{l:List Au}{v:Au}(h:v∈l):Bx l (v.block:Int)=true:=by
 unfold Bx;cases e:Ks l (v.block:Int)with
 |some i=>rfl
 |none=>exact absurd rfl (ZE e _ h)
theorem ZQ{win next:Nat}{v:Au}:∀ {l:List Au},v∈l->Qb win next v=true->v∈Hy win next l
 |[u],h,_=>by
  unfold Hy;exact h
 |u::t::r,h,hk=>by
  rw[DH (by simp)];rcases bT.1 h with rfl|h
  ·rw[if_pos hk];exact bO
  ·have:=ZQ h hk
   split
   ·exact bM _ this
   ·exact this
theorem Tp.len{l:List Au}{es es':List (Ce Int)}{S S':vT}(h:Tp l es S es' S'):S'.length<=S.length:=
 h (fun _ T=>T.length<=S.length) (fun _ S1 _ _ A e _ _ _ q=>by
  rcases q with⟨_,rfl⟩|⟨_,_,_,_,_,_,_,_,_,hD⟩
  ·exact e
  ·exact bF hD.len e) (bP _)
theorem QZ(w0 w:vW)(b rm sb cb bm:Nat)(U:vM)(L:vL)(M:Cn)(es:List (Ce Int))(S:vT)(i:Nat)(h:Nl w0 w b rm sb cb bm U [] L M es S i)(hi:i<=15)(x:Int) :
  vQ 20 #[.pointer (some ⟨b,0,none⟩),.int .i64 x] w fun e w'=>∃ (x g:Int),e=.returned (.tuple #[.int .i64 x,.int .i64 g])/\Ad (Tf b rm bm S) w w'/\∃ M' es' S',Nl w0 w' b rm sb cb bm U [] L M' es' S' (i+1)/\M'.next=M.next:=by
 obtain⟨D,a,c,H,n,X,hn⟩:=h.inv
 have J:=h.len
 obtain⟨Z,p2,K⟩:=jqv (M:=M) (x:=x)
 refine (pE w w0 D b M a c rm sb cb es H bm 2000 S n X vO x).mono ?_;rintro e w' ⟨rfl,O,D',a',c',A⟩
 refine⟨_,_,rfl,O.mono fun x _ e=>.inl e,(Ek M x).1,es,S,⟨⟨D',a',c',H,n,A,by omega⟩,fun y hy=>?_,by rw[jyB];omega,h.far (O.mono fun x _ e=>.inl e),h.lo,by rw[Z];exact h.jf,fun q hq=>(by cases hq),by have:=h.sl;omega,by rw[p2];exact h.nw,by rw[K];have:=h.nx;omega⟩,K⟩
 rw[jyA];exact h.all y hy
theorem wI(w0 w:vW)(b rm sb cb bm:Nat)(U:vM)(L:vL)(M:Cn)(es:List (Ce Int))(S:vT)(i:Nat)(h:Nl w0 w b rm sb cb bm U [] L M es S i)(hi:i<=15)(x:Int) :
  vQ 21 #[.pointer (some ⟨b,0,none⟩),.int .i64 x] w fun e w'=>∃ g:Int,e=.returned (.int .i64 g)/\Ad (Tf b rm bm S) w w'/\∃ M' A J,Nl w0 w' b rm sb cb bm U [] L M' A J (i+1)/\M'.next=M.next:=by
 obtain⟨D,a,c,X,n,hI,hn⟩:=h.inv
 have Z:=h.len
 obtain⟨p1,p2,p3⟩:=r_ (M:=M) (x:=x)
 refine (eJ w w0 D b M a c rm sb cb es X bm 2000 S n hI vO vO x).mono ?_;rintro e w' ⟨rfl,hK,D',a',c',A,J,H,h1,h2,h3, -⟩;have hj:JF U [(((Hw (Kt M x).1).block:Int),L)] A J:=by rw[p1];exact h.jf.clean (fun q O=>by rw[bL.1 O, <-p1];exact SX H.ok) h3
 refine⟨_,rfl,hK.mono fun x _ e=>e.elim .inl fun e=>.inr e,(Kt M x).1,A,J,⟨⟨D',a',c',X,n,H,by omega⟩,fun y K=>?_,by have:=kF (M:=M) (x:=x);omega,h.far (hK.mono fun x _ e=>e.elim .inl fun e=>.inr e),h.lo,hj,fun q O=>(by cases O),by have:=h.sl;have:=h3.len;omega,by rw[p2];exact h.nw,by rw[p3];have:=h.nx;omega⟩,p3⟩
 by_cases hg:(Kt M x).2=0
 ·rw[h2 hg]at K;exact (cG.1 K).2
 ·rw[(h1 hg).1]at K;rw[kE hg];exact h.all y K
theorem jxZ(w0 w:vW)(hc:Ha w0)(he:Gj w0)(b rm sb cb bm:Nat)(U:vM)(hU:He U)(hN:LE U)(X:List (Int × vL))(L:vL)(M:Cn)(es:List (Ce Int))(S:vT)(i:Nat)(h:Nl w0 w b rm sb cb bm U X L M es S i)(hi:i<=11)(u:vV)(cs:List Bk)(hu:Jb w0 u cs)(hnc:cs.length<=1000)(hsc:∀ c∈cs,c.key.size<=1000/\c.value.size<=1000)(hL:∀ t∈Nf L,t∈U)(hs:Fi L cs=0->∀ t∈Nf (Gw L cs),t∈U) :
  vQ 9 #[.pointer (some ⟨b,0,none⟩),u] w fun e w'=>(Fi L cs≠0/\e=.returned (.tuple #[.int .i64 0,.int .i64 (Fi L cs)])/\Ad (Tf b rm bm S) w w'/\Nl w0 w' b rm sb cb bm U X L M es S (i+1)) \/
   (Fi L cs=0/\e=.returned (.tuple #[.int .i64 (M.next:Int),.int .i64 0])/\Ad (Tf b rm bm S) w w'/\∃ M' es' Z,Nl w0 w' b rm sb cb bm U X (Gw L cs) M' es' Z (i+1)/\M'.next=M.next+1/\Hw M'=⟨M.next,Gw L cs,Ku L (Gw L cs),0⟩):=by
 obtain⟨D,a,c,ck,n,hI,hn⟩:=h.inv
 have a5:=h.len;have a7:=h.sl;have a8:=h.nx;have a2:DY es M=Cc L:=by obtain⟨k,hk⟩:=h.jf.new _ bO;unfold DY;rw[RL hI.kn hk]
 have J:(Gu M cs).2.2=Fi L cs:=by unfold Gu;rw[h.nw];split;{rfl};rename_i K;rw[if_neg vO];exact (Classical.not_not.1 K).symm
 refine (ZO w w0 D b M a c rm sb cb es ck bm 2000 S n hI vO vO h.all u cs (hu.ext h.ext) hnc hsc (fun _=>Fi L cs≠0) (fun t Z=>t=Cc (Gw L cs)/\∃ W T,Rt W U S (Gw L cs) T Z/\T.length<=119) (fun W k hS=>by have hE:Af w0 W:=h.far (k.mono fun x _ e=>.inl e);rw[a2];exact jrD w0 W (hc.ext hE) (he.ext hE) sb bm S n hS hE.size vO vO hU hN h.jf.kp L (h.jf.has bO W hU h.map hL) u cs (hu.ext hE) vO (fun c hc=>by have:=hsc c hc;omega) hs)).mono ?_
 rintro e w' (⟨k,hk,a3,rfl,A,hK⟩|⟨K,t,S1,Z,D',a',c',⟨rfl,W1,T,hA,hT⟩,rfl,A,hK,a9, -, -,a0⟩)
 ·(have e:k=Fi L cs:=by rcases a3 with e|e;{rw[<-J,e]};exact absurd (J.symm.trans e.1) e.2);subst e;exact .inl ⟨hk,rfl,hK.mono fun x _ e=>.inl e,⟨⟨D,a,c,ck,n,A,by omega⟩,h.all,by omega,h.far (hK.mono fun x _ e=>.inl e),h.lo,h.jf,h.pin,by omega,h.nw,by omega⟩⟩
 ·rw[J]at K;(have O:Hw (Gu M cs).1=⟨M.next,Gw L cs,Ku L (Gw L cs),0⟩:=by unfold Gu;rw[h.nw,if_neg (fun e=>e K),if_neg vO,YD,JX (by simp)];rfl);(have a4:(Gu M cs).1.next=M.next+1:=by unfold Gu;rw[h.nw,if_neg (fun e=>e K),if_neg vO]);(have a1:∀ q∈X,∃ v∈(Gu M cs).1.all,(v.block:Int)=q.1/\0<v.pins:=fun q H=>by obtain⟨v,hv,e1,e2⟩:=h.pin q H;refine⟨v,?_,e1,e2⟩;unfold Gu;rw[h.nw,if_neg (fun e=>e K),if_neg vO];exact ZQ (gL _ hv) (by unfold Qb;simp[e2]));(have hj:JF U (((Hw (Gu M cs).1).block,Gw L cs)::X) ((Rk es M (Cc (Gw L cs)) ck).filter fun x=>Bx (Gu M cs).1.all x.1) Z:=by refine (h.jf.more hA (UI hI h.all) fun q H=>?_).clean (fun q H=>?_) a0;{rcases bT.1 H with rfl|H;{rw[O];exact .inl rfl};exact .inr (bM _ H)};rcases bT.1 H with rfl|H;{exact SX A.ok};obtain⟨v,hv,e1,_⟩:=a1 q H;rw[<-e1];exact jx6 hv);exact .inr ⟨K,rfl,hK,(Gu M cs).1,_,Z,⟨⟨D',a',c',ck+1,n+1000,A,by omega⟩,fun x hx=>(cG.1 hx).2,by have:=ZR (M:=M) (cs:=cs);omega,h.far hK,h.lo,hj,a1,by have:=a0.len;have:=hA.len;omega,by rw[O],by omega⟩,a4,O⟩
theorem Io.act{w0 w w':vW}{D:Nat->Prop}{b:Nat}{M:Cn}{a:Option Addr}{c rm sb cb:Nat}{es:List (Ce Int)}{ck bm:Nat}{room:Int}{S:vT}{n:Nat}(h:Hz w0 D w b M a c rm sb cb es ck bm room S n)(k:Ad (Tf b rm bm S) w w'){v:vV}{l:vL}(hv:Io w v l):Io w' v l:=by
 rcases hv with e|⟨z,o,cc,e,hb,hc,hcell⟩
 ·exact .inl e
 ·refine .inr ⟨z,o,cc,e,bE hb k.size,hc,fun j x O=>?_⟩;obtain⟨A,H⟩:=hcell j x O;(have J:¬ Tf b rm bm S z:=by rintro (rfl|rfl|X);{have K:=h.m.blk;unfold Qw at K;have q:=A;generalize o+j*2=i at q;simp only[World.cell?,show w.heap[z]?=_ from K]at q;match i with| 0=>simp at q| 1=>simp at q| 2=>simp at q| 3=>simp at q| 4=>simp at q| 5=>simp at q| m+6=>simp at q};{simp[World.cell?,show w.heap[z]?=_ from h.m.map]at A};exact jv8 h.s.st A H X);exact⟨Dw A k J,Dw H k J⟩
end
section
open Go Go.RowKit
theorem OW:Dv []=0:=by decide +kernel
theorem jvZ:Gi (Bs 12) Db:=(good 12 (Em []) (Ou (Fr OW))).1
theorem UL(w:vW)(hn:Ht t n)(h0:Gc n=[])(hG:G.map Mq=Ck [t])(x:vB):Ik G x=[]:=by
 unfold Ik;split
 ·rename_i y hy;obtain⟨q,A,_,e⟩:=Xf hG (Fa hy).1;obtain rfl:=bL.1 A;rw[e];show Gc (Bo q)=[];rw[BW w (Wg hn) hn];exact h0
 ·rfl
theorem XN(w:vW){M:vM}(hn:Ht t n)(h0:Gc n=[])(hG:G.map Mq=Ck [t])(hP:Rs S G r M i):M=[r]:=by
 rw[hP.is]
 congr 1
 exact List.flatMap_eq_nil_iff.2 fun x _=>UL w hn h0 hG x
theorem ZA(r:vB):Hb [r]=[r]:=rfl
theorem uP:(Cq S [r]).length<=1:=by
 unfold Cq;rw[ZA];exact dY _ _
theorem rD(w:vW){M:vM}(hn:Ht t n)(h0:Gc n=[])(hG:G.map Mq=Ck [t])(hP:Rs S G (Ak t) M i)(hS:Be S (ky t)=none):∃ z,Gh S G M t=S++[(ky t,z,⟨t,[],0,1⟩)]:=by
 obtain rfl:=XN w hn h0 hG hP;have J:Cq S [Ak t]=[Ak t]:=by unfold Cq;rw[ZA];have:Be S (Ak t).data.toList=none:=hS;simp[this]
 have q:Ck [t]=[(ky t,Fq t)]:=rfl;rw[q]at hG;have K:G.length=1:=by have:=congrArg List.length hG;simpa using this
 obtain⟨y,rfl⟩:=fR.1 K
 obtain⟨k,z,A⟩:=y
 have H:Mq (k,z,A)=(ky t,Fq t):=by simpa using hG
 have O:k=ky t:=congrArg Prod.fst H;have X:A=Fq t:=congrArg Prod.snd H;subst O X
 refine⟨z,?_⟩
 have Z:(Cq S [Ak t]).flatMap (Ik [(ky t,z,Fq t)])=[]:=List.flatMap_eq_nil_iff.2 fun x _=>UL w hn h0 vF x;have hp:La [(ky t,z,Fq t)] (Cq S [Ak t])=[(ky t,z,Fq t)]:=by rw[J];unfold La;(have:Be [(ky t,z,Fq t)] (Ak t).data.toList=some (ky t,z,Fq t):=by unfold Be ky;simp);simp[this]
 unfold Gh;rw[Z,hp];show Yw (ky t) (Pq [] (S++[(ky t,z,Fq t)]))=_;unfold Pq Yw;rw[List.foldl_nil,bW]
 congr 1
 ·(conv=>rhs;rw[<-jE S]);refine cZ fun x hx=>?_;rw[if_neg (fun e=>DR.1 hS x hx e.symm)];rfl
 ·(have:Gc (Bo t)=[]:=by rw[BW w (Wg hn) hn];exact h0);show [(if ky t=ky t then (ky t,z,Jk 3 ((Fq t).held+1) (Fq t))else (ky t,z,Fq t))]=_;rw[if_pos rfl];unfold Fq Jk;rw[this];rfl
theorem GI:Ht (Ay ⟨#[]⟩) Db:=⟨rfl,12,jvZ⟩
theorem WQ:Gc Db=[]:=by
 unfold Gc;refine iQ.2 fun r e=>?_
 have:r=⟨#[]⟩:=by have e:r∈List.replicate 16 (⟨#[]⟩:vB):=e;exact (List.mem_replicate.1 e).2
 rw[this];exact FI
theorem rE(w:vW){n:Ai}(hn:Ht t n)(h0:Gc n=[])(hr:(S.length:Int)+1<=room):¬ WE (∃ A∈[t],¬ ∃ n,Ht A n) room S [t] k:=by
 rintro (⟨_,A,J,e⟩|⟨_,G,q,x,r,H,_⟩|⟨_,top,G,M,_,q,K,O⟩)
 ·rw[bL.1 J]at e;exact e ⟨n,hn⟩
 ·rw[UL w hn h0 q x]at H;cases H
 ·rw[XN w hn h0 q K]at O;have:=uP (S:=S) (r:=Ak top);omega
end
section
open Go Go.RowKit
attribute [local go_sem] Oper.semAt_some
def BK(W:vW)(cb mb:Nat)(n:Int):Prop:=Ae W cb (.cells #[.int .i64 n,.slice none 0 0,.map (some mb),.int .i64 0] 136)/\Ae W mb (.map (Al.arr []) 0)
theorem jz3(n:Int)(h0 : -9223372036854775808<=n)(h1:n<=9223372036854775807) :
  vQ 27 #[.int .i64 n] w fun e w'=>∃ cb mb,e=.returned (.pointer (some ⟨cb,0,none⟩))/\Af w w'/\BK w' cb mb (min (max n 0) 64)/\w.heap.size<=cb/\w.heap.size<=mb/\cb≠mb:=by
 have q:=Ec;unfold vQ;go_in;go_wp2_with fail
 go_ret
 refine⟨_,w.heap.size,rfl,((Aa w).alloc _).alloc _,⟨by rw[<-bG w (.map #[] 0)];exact Ae.new _ _,(Ae.new w _).alloc _⟩,?_,bP _,?_⟩
 ·omega
 ·omega
end
section
open Go Go.RowKit
theorem Nu:(Instr.makeMap 72 none).run prog w=.ok (.map (some w.heap.size)) (w.alloc (.map #[] 0)):=vY
theorem Nr:(callFunc 28 args).run prog w=.ok (.enter 28 args) w:=vY
def Gl:vB:=Ay ⟨#[]⟩
noncomputable def Pu(z:Nat):vT:=[(ky Gl,z,⟨Gl,[],0,1⟩)]
noncomputable def Ux:List (Ce Int):=[(0,.string (Ak Gl),0)]
def QN(w:vW)(window room cached:Int)(e:Ending)(w':vW):Prop:=∃ D b a c rm sb cb mb bm z,e=.returned (.tuple #[.pointer (some ⟨b,0,none⟩),.int .i64 0])/\Hz w D w' b (Jj window) a c rm sb cb Ux 1 bm room (Pu z) 1/\Af w w'/\BK w' cb mb (min (max cached 0) 64)/\(∀ x,x=cb\/x=mb->¬ Tf b rm bm (Pu z) x/\w.heap.size<=x/\¬ D x/\x≠sb)/\w.heap.size<=b/\w.heap.size<=rm/\cb≠mb
theorem BK.keeps{W:vW}{cb mb:Nat}{n:Int}(h:BK W cb mb n)(k:Ad F W W')(h1:¬ F cb)(h2:¬ F mb):BK W' cb mb n:=⟨h.1.keeps k h1,h.2.keeps k h2⟩
theorem pD(hc:Ha w)(he:Gj w)(window room cached:Int)(hr:1<=room)(hr2:room<=9223372036854775807)(h0:0<=cached/\cached<=1000000) :
  vQ 5 #[.int .i64 window,.int .i64 room,.int .i64 cached] w (QN w window room cached):=by
 have e4:=Nu;have HP:=Hd (bA hc (bA he (bA hr (bA hr2 h0))));have e0:¬ room<1:=vO
 clear hc he hr hr2 h0;unfold vQ;go_in;go_wp2_with fail
 refine (uI w window).mono ?_;rintro e w1 ⟨av,rfl,b3,a4⟩
 obtain⟨a1,c1,c9⟩:=a4.sl
 subst c9
 obtain⟨M,hM⟩:=vE (Jj window)
 rw[<-hM]at a4 ⊢;have H1:=Hd (bA b3 (bA a4 hM));clear b3 a4 hM;unfold Il;go_wp2_with fail
 have a8:=Ae.new w1 (.map #[] 0);have k1:=(Aa w1).alloc (.map #[] 0);generalize w1.alloc (.map #[] 0)=w2 at a8 k1 ⊢;refine (uB w2 room).mono ?_;rintro e w3 ⟨sb,bm,rfl,a9,h3⟩;have H3:=Hd (bA k1 (bA a8 (bA a9 h3)));clear k1 a8 a9 h3;go_wp2_with fail
 refine (jz3 w3 cached (by have:=HP.o.2.2.2.2;omega) (by have:=HP.o.2.2.2.2;omega)).mono ?_;rintro e w4 ⟨cb,mb,rfl,b7,h4⟩;have H4:=Hd (bA b7 h4);clear b7 h4;go_wp2_with fail
 have b8:=Ae.new w4 (.cells (Qw M a1 c1 w1.heap.size sb cb).toArray 78);have kh:=(Aa w4).alloc (.cells (Qw M a1 c1 w1.heap.size sb cb).toArray 78);change Code.wp _ _ _ _ (w4.alloc (.cells (Qw M a1 c1 w1.heap.size sb cb).toArray 78));generalize w4.alloc (.cells (Qw M a1 c1 w1.heap.size sb cb).toArray 78)=w5 at b8 kh ⊢;have H5:=Hd (bA b8 kh);have c3:bm<w3.heap.size:=by obtain⟨_,_,h1,_⟩:=H3.o.2.2.2.1.mp.mp;exact h1.lt
 have d0:=H4.o.1.size;have a0:w4.heap.size≠bm:=vO
 clear b8 kh;refine Nc [0,1,2,3,4,5,6,7,8,9,10,11] [5,6] Af (Ad (fun z=>z=bm)) Aa Aq (fun x y z h k=>Ad.trans h k) (fun x y h=>h.mono (fun _ _ h=>h.elim)) vY vY vY ?_
 refine vD ?_
 refine Lr _ (.pointer (some ⟨w4.heap.size,0,none⟩)) rfl (fun w1 _=>by kernel_rfl) ?_;refine vS ?_
 refine vD ?_
 refine Fc ⟨w4.heap.size,4,none⟩ (.pointer (some ⟨sb,0,none⟩)) rfl (fun w1 h1=>Dt (fun w=>by kernel_rfl) ((H5.o.1.drew.keeps h1 a0).cellL rfl)) ?_;refine vS ?_;refine FM _ 29 #[.string ⟨#[]⟩] (.string (Ay ⟨#[]⟩)) rfl vY rfl (fun w1=>Ex (vX 29) vY) (fun w1 h1=>Rf w1 ⟨#[]⟩ vI) ?_;refine vS ?_;refine Hl _ rfl (fun wb hb K hK=>?_);have kb:Af w5 wb:=(Ap _).trans hb;refine Ra (v:=.slice (some ⟨wb.heap.size,0,none⟩) 1 1) (w':=wb.alloc (.cells #[.string (Ay ⟨#[]⟩)] 9)) vY (hK _ _ ((Ad.refl _ wb).alloc _) ?_);have H6:=Hd (bA (kb.trans ((Aa wb).alloc (.cells #[.string (Ay ⟨#[]⟩)] 9))) (show Ic (wb.alloc (.cells #[.string (Ay ⟨#[]⟩)] 9)) (.slice (some ⟨wb.heap.size,0,none⟩) 1 1) [Ay ⟨#[]⟩]from(show Cd wb (wb.alloc (.cells #[.string (Ay ⟨#[]⟩)] 9)) (.slice (some ⟨wb.heap.size,0,none⟩) 1 1) 1 [Ay ⟨#[]⟩]from Av.lit #[.string (Ay ⟨#[]⟩)] (Aa wb) vI rfl).rd));generalize wb.alloc (.cells #[.string (Ay ⟨#[]⟩)] 9)=w6 at H6 ⊢;clear hK K hb kb;refine vS ?_;refine Hl _ rfl (fun wc hc K hK=>?_);have O:Af w5 wc:=H6.o.1.trans hc;have X:Af w4 wc:=H5.o.2.trans O;have A:Af w3 wc:=H4.o.1.trans X;have Z:Af w wc:=H1.o.1.trans (H3.o.1.trans (H3.o.2.2.1.trans A));have b4:max room 0=room:=by have:=HP.o.2.2.1;omega
 have b1:=oV wc (HP.o.1.ext Z) (HP.o.2.1.ext Z) sb bm (max room 0) [] (H3.o.2.2.2.1.ext A) _ [Gl] (H6.o.2.ext hc) (∃ t'∈[Gl],¬ ∃ n,Ht t' n) (jxt (fun t ht=>.inl (by rw[bL.1 ht];exact⟨_,GI⟩))) vI Gl rfl vO (by have:=HP.o.2.2.2.1;omega) vI (fun x q=>by cases q) (fun x q=>by cases q);refine Oe (Ex Nr vY) (b1.mono ?_);rintro e w8 (⟨k,d1,_⟩|⟨top,G,M',b2,hY⟩)
 ·exact absurd d1 (rE w GI WQ (by have:=HP.o.2.2.1;show ((0:Nat):Int)+1<=_;omega))
 obtain rfl:Gl=top:=by injection b2
 refine⟨_,hY.res,hK _ _ (hY.kp.mono fun z _ e=>e.elim id fun e=>by cases e) ?_⟩
 have H8:=Hd (bA hY (bA Z (bA A (bA X O))));clear hK K hc b1 hY b2 O X A Z;refine vS ?_;iterate 5 refine vD ?_
 refine Mr (fun w9 h9=>?_)
 obtain⟨hY,Z,A,X,O⟩:=H8.o
 have J:Ad (fun z=>z=bm) wc w9:=(hY.kp.mono fun z _ e=>e.elim id fun e=>by cases e).trans (h9.mono fun _ _ e=>e.elim);have b9:=H3.o.2.2.2.2;have a2:=H3.o.1.size;have a3:=H4.o.1.size;have b5:w1.heap.size≠bm:=by have:=H3.o.2.1.lt;omega
 have a5:Ae w9 w1.heap.size (.map (EB.arr []) 0):=((H3.o.2.1.keeps H3.o.2.2.1 (fun h=>h)).keeps A (fun h=>h)).keeps J b5;have b0:Ae w9 w4.heap.size _:=(H5.o.1.keeps O (fun h=>h)).keeps J a0;have q1:w9.cell? ⟨w4.heap.size,3,none⟩=some (.map (some w1.heap.size)):=b0.cellL rfl
 obtain⟨b6,H⟩:=vE (w9.putObj w1.heap.size (.map (EB.arr Ux) 1))
 have d2:(Instr.mapUpdate 72 (.map (some w1.heap.size)) (.int .i64 0) (.string (Ak Gl))).run prog w9=.ok () b6:=by have:=Ze EB Fp a5 0 (.string (Ak Gl));rw[H];exact this
 have H9:=Hd (bA J (bA a5 (bA b0 (bA H (bA b9 (bA a2 (bA a3 (bA b5 (bA h9 b4)))))))));clear J a5 b0 H b9 a2 a3 b5 h9 hY Z A X O b4 c3 a0 d0
 obtain⟨rt,c5⟩:=vE (Ak Gl)
 rw[<-c5]at d2 ⊢;clear c5;go_wp2_with fail
 go_ret2
 obtain⟨J,a5,b0,H,b9,a2,a3,b5,h9,b4⟩:=H9.o
 obtain⟨hY,Z,A,X,O⟩:=H8.o
 obtain⟨b3,a4,hM⟩:=H1.o
 obtain⟨k1,a8,a9,c0,d3,e5,e6⟩:=H3.o
 obtain⟨b7,c2,e7,e8,d4⟩:=H4.o
 obtain⟨z,hz⟩:∃ z,Gh [] G M' Gl=[]++[(ky Gl,z,⟨Gl,[],0,1⟩)]:=rD wc GI WQ hY.given hY.path vF
 have g1:=b3.size;have g3:=a9.size;have g4:=X.size;have g5:=A.size;have d7:bm<w3.heap.size:=by obtain⟨_,_,h1,_⟩:=c0.mp.mp;exact h1.lt
 have d8:sb<w3.heap.size:=c0.st.lt;have d9:w1.heap.size<w2.heap.size:=a8.lt;have e1:cb<w4.heap.size:=c2.1.lt;have e2:mb<w4.heap.size:=c2.2.lt;have e9:w4.heap.size<wc.heap.size:=(H5.o.1.keeps O (fun h=>h)).lt;have c7:=((Kf.none (w0:=w) c0 d3 vO).ext A).add vO vI vI hY;have f0:wc.heap.size<=z:=by have h1:=hY.newS (ky Gl,z,⟨Gl,[],0,1⟩) (by rw[hz];simp);rcases h1 with h1|h1;{cases h1};exact h1
 rw[hz,b4]at c7;have a7:Ad (fun x=>x=w1.heap.size) w9 b6:=by rw[H];exact Ad.onePut _ _ _
 have c4:Ae b6 w1.heap.size (.map (EB.arr Ux) 1):=by rw[H];exact a5.put_same _
 have c8:(Pu z).map (·.2.1)=[z]:=rfl;have d5:=(((((a4.ext k1).ext a9).ext A).keeps J (fun x q e=>by have h:=q.2;have e:x=bm:=e;omega)).keeps a7 (fun x q e=>by have h:=q.2;have e:x=w1.heap.size:=e;omega));have d6:Af w b6:=(Z.trans' J fun x q e=>by have e:x=bm:=e;omega).trans' a7 fun x q e=>by have e:x=w1.heap.size:=e;omega
 have f1:=J.size;have e3:=a7.size
 refine⟨Fo w w1,w4.heap.size,a1,c1,w1.heap.size,sb,cb,mb,bm,z,rfl,?_,d6,?_,?_,by omega,by omega,d4⟩
 ·rw[<-hM];refine⟨⟨b0.keeps a7 vO,d5,c4⟩,(c7.ext h9).keeps a7 vO vO (fun x q e=>?_) (TR a5),fun x q=>?_,by omega,fun e=>by have h:=e.2;omega,fun x q=>?_,by rw[hM];exact uJ window,by decide,by decide,fun x q=>?_,fun x q=>?_⟩;{rw[cL,bL]at q;subst q;have e:z=w1.heap.size:=e;omega};{rw[c8,bL];rcases q with rfl|rfl|q;{omega};{omega};have h:=q.2;omega};{have h:=q.2;omega};{have q:x∈[((0:Int),Value.string (Ak Gl),0)]:=q;rw[bL.1 q];decide};have q:x∈[((0:Int),Value.string (Ak Gl),0)]:=q;rw[bL.1 q];exact⟨_,rfl⟩
 ·exact ((c2.keeps X (fun h=>h) (fun h=>h)).keeps J vO vO).keeps a7 vO vO
 ·intro x q;refine⟨fun e=>?_,by omega,fun e=>by have h:=e.2;omega,by omega⟩;rcases e with e|e|e|e;{omega};{omega};{omega};rw[c8,bL]at e;omega
theorem juP(window room cached:Int)(hr:room<1) :
  vR 5 #[.int .i64 window,.int .i64 room,.int .i64 cached] w (.tuple #[.pointer none,.int .i64 3]):=by
 unfold vR vQ;go_in;go_wp2_with fail
 go_ret2
 exact⟨rfl,Aa w⟩
def QF(val:vB)(er:Int)(K2 K3:vW->Prop)(e:Ending)(w':vW):Prop:=(er=0/\e=.returned (.tuple #[.string val,.int .i64 0])/\K3 w')\/(er≠0/\e=.returned (.tuple #[.string ⟨#[]⟩,.int .i64 er])/\K2 w')
theorem jxJ(M:Cn)(a:Option Addr)(c rm sb cb:Nat)(es:List (Ce Int))(ck:Nat)(h:Ky D w b M a c rm sb cb es ck)(hl:M.all.length<=1000)(bk:Int)(i:Nat)(v:Au)(r:vB)(hp:Ks M.all bk=some i)(hv:M.all[i]?=some v)(hr:Dr es bk=some (.string r))(hrs:r.size<=1000)(key val:vB)(hks:key.size<=1000)(er:Int)(K1 K2 K3:vW->Prop)
  (hG:∀ W,Af w W->vQ 48 #[.pointer (some ⟨cb,0,none⟩),.string (r++⟨#[32]⟩++key)] W fun e Z=>e=.returned (.tuple #[.string ⟨#[]⟩,.bool false])/\K1 Z)
  (h1:∀ W,K1 W->Ae W b (.cells (Qw M a c rm sb cb).toArray 78))
  (hT:∀ W,K1 W->vQ 49 #[.pointer (some ⟨sb,0,none⟩),.string r,.string key] W fun e Z=>e=.returned (.tuple #[.string val,.int .i64 er])/\K2 Z)
  (h2:∀ W,K2 W->Ae W b (.cells (Qw M a c rm sb cb).toArray 78))
  (hO:er=0->∀ W,K2 W->vQ 50 #[.pointer (some ⟨cb,0,none⟩),.string (r++⟨#[32]⟩++key),.string val] W fun e Z=>∃ t,e=.returned (.bool t)/\K3 Z) :
  vQ 14 #[.pointer (some ⟨b,0,none⟩),.int .i64 bk,.string key] w (QF val er K2 K3):=by
 have HC:=Hd (GM w D b M a c rm sb cb es ck h hl bk i v r hp hv hr);have HB:=Hd h.blk;have HK:=Hd (bA hG (bA h1 (bA hT (bA h2 hO))));have b3:=h.blk.lt;clear h hp hv hr hl hG h1 hT h2 hO;unfold vQ;go_in;go_wp2_with fail
 refine HC.o.mono ?_;rintro e w1 ⟨x,rfl,A,h1,h2,hE⟩
 obtain⟨xv,ev,cv⟩:=x
 have A:xv=v:=A;subst A
 obtain⟨a1,c1,H⟩:=h1.1.sl
 obtain⟨a2,c2,J⟩:=h2.1.sl
 have H:ev=_:=H;have J:cv=_:=J;subst H J;have HE:=Hd hE;have b4:=hE.size;clear h1 h2 hE HC;unfold VX.cells;go_wp2_with (first|(refine Di Cp rfl rfl ?_;intro W2 a0 a3)|(refine Bv (vs:=[.int .i64 (xv.block:Int),.slice a1 xv.ents.length c1,.slice a2 xv.chgs.length c2,.int .i64 (xv.pins:Int)]) rfl rfl rfl rfl a0 rfl Bt (by simp[Value.oneCell']) ?_;intro W3 a9 a4))
 refine (GE W3).mono ?_;rintro e w4 ⟨rfl,rfl⟩;have K:Af w W3:=(HE.o.trans a3).trans' a4 fun x hx e=>by have e:x=w1.heap.size:=e;omega
 have b0:=Hd K;have a5:=HB.o.keeps K (fun h=>h);have q5:W3.cell? ⟨b,5,none⟩=some (.pointer (some ⟨cb,0,none⟩)):=a5.cellL rfl;clear a3 a4 a0 a9 K a5;go_wp2_with fail
 refine vC (HK.o.1 W3 b0.o) fun w5 O=>?_;have b1:=Hd O;have q4:w5.cell? ⟨b,4,none⟩=some (.pointer (some ⟨sb,0,none⟩)):=(HK.o.2.1 w5 O).cellL rfl;clear O;go_wp2_with fail
 refine vC (HK.o.2.2.1 w5 b1.o) fun w6 X=>?_;have a7:=Hd X;have b5:w6.cell? ⟨b,5,none⟩=some (.pointer (some ⟨cb,0,none⟩)):=(HK.o.2.2.2.1 w6 X).cellL rfl;clear X
 by_cases he:er=0
 ·have q:=Hd he;(have e1:(er != 0)=false:=by rw[he];rfl);(clear he;go_wp2_with fail);(refine (HK.o.2.2.2.2 q.o w6 a7.o).mono ?_;rintro e w7 ⟨t,rfl,a8⟩;have b2:=Hd a8;clear a8;go_wp2_with fail);go_ret2;exact .inl ⟨q.o,rfl,b2.o⟩
 ·have q:=Hd he;(have e1:(er != 0)=true:=by simpa using he);(clear he;go_wp2_with fail);go_ret2;exact .inr ⟨q.o,rfl,a7.o⟩
theorem juO(M:Cn)(a:Option Addr)(c rm sb cb:Nat)(es:List (Ce Int))(ck:Nat)(h:Ky D w b M a c rm sb cb es ck)(bk:Int)(hr:Dr es bk=none)(key:vB) :
  vR 14 #[.pointer (some ⟨b,0,none⟩),.int .i64 bk,.string key] w (.tuple #[.string ⟨#[]⟩,.int .i64 4]):=by
 have J:=Hd (jxI w D b M a c rm sb cb es ck h bk hr);clear h hr;unfold vR vQ;go_in;go_wp2_with fail
 refine J.o.mono ?_;rintro e w1 ⟨rfl,K⟩;have O:=Hd K;clear K J;unfold Wp HJ VX.cells;go_wp2_with (first|(refine Di Cp rfl rfl ?_;intro W2 q A)|(refine Bv (vs:=[.int .i64 0,.slice none 0 0,.slice none 0 0,.int .i64 0]) rfl rfl rfl rfl q rfl Bt (by simp[Value.oneCell']) ?_;intro X Z H))
 refine (jvJ X).mono ?_;rintro e w4 ⟨rfl,rfl⟩;go_wp2_with fail
 go_ret2
 exact⟨rfl,(O.o.trans A).trans' H fun x hx e=>by have e:x=w1.heap.size:=e;have:=O.o.size;omega⟩
structure Fd where
 kind:Nat
 root:vB
 key:vB
 to:vB
 nodes:vM
def Fd.cells(p:Fd)(nv:vV):List vV:=[.int .i64 (p.kind:Int),.string p.root,.string p.key,.string p.to,nv]
def Fu(p:Fd):vB:=Fj [Ay (Hn p.kind),Ay p.root,Ay p.key,Ay p.to,Fj (p.nodes.map Ay)]
structure Vi(p:Fd):Prop where
 kind:p.kind=0/\p.to=⟨#[]⟩\/p.kind=1
 root:p.root.size=32
 key:p.key.size<=6
 to:p.to.size<=6
 nodes:p.nodes.length<=200
 short:∀ b∈p.nodes,b.size<=1000
def tT(w:vW)(l:vM)(iv:vV)(wr:vW):Prop:=∃ i:Nat,i<=l.length/\iv=.int .i64 i/\Af w wr
theorem oU(p:Fd)(nv:vV)(hn:Ic w nv p.nodes)(hp:Vi p):vR 56 #[.agg (p.cells nv).toArray] w (.bool true):=by
 have HN:=Hd hn;have HP:=Hd hp
 obtain⟨a,c,X,_⟩:=hn.slice
 subst X
 obtain⟨q,A,K,to,e⟩:=p
 have h1:A.size=32:=hp.root;have h2:K.size<=6:=hp.key;have h3:to.size<=6:=hp.to;have h4:e.length<=200:=hp.nodes;have c1:((A.size:Int) != 32)=false:=by rw[h1];rfl
 have c2:¬(6:Int)<(K.size:Int):=vO
 have c3:¬(6:Int)<(to.size:Int):=vO
 have c4:¬(200:Int)<(e.length:Int):=vO
 obtain⟨m,Z⟩:=vE e.length
 have HM:=Hd Z;have J:=hp.kind;unfold Fd.cells;rw[<-Z]at c4 ⊢;clear hn hp h1 h2 h3 h4 Z;unfold vR vQ;go_in;have HW:=Hd (show Af w (w.alloc (.cells #[.int .i64 (q:Int),.string A,.string K,.string to,.slice a m c] 54))from(Aa w).alloc _);rcases J with⟨J,ht⟩|J
 case' inl =>have J:q=0:=J;have ht:to=⟨#[]⟩:=ht;subst J ht
 case' inr =>have J:q=1:=J;subst J
 all_goals(go_wp2_with fail);(go_loopw [37] (fun iv wr=>tT w e iv wr) (fun iv _=>m-(intOf iv).toNat));(case atStart=>exact⟨0,cE _,rfl,HW.o⟩);case round =>obtain⟨i,hi,rfl,hE⟩:=hrel;have HE:=Hd hE;clear hE;by_cases hlt:i<m;{obtain⟨x,hx⟩:∃ x,e[i]?=some x:=⟨_,bB (by rw[<-HM.o];exact hlt)⟩;obtain⟨ax,cx,hh,H⟩:=HN.o.slice;obtain⟨ba,oa,a0,O⟩:=H i x hx;subst a0;cases hh;have q1:=Am O HE.o;have b1:(i:Int)<(m:Int):=vO;(have c5:¬(1000:Int)<(x.size:Int):=by have:=HP.o.short x (bD hx);omega);(clear H O hx;go_wp2_with fail);go_roundw;(case rel=>exact⟨i+1,by show i+1<=e.length;have:=HM.o;omega,by go_num,HE.o⟩);case measure=>exact vJ};have b1:¬(i:Int)<(m:Int):=vO;(go_wp2_with fail);go_ret;exact⟨rfl,HE.o⟩
theorem xL(n:Nat)(hn:n<18446744073709551616):vR 100 #[.int .u64 n] w (.string (Ay (Hn n))):=by
 have H:=Hd (nF w n hn);clear hn;unfold vR vQ;go_in;go_wp2_with fail
 refine H.o.mono ?_;rintro e w1 ⟨rfl,q⟩;have J:=Hd q;clear q;go_wp2_with fail
 refine vH (Rf w1 (Hn n) (by have K:=DX 8 n;rw[show (Hn n).size=(Ow 8 n).length by simp[Hn,ByteArray.size]];omega)) fun O q=>?_;have A:=Hd (J.o.trans q);go_wp2_with fail
 go_ret
 exact⟨rfl,A.o⟩
def tR(w1:vW)(l:vM)(lv iv:vV)(wr:vW):Prop:=∃ i:Nat,i<=l.length/\iv=.int .i64 i/\Cd w1 wr lv i ((l.take i).map Ay)
theorem Pf:(callFunc 100 args).run prog w=.ok (.enter 100 args) w:=vY
theorem Zo(b:vB):(Ay b).size<=b.size+9:=by
 have:=BV 128 b.size
 unfold Ay;split
 ·omega
 ·rw[cM];omega
theorem NG:∀ (l:vM),(Aw l).size=(l.map ByteArray.size).sum
 |[]=>rfl
 |x::r=>by rw[CI,cM,NG r,bN,iJ]
theorem FP:∀ (l:vM),(∀ b∈l,b.size<=1000)->(Aw (l.map Ay)).size<=1009*l.length
 |[],_=>by show (Aw []).size<=_;rw[NG];simp
 |x::r,h=>by
  have e:=h x (by simp);have q:=Zo x;have A:=FP r fun b hb=>h b (bM _ hb);rw[bN,CI,cM,bS];omega
theorem UF(l:vM):(Fj l).size<=(Aw l).size+9:=by
 have:=BV 192 (Aw l).size
 unfold Fj;rw[cM];omega
theorem WT(p:Fd)(nv:vV)(hn:Ic w nv p.nodes)(hp:Vi p)(hs:(Fu p).size<=65536):vR 52 #[.agg (p.cells nv).toArray] w (.tuple #[.string (Fu p),.int .i64 0]):=by
 have HN:=Hd hn;have HP:=Hd hp;have HS:=Hd hs;have HV:=Hd (fun w2 (e:Af w w2)=>oU w2 p nv (hn.ext e) hp)
 obtain⟨a,c,c3,_⟩:=hn.slice
 subst c3
 obtain⟨m,hm⟩:=vE p.nodes.length
 have HM:=Hd hm;have d2:m<=200:=by rw[hm];exact hp.nodes
 have b3:=Ae.new w (.cells (p.cells (.slice a p.nodes.length c)).toArray 54);have a4:=(Aa w).alloc (.cells (p.cells (.slice a p.nodes.length c)).toArray 54);have HB:=Hd (bA b3 a4);have a7:=Hd (HV.o _ a4)
 obtain⟨A,H,J,to,q⟩:=p
 unfold Fd.cells at a7 HB ⊢;rw[<-hm]at a7 HB ⊢;clear hn hp hs hm b3 a4;unfold vR vQ;go_in;go_wp2_with fail
 refine a7.o.mono ?_;rintro e w1 ⟨rfl,a8⟩;have hB:=HB.o.1.keeps a8 (fun h=>h);have q4:w1.cell? ⟨w.heap.size,4,none⟩=some (.slice a m c):=hB.cellL rfl;have H1:=Hd (bA hB (HB.o.2.trans a8));clear hB a8
 obtain⟨i0,hi,b4,b5,b6⟩:=info_parts Jc
 obtain⟨w2,d1,a3,a9⟩:=run_make_own (P:=prog) (w:=w1) w1.heap.size 52 9 i0 _ 1 Cg.ht hi b4 b5 .i64 .i64 m (by rw[b6];omega) (by unfold maxLen;omega) (bP _)
 have k2:Af w1 w2:=Ad.of_grown a9 (fun _ e=>by cases e);have b7:=Av.made w1 a3 a9;have d3:=Am q4 k2;have c4:=Hd b7;clear a3 a9 hi b4 b5 b6 b7 k2;go_wp2_with fail
 go_loopw [4,18] (fun lv iv wr=>tR w1 q lv iv wr) (fun _ iv _=>m-(intOf iv).toNat)
 case atStart=>exact⟨0,cE _,rfl,c4.o⟩
 case round =>obtain⟨i,hi,rfl,hR⟩:=hrel;have HR:=Hd hR;obtain⟨al,cl,rfl⟩:=hR.sl;have hE:=hR.ext;by_cases hlt:i<m;{obtain⟨x,hx⟩:∃ x,q[i]?=some x:=⟨_,bB (by rw[<-HM.o];exact hlt)⟩;obtain⟨ax,cx,hh,a0⟩:=HN.o.slice;obtain⟨ba,oa,c7,b8⟩:=a0 i x hx;subst c7;cases hh;have q1:=Am b8 (H1.o.2.trans hE);have b1:(i:Int)<(m:Int):=vO;(have d4:x.size<=1000:=HP.o.short x (bD hx);have HX:=Hd hx;clear a0 b8 hx hR hE;go_wp2_with fail);(refine vH (Rf wr x vO) fun w4 c8=>?_;go_wp2_with (at_builtin;go_loud (refine Rc Cg (HR.o.mono (c8.o.trans ((Aa w4).alloc _))) (.tmp 22) (.tmp 25) rfl rfl rfl (Jx (Ae.new w4 _)) (news:=[.string (Ay x)]) (by intro u hu;simp at hu;rw[hu];rfl) rfl rfl (by unfold maxLen;omega) vO (fun v5 w5 r1 r2 r3=>?_));obtain⟨a5,c5,rfl⟩:=r1.sl;have c9:=Hd (show Cd w1 w5 (.slice a5 (i+1) c5) (i+1) ((q.take (i+1)).map Ay) by unfold Cd;rw[cA,HX.o,bW,bW];exact r1);clear r1 r2 r3));go_roundw;(case rel=>exact⟨i+1,by show i+1<=q.length;have:=HM.o;omega,by go_num,c9.o⟩);case measure=>exact vJ};have b1:¬(i:Int)<(m:Int):=vO;(obtain rfl:i=m:=by have:=HM.o;omega);(have b0:=Hd (show Cd w1 wr (.slice al i cl) i (q.map Ay) by have:=HR.o;rw[HM.o,cD]at this;rw[HM.o];exact this);clear hR hE;go_wp2_with fail);(have b9:Ae wr w.heap.size (.cells #[.int .i64 (A:Int),.string H,.string J,.string to,.slice a i c] 54):=H1.o.1.keeps b0.o.ext (fun h=>h);have hk:=HP.o.kind;have b2:A<2:=by rcases hk with⟨h,_⟩|h <;>(have h:A=_:=h;omega));have d0:=b2;have a1:=Hd (bA b9 (bA b2 d0));clear b9 hk b2;refine Ij [0,1,2,3,4,5,6,7,8,9,10,11,12,13,14,15,16,17] Af Aa Aq vY vY vY ?_;refine vK ?_;refine Dc ⟨w.heap.size,0,none⟩ (.int .i64 (A:Int)) rfl (fun w1 X=>Dt (fun w=>by kernel_rfl) (Am (a1.o.1.cellL rfl) ((Ap _).trans X))) ?_;refine vS ?_;refine vK ?_;refine Ls _ 100 #[.int .u64 (A:Int)] (.string (Ay (Hn A))) rfl (fun w1=>Ex Pf vY) (fun w1 X=>xL w1 A (by have:=a1.o.2.1;omega)) ?_;refine vS ?_;refine vK ?_;refine Dc ⟨w.heap.size,1,none⟩ (.string H) rfl (fun w1 X=>Dt (fun w=>by kernel_rfl) (Am (a1.o.1.cellL rfl) ((Ap _).trans X))) ?_;refine vS ?_;refine Ls _ 29 #[.string H] (.string (Ay H)) rfl (fun w1=>Ex (vX 29) vY) (fun w1 X=>Rf w1 H (by have h:H.size=32:=HP.o.root;omega)) ?_;refine vS ?_;refine vK ?_;refine Dc ⟨w.heap.size,2,none⟩ (.string J) rfl (fun w1 X=>Dt (fun w=>by kernel_rfl) (Am (a1.o.1.cellL rfl) ((Ap _).trans X))) ?_;refine vS ?_;refine Ls _ 29 #[.string J] (.string (Ay J)) rfl (fun w1=>Ex (vX 29) vY) (fun w1 X=>Rf w1 J (by have h:J.size<=6:=HP.o.key;omega)) ?_;refine vS ?_;refine vK ?_;refine Dc ⟨w.heap.size,3,none⟩ (.string to) rfl (fun w1 X=>Dt (fun w=>by kernel_rfl) (Am (a1.o.1.cellL rfl) ((Ap _).trans X))) ?_;refine vS ?_;refine Ls _ 29 #[.string to] (.string (Ay to)) rfl (fun w1=>Ex (vX 29) vY) (fun w1 X=>Rf w1 to (by have h:to.size<=6:=HP.o.to;omega)) ?_;refine vS ?_;refine vK ?_;refine Ls _ 99 #[.slice al i cl] (.string (Fj (q.map Ay))) rfl (fun w1=>Ex (vX 99) vY) (fun w1 X=>KU w1 _ _ (b0.o.rd.ext ((Ap _).trans X)) (by have:=FP q HP.o.short;have:=HM.o;omega) (by rw[bU];have:=HM.o;omega)) ?_;refine vS ?_;refine CD _ rfl vY rfl (fun Z hb K hK=>?_);have kb:Af wr Z:=(Ap _).trans hb;obtain⟨t5,a2⟩:=vE ([Ay (Hn A),Ay H,Ay J,Ay to,Fj (q.map Ay)]);(have c0:Ic (Z.alloc (.cells (t5.map Value.string).toArray 9)) (.slice (some ⟨Z.heap.size,0,none⟩) 5 5) t5:=by have:Cd Z (Z.alloc (.cells (t5.map Value.string).toArray 9)) (.slice (some ⟨Z.heap.size,0,none⟩) 5 5) 5 t5:=Av.lit (n:=5) _ (Aa Z) vI (by rw[a2];rfl);exact this.rd);(refine Ra (v:=.slice (some ⟨Z.heap.size,0,none⟩) 5 5) (w':=Z.alloc (.cells (t5.map Value.string).toArray 9)) (by rw[a2];kernel_rfl) (hK _ _ ((Ad.refl _ Z).alloc _) ?_);have O:Fu ⟨A,H,J,to,q⟩=Fj t5:=by rw[a2];rfl);(have c2:(Aw t5).size<=65536:=by have:=HS.o;rw[O]at this;unfold Fj at this;rw[cM]at this;omega);have H6:=Hd (bA (kb.trans ((Aa Z).alloc (.cells (t5.map Value.string).toArray 9))) (bA c0 (bA O (bA c2 (show t5.length=5 by rw[a2];rfl)))));generalize Z.alloc (.cells (t5.map Value.string).toArray 9)=w6 at H6 ⊢;clear hK K hb kb c0 O c2 a2;refine vS ?_;refine Ls _ 99 #[.slice (some ⟨Z.heap.size,0,none⟩) 5 5] (.string (Fj t5)) rfl (fun w1=>Ex (vX 99) vY) (fun w1 X=>KU w1 _ _ (H6.o.2.1.ext X) (by have:=H6.o.2.2.2.1;omega) (by rw[H6.o.2.2.2.2];decide)) ?_;refine vS ?_;refine vK ?_;refine Hv (fun w7 h7=>?_);obtain⟨pb,O⟩:=vE (Fj t5);(have c1:¬(65536:Int)<(pb.size:Int):=by have:=HS.o;rw[H6.o.2.2.1, <-O]at this;omega);(have H7:=Hd (bA (b0.o.ext.trans (H6.o.1.trans h7)) O);rw[<-O];clear h7 O;go_wp2_with fail);go_ret2;exact⟨by rw[H6.o.2.2.1, <-H7.o.2];rfl,H1.o.2.trans H7.o.1⟩
theorem GK(k:Int):vR 105 #[.int .i64 k,.bool true] w (.tuple #[]):=by
 unfold vR vQ;go_in;go_wp2_with fail
 refine bodyPost_end (results_none rfl _ _ _) rfl ?_
 exact⟨rfl,Aa w⟩
theorem mJ(k:Int)(s t:vB)(l:Bool)(o n:Nat)(hs:s.size<=1000000000)(hc:Dq s=some (l,o,n))(hon:o+n=s.size)(ht:s.extract o (o+n)=t):vR 108 #[.int .i64 k,.string s,.bool l] w (.string t):=by
 have H:=GB w s _ hs hc;have J:s.extract (o+n) s.size=⟨#[]⟩:=by rw[hon];apply ByteArray.ext;simp
 simp only[ht,J]at H;have H:=Hd H;clear hc hon ht J hs;unfold vR vQ;go_in;go_wp2_with fail
 refine H.o.mono ?_;rintro e w1 ⟨rfl,q⟩;have K:=Hd q;clear q;have O:=GK w1 k;cases l with
 |true =>(go_wp2_with fail);(refine O.mono ?_;rintro e X ⟨rfl,q⟩;have A:=Hd (K.o.trans q);clear q;go_wp2_with fail);go_ret;exact⟨rfl,A.o⟩
 |false =>(go_wp2_with fail);(refine O.mono ?_;rintro e X ⟨rfl,q⟩;have A:=Hd (K.o.trans q);clear q;go_wp2_with fail);go_ret;exact⟨rfl,A.o⟩
theorem oT(k:Int)(xs:vM)(hx:∀ x∈xs,Xj x)(hs:(Aw xs).size<=1000000)(hn:xs.length<=1000000):vQ 106 #[.int .i64 k,.string (Fj xs)] w fun e w'=>∃ v,e=.returned v/\Cd w w' v xs.length xs:=by
 obtain⟨o,H,J,K⟩:=FG xs vO
 have X:=Hd (mJ w k (Fj xs) (Aw xs) true o _ (by have:=BV 192 (Aw xs).size;unfold Fj;rw[cM];omega) H J K)
 have Z:=Hd (fun w=>VY w xs hx vO hn);clear hx hs H J K;unfold vQ;go_in;go_wp2_with fail
 refine X.o.mono ?_;rintro e w1 ⟨rfl,q⟩;have HE:=Hd q;clear q;go_wp2_with fail
 refine (Z.o w1).mono ?_;rintro e w2 ⟨v,rfl,O⟩;have HR:=Hd (Av.since O HE.o);clear O;go_wp2_with fail
 refine vH (GK w2 k) fun w3 q=>?_;have A:=Hd (HR.o.mono q);go_wp2_with fail
 go_ret
 exact⟨v,rfl,A.o⟩
def XJ(m:Nat)(nv iv:vV)(wr:vW):Prop:=∃ i:Nat,i<=m/\iv=.int .i64 i/\nv=.int .u64 i
theorem jvA(k:Nat)(hk:k=0\/k=1):vR 107 #[.string (Ay (Hn k))] w (.tuple #[.int .u64 (k:Int),.int .i64 0]):=by
 rcases hk with rfl|rfl
 ·have A:=GB w (Ay (Hn 0)) (false,1,0) vI vI;(have K:(Ay (Hn 0)).extract 1 (1+0)=⟨#[]⟩:=by decide);(have O:(Ay (Hn 0)).extract (1+0) (Ay (Hn 0)).size=⟨#[]⟩:=by decide);(simp only[K,O]at A;have A:=Hd A;clear K O;unfold vR vQ;go_in;go_wp2_with fail);(refine A.o.mono ?_;rintro e w1 ⟨rfl,q⟩;have Z:=Hd q;clear q;go_wp2_with fail);(go_loopw [8,42] (fun nv J wr=>XJ 0 nv J wr/\Af w wr) (fun _ J _=>0-(intOf J).toNat));(case atStart=>exact⟨⟨0,by decide,rfl,rfl⟩,Z.o⟩);case round =>obtain⟨⟨i,hi,rfl,rfl⟩,q⟩:=hrel;have H:=Hd q;clear q;obtain rfl:i=0:=vO;(go_wp2_with fail);go_ret2;exact⟨rfl,H.o⟩
 ·have A:=GB w (Ay (Hn 1)) (false,0,1) vI vI;(have K:(Ay (Hn 1)).extract 0 (0+1)=⟨#[1]⟩:=by decide);(have O:(Ay (Hn 1)).extract (0+1) (Ay (Hn 1)).size=⟨#[]⟩:=by decide);simp only[K,O]at A;obtain⟨x,X⟩:∃ x:vB,x=⟨#[1]⟩:=⟨_,rfl⟩;(have a0:x.size=1:=by rw[X];rfl);have l1:0<x.size:=vO;(have c0:x[0].toNat=1:=by subst X;rfl);(have c2:x.toList.isEmpty=false:=Rq l1;have c1:((x[0].toNat:Int) == 0)=false:=by rw[c0];rfl);(rw[<-X]at A;clear X;have A:=Hd A;clear K O;unfold vR vQ;go_in;go_wp2_with fail);(refine A.o.mono ?_;rintro e w1 ⟨rfl,q⟩;have Z:=Hd q;clear q;go_wp2_with fail);(go_loopw [8,42] (fun nv J wr=>XJ 1 nv J wr/\Af w wr) (fun _ J _=>1-(intOf J).toNat));(case atStart=>exact⟨⟨0,by decide,rfl,rfl⟩,Z.o⟩);case round =>obtain⟨⟨i,hi,rfl,rfl⟩,q⟩:=hrel;have H:=Hd q;clear q;by_cases hlt:i<1;{obtain rfl:i=0:=vO;(go_wp2_with fail);go_roundw;(case rel=>exact⟨⟨1,by decide,by go_num,by rfl⟩,H.o⟩);case measure=>simp[intOf]};obtain rfl:i=1:=vO;(go_wp2_with fail);go_ret2;exact⟨rfl,H.o⟩
theorem NP(k:Int)(b:vB)(hb:b.size<=1000):vR 108 #[.int .i64 k,.string (Ay b),.bool false] w (.string b):=by
 obtain⟨o,e,q,A⟩:=JK b vO
 exact mJ w k _ b false o _ (by have:=Zo b;omega) e q A
theorem Ef:(callFunc 108 args).run prog w=.ok (.enter 108 args) w:=vY
theorem Gk:(prog.info? 54).map (·.size)=some 5:=vY
def EQ(p:Fd):vM:=[Ay (Hn p.kind),Ay p.root,Ay p.key,Ay p.to,Fj (p.nodes.map Ay)]
theorem Vi.sizes{p:Fd}(h:Vi p):p.kind<2/\p.root.size<=1000/\p.key.size<=1000/\p.to.size<=1000:=by
 have q:=h.root;have A:=h.key;have H:=h.to
 exact⟨by rcases h.kind with⟨e,_⟩|e<;>omega,by omega,by omega,by omega⟩
theorem jwE{p:Fd}(h:Vi p):∀ x∈EQ p,Xj x:=by
 obtain⟨A,H,J,K⟩:=h.sizes
 have O:=FP p.nodes h.short;have X:=h.nodes;intro x e;have q:(Hn p.kind).size<=1048576:=by have:=DX 8 p.kind;rw[show (Hn p.kind).size=(Ow 8 p.kind).length by simp[Hn,ByteArray.size]];omega
 simp only[EQ,bT,iH,or_false]at e;rcases e with rfl|rfl|rfl|rfl|rfl
 ·exact Yf _ q
 ·exact Yf _ vO
 ·exact Yf _ vO
 ·exact Yf _ vO
 ·exact YP _ vO
theorem uD{p:Fd}(h:Vi p):(Aw (EQ p)).size<=1000000:=by
 obtain⟨e,q,A,H⟩:=h.sizes
 have J:=FP p.nodes h.short;have K:=h.nodes;have O:(Hn p.kind).size<=8:=by have:=DX 8 p.kind;rw[show (Hn p.kind).size=(Ow 8 p.kind).length by simp[Hn,ByteArray.size]];omega
 have g1:=Zo (Hn p.kind);have X:=Zo p.root;have Z:=Zo p.key;have g4:=Zo p.to;have g5:=UF (p.nodes.map Ay);unfold EQ;rw[CI,CI,CI,CI,CI];simp only[cM]
 have:(Aw []).size=0:=rfl
 omega
theorem Tu:Xg (prog.underlying 54)=true:=vY
theorem YF(hl:vs.length=5){T:TypeId}(hB:Ae W b (.cells vs.toArray T fz)):(Instr.loadAt 54 (.pointer (some ⟨b,0,none⟩))).run prog W=.ok (.agg vs.toArray) W:=by
 obtain⟨A,e⟩:=Yd Tu
 exact Yg e (by rw[hl];exact Gk) (fun j v q=>by rw[Go.WideShapes.add_plain,bX];exact hB.cellL q)
theorem YB(hl:vs.length=5){T:TypeId}(hB:Ae W b (.cells vs.toArray T fz)):(loadVar 54 ⟨b,0,none⟩).run prog W=.ok (.agg vs.toArray) W:=by
 have:=YF W b vs hl hB
 simpa [Instr.loadAt,Instr.sureAddr,bQ,Result.andThen]using this
theorem jqD{t:Tmp}{ty:TypeId}(h:fn.results=#[.cell t ty]){a:Addr}(ha:tmps.getD t undef=.pointer (some a)){w:vW}(hl:(loadVar ty a).run P w=.ok v w) :
  (results fn tmps).run P w=.ok v w:=by
 have e:tmps[t]?.getD undef=.pointer (some a):=by simpa using ha
 simp[results,h,e,asAddr,bQ,Result.andThen,hl]
def tS(wL:vW)(pb:Nat)(p:Fd)(iv:vV)(wr:vW):Prop:=∃ i:Nat,i<=p.nodes.length/\iv=.int .i64 i/\∃ nv,Ae wr pb (.cells (p.cells nv).toArray 54)/\Ad (fun z=>z=pb) wL wr/\(∃ a c,nv=.slice a i c)/\wr.ownsRow 0 9 1 nv i ((p.nodes.take i).map Value.string)/\∀ b,nv.ownBlock=some b->wL.heap.size<=b
theorem jzc(p:Fd)(hp:Vi p)(hs:(Fu p).size<=65536):vQ 55 #[.string (Fu p)] w fun e w'=>∃ nv,e=.returned (.agg (p.cells nv).toArray)/\Cd w w' nv p.nodes.length p.nodes:=by
 have HP:=Hd hp;have HS:=Hd hs
 obtain⟨m,hm⟩:=vE p.nodes.length
 have HM:=Hd hm
 obtain⟨s,b6⟩:=vE (Fu p)
 have g0:=Hd b6;have c1:(s.size:Int)<=65536:=by rw[b6];omega
 rw[<-b6, <-hm];have HI:=Hd (fun w=>oT w (-1) (EQ p) (jwE hp) (uD hp) (by show 5<=1000000;decide));have c8:Fj (EQ p)=s:=by rw[b6];rfl
 rw[c8]at HI;have d1:=Hd (show m<=200 by rw[hm];exact hp.nodes);have HG:=Hd (fun w=>jvA w p.kind (by rcases hp.kind with⟨e,_⟩|e;exact .inl e;exact .inr e));clear hp hs hm b6 c8;unfold vQ;go_in;go_wp2_with fail
 have d2:=Ae.new w (.cells #[.int .i64 0,.string ⟨#[]⟩,.string ⟨#[]⟩,.string ⟨#[]⟩,.slice none 0 0] 54);have d3:=(Aa w).alloc (.cells #[.int .i64 0,.string ⟨#[]⟩,.string ⟨#[]⟩,.string ⟨#[]⟩,.slice none 0 0] 54);generalize w.alloc (.cells #[.int .i64 0,.string ⟨#[]⟩,.string ⟨#[]⟩,.string ⟨#[]⟩,.slice none 0 0] 54)=w1 at d2 d3 ⊢;refine vC (GK w1 (-1)) fun w2 b7=>?_;have H2:=Hd (bA (d2.keeps b7 (fun h=>h)) (d3.trans b7));clear d2 d3 b7;go_wp2_with fail
 refine (HI.o w2).mono ?_;rintro e w3 ⟨v3,rfl,c9⟩
 obtain⟨a3,c3,rfl⟩:=c9.sl
 obtain⟨g3,rfl⟩:=GJ c9.own (by show 5≠0;decide)
 have H3:=Hd c9;clear c9;have c8:(EQ p).length=5:=rfl;rw[c8]at H3 ⊢;go_wp2_with fail
 refine vC (GK w3 (-1)) fun w4 d4=>?_;have e7:=Hd (H3.o.mono d4);have c0:=d4;have q0:=AP e7.o.own (j:=0) (u:=.string (Ay (Hn p.kind))) rfl;clear d4;go_wp2_with fail
 refine vH (HG.o w4) fun w5 e8=>?_;have g2:=Hd (e7.o.mono e8);have c2:=c0.trans e8;have h7:(p.kind:Int)<=1:=by have:=HP.o.sizes.1;omega
 clear q0;go_wp2_with fail
 refine vH (GK w5 0) fun w6 e9=>?_;have g4:=Hd (g2.o.mono e9);have f0:=Hd (c2.trans e9);clear c0 c2;have H:=g4.o;have r1:=AP H.own (j:=1) (u:=.string (Ay p.root)) rfl;have r2:=AP H.own (j:=2) (u:=.string (Ay p.key)) rfl;have r3:=AP H.own (j:=3) (u:=.string (Ay p.to)) rfl;have r4:=AP H.own (j:=4) (u:=.string (Fj (p.nodes.map Ay))) rfl;have g5:=H.lt g3 rfl;have H6:=Hd (bA (show ¬ w6.heap.size<=g3 by omega) (bA (bA r1 (bA r2 r3)) r4));go_wp2_with fail
 clear H r1 r2 r3 r4 g5;refine Nc [0,1,2,3,4,5,6,7,8,9,10,11,12,13,14,15,16] [15,16] Af (Ad (fun z=>w6.heap.size<=z)) Aa Aq (fun x y z h k=>Ad.trans h k) (fun x y h=>h.mono (fun _ _ h=>h.elim)) vY vY vY ?_;iterate 4 refine vD ?_
 refine Fc ⟨g3,1,none⟩ (.string (Ay p.root)) rfl (fun w1 h1=>Dt (fun w=>by kernel_rfl) (Dw (Am H6.o.2.1.1 (Ap _)) h1 H6.o.1)) ?_;refine vS ?_;refine FM _ 108 #[.int .i64 1,.string (Ay p.root),.bool false] (.string p.root) rfl vY rfl (fun w1=>Ex Ef vY) (fun w1 h1=>NP w1 1 p.root HP.o.sizes.2.1) ?_;refine vS ?_;iterate 2 refine vD ?_
 refine Fc ⟨g3,2,none⟩ (.string (Ay p.key)) rfl (fun w1 h1=>Dt (fun w=>by kernel_rfl) (Dw (Am H6.o.2.1.2.1 (Ap _)) h1 H6.o.1)) ?_;refine vS ?_;refine FM _ 108 #[.int .i64 2,.string (Ay p.key),.bool false] (.string p.key) rfl vY rfl (fun w1=>Ex Ef vY) (fun w1 h1=>NP w1 2 p.key HP.o.sizes.2.2.1) ?_;refine vS ?_;iterate 2 refine vD ?_
 refine Fc ⟨g3,3,none⟩ (.string (Ay p.to)) rfl (fun w1 h1=>Dt (fun w=>by kernel_rfl) (Dw (Am H6.o.2.1.2.2 (Ap _)) h1 H6.o.1)) ?_;refine vS ?_;refine FM _ 108 #[.int .i64 3,.string (Ay p.to),.bool false] (.string p.to) rfl vY rfl (fun w1=>Ex Ef vY) (fun w1 h1=>NP w1 3 p.to HP.o.sizes.2.2.2) ?_;refine vS ?_
 refine vD ?_
 refine Hl _ rfl (fun J hb K O=>?_);have kb:Af w6 J:=(Ap _).trans hb;refine Ra (v:=.pointer (some ⟨J.heap.size,0,none⟩)) (w':=J.alloc (.cells #[.int .i64 0,.string ⟨#[]⟩,.string ⟨#[]⟩,.string ⟨#[]⟩,.slice none 0 0] 54)) vY (O _ _ ((Ad.refl _ J).alloc _) ?_);have f1:=Ae.new J (.cells #[.int .i64 0,.string ⟨#[]⟩,.string ⟨#[]⟩,.string ⟨#[]⟩,.slice none 0 0] 54);have k7:Af w6 (J.alloc (.cells #[.int .i64 0,.string ⟨#[]⟩,.string ⟨#[]⟩,.string ⟨#[]⟩,.slice none 0 0] 54)):=kb.trans ((Aa J).alloc _);have H7:=Hd (bA kb.size (bA f1 k7));generalize J.alloc (.cells #[.int .i64 0,.string ⟨#[]⟩,.string ⟨#[]⟩,.string ⟨#[]⟩,.slice none 0 0] 54)=w7 at H7 ⊢;clear O K hb kb f1 k7;refine vS ?_;refine Hl _ rfl (fun wc hc K O=>?_);have g6:=H7.o.1;refine VO (old:=[.int .i64 0,.string ⟨#[]⟩,.string ⟨#[]⟩,.string ⟨#[]⟩,.slice none 0 0]) (vs:=p.cells (.slice none 0 0)) rfl rfl rfl (H7.o.2.1.keeps hc (fun h=>h)) (by show 5<=5;decide) Gk (by simp[Fd.cells,Value.oneCell']) (fun W8 f2 d5=>O _ _ (d5.mono fun z _ e=>by have e:z=J.heap.size:=e;show w6.heap.size<=z;omega) ?_);have H8:=Hd (bA (H7.o.2.2.trans hc) (bA f2 d5));clear O K hc f2 d5;refine vS ?_;refine Mr (fun w9 h9=>?_)
 obtain⟨A,d6⟩:=vE J.heap.size
 have k9:Af w6 w9:=(H8.o.1.trans' H8.o.2.2 (fun z hz e=>by have e:z=J.heap.size:=e;omega)).trans h9;have f3:Ae w9 A (.cells (p.cells (.slice none 0 0)).toArray 54):=by have:=H8.o.2.1.keeps h9 (fun h=>h);rw[d6];simpa [Fd.cells]using this
 rw[<-d6];have r4:=Am H6.o.2.2 k9;have H9:=Hd (bA k9 (bA f3 (show w6.heap.size<=A by omega)));clear h9 k9 f3 d6 g6;go_wp2_with fail
 have f4:∀ x∈p.nodes.map Ay,Xj x:=fun x hx=>by obtain⟨y,hy,rfl⟩:=bC.1 hx;exact Yf y (by have:=HP.o.short y hy;omega)
 refine (oT w9 4 (p.nodes.map Ay) f4 (by have:=FP p.nodes HP.o.short;have:=HM.o;have:=d1.o;omega) (by rw[bU];have:=HM.o;have:=d1.o;omega)).mono ?_;rintro e b8 ⟨h8,rfl,a2⟩;have f5:(p.nodes.map Ay).length=m:=by rw[bU,HM.o]
 rw[f5]at a2
 obtain⟨i0,i1,rfl⟩:=a2.sl
 have a9:=H9.o.2.1.keeps a2.ext (fun h=>h);have d7:=a9.lt;have a5:=Hd (bA a2 (bA a9 (bA d7 H9.o.2.1.lt)));clear a2 a9 d7 f4 f5 r4;go_wp2_with fail
 go_loopw [54] (fun iv wr=>tS b8 A p iv wr) (fun iv _=>m-(intOf iv).toNat)
 case atStart=>exact⟨0,cE _,rfl,_,a5.o.2.1,Ad.refl _ _,⟨none,0,rfl⟩,fE _ _ _ _,fun b hb=>by cases hb⟩
 case round =>obtain⟨i,hi,rfl,nv,hB,O,⟨an,cn,rfl⟩,c4,X⟩:=hrel;have HR:=Hd (bA hB (bA O (bA c4 X)));have f6:=HM.o;clear hB O c4 X;by_cases hlt:i<m;{obtain⟨x,hx⟩:∃ x,p.nodes[i]?=some x:=⟨_,bB (by rw[<-HM.o];exact hlt)⟩;have HX:=Hd hx;obtain⟨d8,rfl⟩:=GJ a5.o.1.own vO;have e3:w9.heap.size<=d8:=a5.o.1.new d8 rfl;have q1:=Dw (AP a5.o.1.own (j:=i) (u:=.string (Ay x)) (by rw[bY,bY,hx];rfl)) HR.o.2.1 (show ¬ d8=A by have:=a5.o.2.2.2;omega);have b1:(i:Int)<(m:Int):=vO;(have g7:x.size<=1000:=HP.o.short x (bD hx);clear hx e3 f6;go_wp2_with fail);have d7:=a5.o.2.2.1;have i2:=HR.o.2.1.size;have a8:=HR.o.2.2.2;refine BU [0,1,2,3,4,5,6] 7 [3,4,5] Af (Ad (fun z=>b8.heap.size<=z)) Aa Aq (fun x y z h k=>Ad.trans h k) (fun x y h=>h.mono (fun _ _ h=>h.elim)) vY vY vY ?_;refine vZ ?_;refine Ww ⟨A,4,none⟩ (.slice an i cn) rfl (fun w1 h1=>Dt (fun w=>by kernel_rfl) ((HR.o.1.drew.keeps h1 vO).cellL rfl)) ?_;refine vS ?_;refine vZ ?_;refine Zf _ rfl vY rfl (fun wa ha K O=>?_);have ka:Af wr wa:=(Ap _).trans ha;refine Oe (Ex Ef vY) ((NP wa 4 x g7).mono ?_);rintro e h4 ⟨rfl,a4⟩;refine⟨_,rfl,O _ _ (a4.mono fun _ _ e=>e.elim) ?_⟩;(have a4:=ka.trans a4;clear O K ha ka;refine vS ?_;refine Zf _ rfl vY rfl (fun J hb K O=>?_);have kb:Af wr J:=a4.trans hb;have g8:=kb.size;refine Ra (v:=.slice (some ⟨J.heap.size,0,none⟩) 1 1) (w':=J.alloc (.cells #[.string x] 9)) vY (O _ _ ((Ad.refl _ J).alloc _) ?_);have X:=Jx (news:=[.string x]) (Ae.new J (.cells #[.string x] 9));have Z:Af wr (J.alloc (.cells #[.string x] 9)):=kb.trans ((Aa J).alloc _);generalize J.alloc (.cells #[.string x] 9)=f7 at X Z ⊢;clear O K hb kb;refine vS ?_;refine Zf _ rfl vY rfl (fun wc hc K O=>?_);have q:=Z.trans hc;have a0:=Jy HR.o.2.2.1 q;have i3:i<=200:=by have:=d1.o;omega);refine CN Cg (Av.any a0) (.tmp 59) (.tmp 62) (news:=[.string x]) rfl rfl (fun j u hj=>by have:=X j u hj;rw[Addr.add_lit]at this ⊢;exact Am this hc) (by intro u hu;simp at hu;rw[hu];rfl) rfl rfl (by unfold maxLen;omega) vO (fun v' b4 r1 r2 r3=>O _ _ (r2.mono fun z _ e=>a8 z e) ?_);obtain⟨a',c',rfl⟩:=r1.sl;have a7:=Hd (bA q (bA r1.own (bA r2 r3)));clear O K hc a0 r1 r2 r3 q Z X a4 g8;refine vS ?_;refine vZ ?_;(refine CE _ rfl vY rfl (fun wd hd K O=>?_);have q:=a7.o.1;have d0:=((HR.o.1.keeps q (fun h=>h)).keeps a7.o.2.2.1 (fun e=>by have h:=a8 A e;omega)).keeps hd (fun h=>h);have qd:wd.cell? ⟨A,4,none⟩=some (.slice an i cn):=d0.cellL rfl;have fd:wd.frozen? ⟨A,4,none⟩=false:=d0.frozen;have d9:=Hd (bA hd d0);clear hd d0 q;go_simp;refine O _ _ ?_;clear O K qd fd;have b0:=d9.o.2.set_same (i:=4) (.slice a' (i+1) c');have e0:=Ad.oneSet wd ⟨A,4,none⟩ (.slice a' (i+1) c');generalize wd.setCell ⟨A,4,none⟩ (.slice a' (i+1) c')=w13 at b0 e0 ⊢;have b2:=Hd (bA b0 e0);clear b0 e0;go_wp2_with fail);go_roundw;(case rel =>refine⟨i+1,by have:=HM.o;omega,by go_num,_,b2.o.1,?_,⟨a',c',rfl⟩,?_,fun b hb=>?_⟩;{have k1:Ad (fun z=>z=A) b8 wr:=HR.o.2.1;(have k2:Ad (fun z=>z=A) wr wc:=a7.o.1.mono fun _ _ e=>e.elim;have k3:=(k1.trans k2).trans' a7.o.2.2.1 fun z hz e=>by have h:=a8 z e;omega);exact (k3.trans (d9.o.1.mono fun _ _ e=>e.elim)).trans b2.o.2};{(have g9:∀ b,(Value.slice a' (i+1) c').ownBlock=some b->b8.heap.size<=b:=fun b hb=>by rcases a7.o.2.2.2 with e|e;{rw[e]at hb;exact a8 b hb};have h1:=e b hb;have h2:=a7.o.1.size;omega);have:=Kq (Jy a7.o.2.1 d9.o.1) b2.o.2 (fun b hb e=>by have h:=g9 b hb;have e:b=A:=e;omega);rw[cA,HX.o,bW];exact this};rcases a7.o.2.2.2 with e|e;{rw[e]at hb;exact a8 b hb};have h1:=e b hb;have h2:=a7.o.1.size;omega);case measure=>exact vJ};have b1:¬(i:Int)<(m:Int):=vO;obtain rfl:i=m:=vO;(clear f6;have b5:=HR.o.1;have p0:wr.cell? ⟨A,0,none⟩=some (.int .i64 (p.kind:Int)):=b5.cellL rfl;have p1:wr.cell? ⟨A,1,none⟩=some (.string p.root):=b5.cellL rfl;have p2:wr.cell? ⟨A,2,none⟩=some (.string p.key):=b5.cellL rfl;have p3:wr.cell? ⟨A,3,none⟩=some (.string p.to):=b5.cellL rfl;have p4:wr.cell? ⟨A,4,none⟩=some (.slice an i cn):=b5.cellL rfl;have a0:wr.ownsRow 0 9 1 (.slice an i cn) i (p.nodes.map Value.string):=by have:=HR.o.2.2.1;rw[HM.o,cD]at this;rw[HM.o];exact this);(have h0:=Hd a0;have b3:=WT wr p (.slice an i cn) (Cd.rd (Av.any a0)) HP.o HS.o;rw[<-g0.o]at b3;have e4:=Hd b3;clear b5 a0 b3;go_wp2_with fail);(refine e4.o.mono ?_;rintro e f7 ⟨rfl,Z⟩;have e5:=Hd Z;clear Z p0 p1 p2 p3 p4;go_wp2_with fail);(refine vH (GK f7 (-1)) fun b4 q=>?_;have hE:=e5.o.trans q;have a1:=HR.o.1.keeps hE (fun h=>h);have p0:b4.cell? ⟨A,0,none⟩=some (.int .i64 (p.kind:Int)):=a1.cellL rfl;have p1:b4.cell? ⟨A,1,none⟩=some (.string p.root):=a1.cellL rfl;have p2:b4.cell? ⟨A,2,none⟩=some (.string p.key):=a1.cellL rfl;have p3:b4.cell? ⟨A,3,none⟩=some (.string p.to):=a1.cellL rfl;have p4:b4.cell? ⟨A,4,none⟩=some (.slice an i cn):=a1.cellL rfl;have b9:Af w2 w9:=H3.o.ext.trans (f0.o.trans H9.o.1);have e1:w.heap.size<w6.heap.size:=by have:=H2.o.1.lt;have:=H3.o.ext.size;have:=f0.o.size;omega);(have f8:=(H2.o.1.keeps b9 (fun h=>h)).keeps a5.o.1.ext (fun h=>h);have e2:=(f8.keeps HR.o.2.1 (show ¬ w.heap.size=A by have:=H9.o.2.2;omega)).keeps hE (fun h=>h);have c5:=Hd (bA hE (bA e2 (bA b9 e1)));clear hE a1 b9 f8 e2 e1;go_wp2_with (refine Bv (vs:=p.cells (.slice an i cn)) rfl rfl rfl rfl c5.o.2.1 rfl Gk (by simp[Fd.cells,Value.oneCell']) ?_;intro f9 e6 c7));refine bodyPost_ret (jqD rfl rfl (YB f9 w.heap.size _ rfl e6)) rfl ?_;obtain⟨hE,e2,b9,e1⟩:=c5.o;have h5:=H9.o.2.2;have h3:Af w w9:=H2.o.2.trans b9;have h6:=a5.o.1.ext.size;have b7:Af w f9:=((((h3.trans a5.o.1.ext).trans' HR.o.2.1 fun z hz e=>by have e:z=A:=e;omega).trans hE).trans' c7 fun z hz e=>by have e:z=w.heap.size:=e;omega);have a8:∀ b,(Value.slice an i cn).ownBlock=some b->b8.heap.size<=b:=HR.o.2.2.2;refine⟨_,rfl,⟨⟨an,cn,rfl⟩,Kq (Jy h0.o hE) c7 (fun b hb e=>by have:=a8 b hb;have e:b=w.heap.size:=e;have:=H9.o.1.size;omega),b7,fun b hb=>by have:=a8 b hb;have:=H9.o.1.size;omega⟩⟩
theorem jza(x y:vV):CallsD prog 53 #[x,y] .returning w fun e A w'=>A=.returning/\e=.returned (.tuple #[])/\w'=w:=by
 refine callsD_of_wpS func53 rfl fun q cs H=>?_;apply wpS_seq;apply wpS_region;simp[wpOpsS,go_sem,recoverD,H,ntmps53,Exit.thenS];apply wpS_seq;apply wpS_seq;apply wpS_region;simp[wpOpsS,go_sem,Exit.thenS];refine wpS_cond (t:=true) (by simp[Act.eval,Array.replicate]) ?_;simp only[if_true];refine wpS_of_wp (wp_ret ?_);cases q
 simp_all [bodyPostS,results,func53,Exit.thenS]
theorem jqE{t u:Tmp}{ty ty2:TypeId}(h:fn.results=#[.cell t ty,.cell u ty2]){a a':Addr}(ha:tmps.getD t undef=.pointer (some a))(hb:tmps.getD u undef=.pointer (some a')){w:vW}{x:vV}(hl:(loadVar ty a).run P w=.ok v w)(hx:(loadVar ty2 a').run P w=.ok x w) :
  (results fn tmps).run P w=.ok (.tuple #[v,x]) w:=by
 have e:tmps[t]?.getD undef=.pointer (some a):=by simpa using ha
 have q:tmps[u]?.getD undef=.pointer (some a'):=by simpa using hb
 simp[results,h,e,q,asAddr,bQ,Result.andThen,hl,hx]
theorem xV(p:Fd)(hp:Vi p)(hs:(Fu p).size<=65536):vQ 16 #[.string (Fu p)] w fun e w'=>∃ nv,e=.returned (.tuple #[.agg (p.cells nv).toArray,.int .i64 0])/\Cd w w' nv p.nodes.length p.nodes:=by
 have HR:=Hd (fun w=>jzc w p hp hs);have a5:∀ (fn:Fn) (first cap:Array vV) (w:vW),(Instr.makeFunc fn first cap).run prog w=.ok (.func fn first cap) w:=fun _ _ _ _=>rfl
 obtain⟨s,O⟩:=vE (Fu p)
 rw[<-O]at HR ⊢;clear hp hs O;go_enter_defers func16,ntmps16;go_wp2_with fail
 have J:=(Ae.new w (.cells #[.int .i64 0,.string ⟨#[]⟩,.string ⟨#[]⟩,.string ⟨#[]⟩,.slice none 0 0] 54)).alloc (.cells #[.int .i64 0] 25);have A:=((Aa w).alloc (.cells #[.int .i64 0,.string ⟨#[]⟩,.string ⟨#[]⟩,.string ⟨#[]⟩,.slice none 0 0] 54)).alloc (.cells #[.int .i64 0] 25);have H:Ae ((w.alloc (.cells #[.int .i64 0,.string ⟨#[]⟩,.string ⟨#[]⟩,.string ⟨#[]⟩,.slice none 0 0] 54)).alloc (.cells #[.int .i64 0] 25)) (w.heap.size+1) (.cells #[.int .i64 0] 25):=by have:=Ae.new (w.alloc (.cells #[.int .i64 0,.string ⟨#[]⟩,.string ⟨#[]⟩,.string ⟨#[]⟩,.slice none 0 0] 54)) (.cells #[.int .i64 0] 25);rwa [bG]at this
 generalize (w.alloc (.cells #[.int .i64 0,.string ⟨#[]⟩,.string ⟨#[]⟩,.string ⟨#[]⟩,.slice none 0 0] 54)).alloc (.cells #[.int .i64 0] 25)=w1 at J A H ⊢;have a7:=H.lt;refine (HR.o w1).mono ?_;rintro e w2 ⟨nv,rfl,q⟩;have HB:=Hd (bA (J.keeps q.ext (fun h=>h)) (bA (H.keeps q.ext (fun h=>h)) (bA A q)))
 obtain⟨a2,c2,rfl⟩:=q.sl
 obtain⟨m,hm⟩:=vE p.nodes.length
 have HM:=Hd hm;unfold Fd.cells;rw[<-hm]at HB ⊢;clear J H A q hm;go_wp2_with (refine Bv (vs:=p.cells (.slice a2 m c2)) rfl rfl rfl rfl HB.o.1 rfl Gk (by simp[Fd.cells,Value.oneCell']) ?_;intro W3 a1 X;have K:=HB.o.2.1.keeps X (show ¬ w.heap.size+1=w.heap.size by omega);have q3:W3.cell? ⟨w.heap.size+1,0,none⟩=some (.int .i64 0):=K.cell (i:=0) rfl;have f3:W3.frozen? ⟨w.heap.size+1,0,none⟩=false:=K.frozen)
 have Z:=K.set_same (i:=0) (.int .i64 0);have k4:=Ad.oneSet W3 ⟨w.heap.size+1,0,none⟩ (.int .i64 0);have a0:=a1.keeps k4 (show ¬ w.heap.size=w.heap.size+1 by omega);generalize W3.setCell ⟨w.heap.size+1,0,none⟩ (.int .i64 0)=w4 at Z k4 a0 ⊢;refine leaves_cons (f:=53) (args:=#[.pointer (some ⟨w.heap.size,0,none⟩),.pointer (some ⟨w.heap.size+1,0,none⟩)]) (by simp) (by simp[go_sem]) ?_;refine (jza w4 _ _).mono ?_;rintro e u' w5 ⟨rfl,rfl,rfl⟩;have a3:=YB w5 w.heap.size _ rfl a0;have a4:(loadVar 25 ⟨w.heap.size+1,0,none⟩).run prog w5=.ok (.int .i64 0) w5:=by have:=Bq underlying25 rfl (Z.cell (i:=0) (v:=.int .i64 0) rfl);simpa [Instr.loadAt,Instr.sureAddr,bQ,Result.andThen]using this
 obtain⟨_,_,A,q⟩:=HB.o
 have a8:=q.ext.size;have kx:Ad (fun z=>z=w.heap.size\/z=w.heap.size+1) w2 w5:=(X.mono fun z _ e=>.inl e).trans (k4.mono fun z _ e=>.inr e)
 refine⟨_,jqE rfl rfl rfl a3 a4,_,by rw[HM.o],?_⟩
 rw[HM.o]at q
 exact⟨⟨a2,c2,rfl⟩,Kq q.own kx (fun b hb e=>by have:=q.new b hb;rcases e with e|e<;>omega),(A.trans q.ext).trans' kx (fun z hz e=>by rcases e with e|e<;>omega),fun b hb=>by have:=q.new b hb;omega⟩
end
section
open Go Go.RowKit
attribute [local go_sem] Oper.semAt_some
def BO:vV:=.iface 25 (.int .i64 10)
def QE(z:Nat)(W:vW)(v:vV):Prop:=∃ (b:Nat) (k:Int),v=.iface 283 (.pointer (some ⟨b,0,none⟩))/\Ae W b (.cells #[.int .i64 k,BO] 285)/\z<=b
def Nk(W:vW)(wb:Nat)(root:vB)(v:vV)(u:Nat)(ev:vV):Prop:=Ae W wb (.cells #[.string root,v,.int .i64 (u:Int),ev] 287)
theorem VP{o:Oper}{a:Act}{w:vW}{K:Act->vW->Prop}{T:TypeId}{cs:List vV}(hrun:∀ w,(Instr.alloc T true (.tuple #[])).run P w=.ok (.pointer (some ⟨w.heap.size,0,none⟩)) (w.alloc (.cells cs.toArray T)))(ho:o.op=.alloc T)
  (h:∀ W,Ae W w.heap.size (.cells cs.toArray T)->Af w W->K (a.put o.dst (.pointer (some ⟨w.heap.size,0,none⟩))) W):o.wp P a w K Q:=
 Ra (v:=.pointer (some ⟨w.heap.size,0,none⟩)) (w':=w.alloc (.cells cs.toArray T)) (by simp only[execOp,ho,bQ,hrun,Result.andThen,cU]) (h _ (Ae.new w _) ((Aa w).alloc _))
def yM(W:vW)(wb:Nat)(root:vB)(v:vV)(u:Nat)(ev:vV)(r:Option Ai)(e:Ending)(w':vW):Prop:=
 Ad (fun b=>b=wb) W w'/\match r with
  |some n=>e=.returned (.tuple #[n.V,.bool true])/\Nk w' wb root v (u+1) ev/\n.refs.length=16
  |none=>e=.returned (.tuple #[Db.V,.bool false])/\∃ ev',QE W.heap.size w' ev'/\Nk w' wb root v u ev'
theorem Lb{a b:vW}(h:Af a b):Ad F a b:=h.mono (fun _ _ h=>h.elim)
theorem Ql:Xg (prog.underlying 122)=true:=vY
theorem Eg:(prog.info? 122).map (·.size)=some 2:=vY
def Jg:Option vB->List vV|some u=>[.bool true,.string u]|none=>[.bool false,.string ⟨#[]⟩]
def Lk(o:Option vB):vV:=.agg (Jg o).toArray
theorem Wj:(Jg o).length=2:=by cases o<;>rfl
theorem KM:∀ v∈Jg o,v.oneCell'=true:=by
 cases o <;>(intro v e;simp[Jg]at e;rcases e with rfl|rfl<;>rfl)
theorem RQ{w:vW}{b:Nat}{o:Option vB}(hB:Ae w b (.cells (Jg o).toArray 122)):(Instr.loadAt 122 (.pointer (some ⟨b,0,none⟩))).run prog w=.ok (Lk o) w:=by
 obtain⟨A,e⟩:=Yd Ql
 exact Yg e (by rw[Wj];exact Eg) (fun j v q=>by rw[NQ];exact hB.cellL q)
theorem RA{w:vW}{b:Nat}{o:Option vB}(hB:Ae w b (.cells (Jg o).toArray 122)):(loadVar 122 ⟨b,0,none⟩).run prog w=.ok (Lk o) w:=by
 have:=RQ hB
 simpa [Instr.loadAt,Instr.sureAddr,bQ,Result.andThen]using this
theorem Dl:∀ w,(Instr.alloc 122 true (.tuple #[])).run prog w=.ok (.pointer (some ⟨w.heap.size,0,none⟩)) (w.alloc (.cells (Jg none).toArray 122)):=fun w=>by kernel_rfl
theorem juS(pa va p:vB)(rs:vM)(hr:rs.length=16) :
  vR 154 #[(Ai.mk 1 pa va rs).V,.string pa] W (Lk (some va)):=by
 have HL:=Hd (Ai.cells_len ⟨1,pa,va,rs⟩ hr);clear hr;have K:(⟨#[]⟩:vB).toList.isEmpty=true:=by rw[cC];rfl
 skip
 have O:=Hd ((Ae.new W (.cells (Ai.cells ⟨1,pa,va,rs⟩).toArray 215)).cellL (i:=0) (v:=.int .i64 1) vF);have X:=Hd ((Ae.new W (.cells (Ai.cells ⟨1,pa,va,rs⟩).toArray 215)).cellL (i:=1) (v:=.string pa) vF);have Z:=Hd ((Ae.new W (.cells (Ai.cells ⟨1,pa,va,rs⟩).toArray 215)).cellL (i:=2) (v:=.string va) vF);unfold Ai.V;unfold vR vQ;go_in;go_wp2_with (first|(refine Di Dl rfl rfl ?_;intro W2 A q;rw[bG]at A;have q0:=Am O.o q;have q1:=Am X.o q;have q2:=Am Z.o q)|(refine Bv (old:=Jg none) (vs:=Jg (some va)) rfl rfl rfl rfl A rfl Eg (KM _) ?_;intro W8 H J))
 refine bodyPost_ret (Zd rfl rfl (RA H)) rfl ?_
 exact⟨rfl,(((Aa W).alloc _).trans q).trans' J (fun x hx e=>by have e:x=_:=e;have:=(((Aa W).alloc (.cells (Ai.cells ⟨1,pa,va,rs⟩).toArray 215)):Af W _).size;omega)⟩
end
section
open Go Go.RowKit
end
section
open Go Go.RowKit
attribute [local go_sem] Oper.semAt_some
section wide
variable {P:Program}
theorem aG{o:Oper}{a:Act}{w:vW}{K:Act->vW->Prop}{Q:Exit->Act->vW->Prop}(hd:∀ c,o.op≠.defer c)(h:o.wp P a w K (fun _ _ _=>False)) :
  o.wpIn Fence.wide 0 P a w K Q:=by
 unfold Oper.wp at h
 refine⟨fun _ _=>trivial,?_⟩
 rw[Oper.semAt_eq _ _ _ hd];generalize (execOp a.eval o).run P w=r at *;cases r with
 |ok x w' =>(cases x with| value v=>exact h| skip=>exact h| defer d=>exact h| enter f args =>(refine bA (fun q=>absurd q (by simp[Fence.wide])) (callsIn_wide.2 (Calls.mono h fun e H A=>?_));cases e with| returned v=>exact A| panicked c=>exact A.elim| outgrown=>exact absurd A (fun ⟨_,_,h⟩=>h))| row r args=>exact bA (fun q=>absurd q (by simp[Fence.wide])) (fun c cs _=>let ⟨v,w',r,s⟩:=h c cs;⟨v,w',r,stepsIn_wide.2 s⟩)| round l f t a b=>exact h.elim| _=>exact h.elim)
 |halt x w' =>cases x<;>first|exact h.elim|exact h
theorem RH{ops:Array Oper}{rest:List Oper}{o:Oper}{a:Act}{w:vW}{Q:Exit->Act->vW->Prop}{T:TypeId}{cs:List vV}(hrun:∀ w,(Instr.alloc T true (.tuple #[])).run P w=.ok (.pointer (some ⟨w.heap.size,0,none⟩)) (w.alloc (.cells cs.toArray T)))(hgd:o.guard=none)(ho:o.op=.alloc T)
  (h:∀ W,Ae W w.heap.size (.cells cs.toArray T)->Af w W->wpListIn Fence.wide 0 P ops Q rest (a.put o.dst (.pointer (some ⟨w.heap.size,0,none⟩))) W):wpListIn Fence.wide 0 P ops Q (o::rest) a w:=
 wpListIn_plain hgd fun K e=>aG (by rw[ho];intro c q;cases q) (Ra (v:=.pointer (some ⟨w.heap.size,0,none⟩)) (w':=w.alloc (.cells cs.toArray T)) (by simp only[execOp,ho,bQ,hrun,Result.andThen,cU]) (e _ _ (h _ (Ae.new w _) ((Aa w).alloc _))))
theorem zM{ops:Array Oper}{rest:List Oper}{o:Oper}{a:Act}{w:vW}{Q:Exit->Act->vW->Prop}{T T2:TypeId}{x y:Operand}{b:Nat}{old vs:List vV}(hgd:o.guard=none)(ho:o.op=.store T x y)(hx:a.eval x=.pointer (some ⟨b,0,none⟩))(hy:a.eval y=.agg vs.toArray)
  (hB:Ae w b (.cells old.toArray T2)) (hl:old.length=vs.length) (hi:(P.info? T).map (·.size)=some vs.length) (h1:∀ v∈vs,v.oneCell'=true)
  (h:∀ W,Ae W b (.cells vs.toArray T2)->Ad (fun z=>z=b) w W->wpListIn Fence.wide 0 P ops Q rest (a.put o.dst undef) W):wpListIn Fence.wide 0 P ops Q (o::rest) a w:=by
 refine wpListIn_plain hgd fun K e=>aG (by rw[ho];intro c q;cases q) ?_;refine wp_store_mid T x y ho b 0 vs.toArray hx hy (by have:=KP hB;rw[hl]at this;simpa using this) (by simpa using hi) (all_oneCell_toArray h1) (e _ _ (h _ ?_ (Ad.oneSetCells b vs 0 w)))
 have:=Ae.setCells vs 0 w old hB vO
 rw[fS vO]at this;simpa using this
end wide
structure Vr(W0:World)(b1 wb pc:Nat)(root:vB)(v:Value)(p0:vB)(O:Bf)(W:World):Prop where
 is:∀ b,O b↔b<W0.heap.size\/b=b1\/b=wb\/b=pc
 size:W0.heap.size<=W.heap.size
 old:∀ b,b<W0.heap.size->W.heap[b]?=W0.heap[b]?
 way:Nk W wb root v 0 .nilIface
 cap:Ae W b1 (.cells #[.pointer (some ⟨wb,0,none⟩)] 340)
 path:Ae W pc (.cells #[.string p0] 9)
theorem Vr.supp(W0:vW)(b1 wb pc:Nat)(root:vB)(v:vV)(p0:vB):Ly (Vr W0 b1 wb pc root v p0):=by
 refine⟨fun D W h b hb=>?_,fun D W A h q hb=>⟨h.is,bF h.size q,fun b e=>(hb b ((h.is b).2 (.inl e))).trans (h.old b e),(hb _ ((h.is _).2 (.inr (.inr (.inl rfl))))).trans h.way,(hb _ ((h.is _).2 (.inr (.inl rfl)))).trans h.cap,(hb _ ((h.is _).2 (.inr (.inr (.inr rfl))))).trans h.path⟩⟩
 rcases (h.is b).1 hb with h1|rfl|rfl|rfl
 ·exact bE h1 h.size
 ·exact h.cap.lt
 ·exact Ae.lt h.way
 ·exact h.path.lt
def atV(vs:List (Ai × vB))(k:Nat):Ai × vB:=vs.getD k (Db,⟨#[]⟩)
def PR(vs:List (Ai × vB))(k:Nat):Array vV:=#[(atV vs k).1.V,.string (atV vs k).2]
structure tN(W:World)(wb b1 pc L:Nat)(C:Nat->Bf->World->Prop)(D:Bf)(k:Nat)(Dk:Bf)(p:vB)(n:Ai)(wr:World):Prop where
 at':C k Dk wr
 sub:∀ b,Dk b->D b\/W.heap.size<=b
 kp:Ad (fun b=>D b\/b=wb\/b=pc) W wr
 path:Ae wr pc (.cells #[.string p] 9)
 var:Ae wr L (.cells n.cells.toArray 215)
 nL:¬ Dk L
 len:n.refs.length=16
end
section
open Go Go.RowKit
attribute [local go_sem] Oper.semAt_some
theorem yS{F:Fence}{n:Nat}{w:vW}{ops:Array Oper}{rest:List Oper}{o:Oper}{a:Act}(t:TypeId)(x:Operand)(ho:o.op=.load t x)(hw:Region.wanted o (yielded ops a.tmps)=true)(v:vV)(p:Addr)(hx:a.eval x=.pointer (some p))
  (hr:(Instr.loadAt t (.pointer (some p))).run P w=.ok v w) (h:wpListIn F n P ops Q rest (a.put o.dst v) w):wpListIn F n P ops Q (o::rest) a w:=by
 refine wpListIn_step fun K e=>?_;rw[if_pos hw];unfold Oper.wpIn
 refine⟨?_,?_⟩
 ·simp[Oper.about,ho]
 ·rw[Oper.semAt_plain F _ _ (by rw[ho];intro c q;cases q)];simp only[execOp,ho,hx,bQ,hr,Result.andThen,cU];exact e _ _ h
theorem Nk.root'{W:vW}{wb:Nat}(h:Nk W wb root v u ev):W.cell? ⟨wb,0,none⟩=some (.string root):=Ae.cell (i:=0) h vF
end
section
open Go Go.RowKit
section mixh
variable {P:Program} {l:List Oper} {E D:vW->vW->Prop}
def Ju(P:Program)(l:List Oper)(hd:List Nat)(E D:vW->vW->Prop)(Q:Act->vW->Prop):Nat->List Nat->Act->vW->Prop
 |0,done,a,w=>∀ w1,E w w1->Region.ready .any l.toArray (Dy l done)=[]/\Q a w1
 |n+1,done,a,w =>
  (∃ k,k∈Region.ready .any l.toArray (Dy l done)/\Region.free .any l.toArray (Dy l done) k=true/\∃ o v,l[k]?=some o/\Rr P l.toArray E D w o v a/\Ju P l hd E D Q n (k::done) (a.put o.dst v) w) \/
  (Region.ready .any l.toArray (Dy l done)≠[]/\∀ i∈Region.ready .any l.toArray (Dy l done),i∈hd/\∀ w1,E w w1->wpOp P l.toArray Ml i (fun a' w'=>D w1 w'/\Ju P l hd E D Q n (i::done) a' w') a w1)
theorem RD(hE:∀ w,E w w)(hT:∀ x y z,E x y->E y z->E x z)(hD:∀ x y z,D x y->D y z->D x z)(hED:∀ x y,E x y->D x y)(hs:Region.noSelect l.toArray=true){hd:List Nat}{Q:Act->vW->Prop}:∀ (n:Nat) (done:List Nat) (a:Act) (w:vW),
  Ju P l hd E D Q n done a w->Sp P l.toArray hd E D Q n (Dy l done) a w
 |0,_,_,_,h=>h
 |n+1,done,a,w,h=>by
  rcases h with⟨k,hr,hf,o,v,ho,hy,h⟩|⟨hr,h⟩
  ·have e:l.toArray[k]?=some o:=by simpa using ho
   exact aJ hE hT hD hED e (gK hs) n (Dy l done) a w (iF e hf) hr hy (RD hE hT hD hED hs n _ _ _ h)
  ·intro w1 A
   refine⟨fun H=>absurd H hr,fun i J=>?_⟩
   obtain⟨K,h⟩:=h i J
   exact wpOp_mono (fun X w' q=>⟨q.1,fun O=>absurd K O,RD hE hT hD hED hs n _ _ _ q.2⟩) (h w1 A)
theorem zN(hd:List Nat)(E D:vW->vW->Prop)(hE:∀ w,E w w)(hT:∀ x y z,E x y->E y z->E x z)(hD:∀ x y z,D x y->D y z->D x z)(hED:∀ x y,E x y->D x y){id:Nat}{Q:Exit->Act->vW->Prop}{a:Act}{w:vW}
  (hm:P.follows .mixedOrders=true) (hs:Region.noSelect l.toArray=true) (n:Nat) (hl:n=l.toArray.size)
  (h:Ju P l hd E D (fun a w=>Q .normal a w) n [] a w.drew):(Code.region id l.toArray true).wp P Q a w:=by
 refine wp_region_any hm ?_;rw[<-hl]
 have:=RD hE hT hD hED hs n _ _ _ h
 unfold Dy at this;rw[<-hl]at this;exact RR hE (fun _ _ h=>h) _ _ _ _ this
variable {Q:Act->vW->Prop} {done hd:List Nat} {a:Act} {w:vW} {k n:Nat} {o:Oper}
theorem AN(o:Oper)(ho:l[k]?=some o)(hk:headD l done k=true)(hw:Region.wanted o (yielded l.toArray a.tmps)=true)(hq:EA o.op=true)
  (h:∀ K:Act->Prop,(∀ a',Ju P l hd E D Q n (k::done) a' w->K a')->o.quiet P a (fun _=>True) K):Ju P l hd E D Q (n+1) done a w:=by
 simp only[headD,cI,cJ]at hk
 obtain⟨v,A,H⟩:=h _ (fun _ h=>h)
 have q:Rr P l.toArray E D w o v a:=by refine .inl ⟨hw,fun w1 _=>?_⟩;have e:=A w1 trivial;unfold Oper.quietAt at e;have J:=fun f args w'=>KF (ρ:=a.eval) hq P w1 w' f args;generalize (execOp a.eval o).run P w1=r at *;cases r with| ok n w'=>(cases n<;>simp only[Oper.quietUpon]at e<;>first|exact e|exact absurd rfl (J _ _ _))| halt x w'=>simp only[Oper.quietUpon]at e
 exact .inl ⟨_,hk.1,hk.2,o,v,ho,q,H⟩
theorem mX(o:Oper)(v:vV)(ho:l[k]?=some o)(hk:headD l done k=true)(hw:Region.wanted o (yielded l.toArray a.tmps)=true)
  (hv:∀ w1,D w w1->(execOp a.eval o).run P w1=.ok (.value v) w1) (h:Ju P l hd E D Q n (k::done) (a.put o.dst v) w):Ju P l hd E D Q (n+1) done a w:=by
 simp only[headD,cI,cJ]at hk;exact .inl ⟨_,hk.1,hk.2,o,v,ho,.inl ⟨hw,fun w1 e=>by rw[hv w1 e];exact⟨rfl,rfl⟩⟩,h⟩
theorem TQ(p:Addr)(v:vV){t:TypeId}{x:Operand}{d:Option Tmp}{ty:TypeId}{pos:String}{af:Array Edge}{g:Option (Nat × Bool)}(ho:l[k]?=some ⟨d,.load t x,ty,pos,af,g⟩)(hk:headD l done k=true)
  (hw:Region.wanted ⟨d,.load t x,ty,pos,af,g⟩ (yielded l.toArray a.tmps)=true) (hx:a.eval x=.pointer (some p))
  (hv:∀ w1,D w w1->(Instr.loadAt t (.pointer (some p))).run P w1=.ok v w1) (h:Ju P l hd E D Q n (k::done) (a.put d v) w):Ju P l hd E D Q (n+1) done a w:=by
 refine mX _ v ho hk hw (fun w1 e=>?_) h
 have:=hv w1 e
 simp only[execOp,hx,bQ,this,Result.andThen,cU]
theorem MX(o:Oper)(ho:l[k]?=some o)(hk:KT l hd done k=true)(hw:Region.wanted o (yielded l.toArray a.tmps)=true)
  (h:∀ w1,E w w1->∀ K:Act->vW->Prop,(∀ a' w',D w1 w'->Ju P l hd E D Q n (k::done) a' w'->K a' w')->o.wp P a w1 K Ml):Ju P l hd E D Q (n+1) done a w:=by
 simp only[KT,cI,beq_iff_eq,cJ]at hk;refine .inr ⟨by rw[hk.1];simp,fun i q=>?_⟩;rw[hk.1]at q;obtain rfl:i=k:=by simpa using q
 refine⟨hk.2,fun w1 A=>?_⟩
 unfold wpOp;have e:l.toArray[i]?=some o:=by simpa using ho
 simp only[e,hw,if_true];exact .inl (h w1 A _ (fun _ _ H J=>⟨H,J⟩))
def LM(l:List Oper)(hd done:List Nat)(j k:Nat):Bool:=Region.ready .any l.toArray (Dy l done) == [j,k]&&hd.contains j&&hd.contains k
theorem jvV(j k:Nat)(o1 o2:Oper)(hk:LM l hd done j k=true)(h01:l[j]?=some o1)(h02:l[k]?=some o2)
  (hw1:Region.wanted o1 (yielded l.toArray a.tmps)=true) (hw2:Region.wanted o2 (yielded l.toArray a.tmps)=true)
  (q:∀ w1,E w w1->∀ K:Act->vW->Prop,(∀ a' w',D w1 w'->Ju P l hd E D Q n (j::done) a' w'->K a' w')->o1.wp P a w1 K Ml)
  (A:∀ w1,E w w1->∀ K:Act->vW->Prop,(∀ a' w',D w1 w'->Ju P l hd E D Q n (k::done) a' w'->K a' w')->o2.wp P a w1 K Ml):Ju P l hd E D Q (n+1) done a w:=by
 simp only[LM,cI,beq_iff_eq,cJ]at hk;refine .inr ⟨by rw[hk.1.1];simp,fun i H=>?_⟩;rw[hk.1.1]at H;have H:i=j\/i=k:=by simpa using H
 rcases H with rfl|rfl
 ·refine⟨hk.1.2,fun w1 J=>?_⟩;(unfold wpOp;have e:l.toArray[i]?=some o1:=by simpa using h01);simp only[e,hw1,if_true];exact .inl (q w1 J _ (fun _ _ q A=>⟨q,A⟩))
 ·refine⟨hk.2,fun w1 J=>?_⟩;(unfold wpOp;have e:l.toArray[i]?=some o2:=by simpa using h02);simp only[e,hw2,if_true];exact .inl (A w1 J _ (fun _ _ q A=>⟨q,A⟩))
theorem mW(hk:(Region.ready .any l.toArray (Dy l done)).isEmpty=true)(h:∀ w1,E w w1->Q a w1):Ju P l hd E D Q 0 done a w:=
 fun w1 e=>⟨by simpa using hk,h w1 e⟩
end mixh
end
section
open Go Go.RowKit
attribute [local go_sem] Oper.semAt_some
def Xv(wb z:Nat)(x y:vW):Prop:=Ad (fun b=>b=wb\/z<=b) x y/\∀ rt,x.cell? ⟨wb,0,none⟩=some (.string rt)->y.cell? ⟨wb,0,none⟩=some (.string rt)
theorem Xv.trans(a b c:vW)(h:Xv wb z a b)(k:Xv wb z b c):Xv wb z a c:=⟨h.1.trans k.1,fun q e=>k.2 q (h.2 q e)⟩
theorem Xv.ext(x y:vW)(h:Af x y):Xv wb z x y:=⟨Lb h,fun q e=>Am e h⟩
def rP(y b1 pc wb:Nat)(root:vB)(L:Nat)(m:Ai)(okb:Bool):Act:=
 { tmps:=#[.func (.yield y) #[] #[],.pointer (some ⟨b1,0,none⟩),.pointer (some ⟨pc,0,none⟩),undef,.pointer (some ⟨L,0,none⟩),.bool okb,undef,undef,.tuple #[m.V,.bool okb],.pointer (some ⟨wb,0,none⟩),.pointer (some ⟨wb,0,none⟩),.pointer (some ⟨wb,0,none⟩),.pointer (some ⟨wb,0,none⟩),.string root,.tuple #[m.V,.bool okb],m.V,.bool okb,
  undef,undef,undef,undef,undef,undef,undef,undef,undef,undef,undef,undef,undef,undef,undef,undef,undef,undef,undef,undef,undef,undef],defers:=[] }
end
section
open Go Go.RowKit
theorem jya:vQ 39 #[.nilIface,BO] w fun e w'=>e=.returned (.bool false)/\w=w':=by
 have q:∀ w,(binOp .eql 94 .nilIface .nilIface).run prog w=.ok (.bool true) w:=fun w=>by kernel_rfl
 have A:∀ w,(binOp .eql 94 .nilIface BO).run prog w=.ok (.bool false) w:=fun w=>by kernel_rfl
 unfold BO at *;unfold vQ;go_in;go_wp2_with fail
 go_ret
 exact⟨rfl,rfl⟩
end
section
open Go Go.RowKit
attribute [local go_sem] Oper.semAt_some
theorem jsJ{vs:List (Ai × vB)}{k:Nat}(h:k<vs.length):GN (vs.take (k+1))=Pp (atV vs k).1 (atV vs k).2:=by
 unfold GN atV;rw[cA,bB h,Option.toList_some,List.getLast?_concat,bJ,bB h];rfl
def QM(wb:Nat)(p:vB)(W:vW)(e:Ending)(w':vW):Prop:=e=.returned (.func (.func 192) #[] #[.pointer (some ⟨W.heap.size,0,none⟩),.pointer (some ⟨W.heap.size+1,0,none⟩)])/\w'=(W.alloc (.cells #[.pointer (some ⟨wb,0,none⟩)] 340)).alloc (.cells #[.string p] 9)
theorem xI:vQ 153 #[.pointer (some ⟨wb,0,none⟩),.string p] W (QM wb p W):=by
 unfold vQ;go_in;go_wp2;go_ret
 exact⟨rfl,rfl⟩
theorem Pb:∀ w,(Instr.alloc 287 true (.tuple #[])).run prog w=.ok (.pointer (some ⟨w.heap.size,0,none⟩)) (w.alloc (.cells [.string ⟨#[]⟩,.slice none 0 0,.int .i64 0,.nilIface].toArray 287)):=fun w=>by kernel_rfl
theorem Ty:(prog.info? 287).map (·.size)=some 4:=vY
theorem rT{W:vW}{l:vM}(h:Ic W v l):∃ a c,v=.slice a l.length c:=by
 rcases h with⟨a,c,h1,h2⟩|⟨b,o,c,h1,_⟩
 ·exact⟨a,c,by rw[h1,h2];rfl⟩
 ·exact⟨_,c,h1⟩
theorem Nk.errc{W:vW}{wb:Nat}(h:Nk W wb root v u ev):W.cell? ⟨wb,3,none⟩=some ev:=Ae.cell (i:=3) h vF
structure LN(cb:Nat)(vs:List (Ai × vB))(k:Nat)(D:Bf)(W:World):Prop where
 is:∀ b,D b↔b=cb
 blk:Ae W cb (.cells (Jg (GN (vs.take k))).toArray 122)
theorem LN.supp(vs:List (Ai × vB))(k:Nat):Ly (LN cb vs k):=⟨fun D W h b hb=>by rw[(h.is b).1 hb];exact h.blk.lt,fun D W e h q hb=>⟨h.is,(hb cb ((h.is cb).2 rfl)).trans h.blk⟩⟩
end
section
open Go Go.RowKit
theorem jt8(p:Fd)(nv:vV)(hn:Ic w nv p.nodes)(hp:Vi p)(hk:p.kind=0)(u:vB)(hVe:∀ W,Af w W->vR 58 #[.string p.root,.string p.key,nv] W (.tuple #[Lk (some u),.int .i64 0])):vQ 17 #[.agg (p.cells nv).toArray] w fun e w'=>∃ a c,e=.returned (.tuple #[.slice a 1 c,.int .i64 0])/\Af w w':=by
 have HP:=Hd hp;have Z:=Ae.new w (.cells (p.cells nv).toArray 54);have A:=(Aa w).alloc (.cells (p.cells nv).toArray 54);have HB:=Hd (bA Z A);have HV:=Hd (oU _ p nv (hn.ext A) hp);have a3:p.key.size<=6:=hp.key;have H:=Hd hVe
 obtain⟨a0,a1,J,to,K⟩:=p
 have hk:a0=0:=hk;subst hk
 obtain⟨a,c,a4,_⟩:=hn.slice
 subst a4
 obtain⟨m,hm⟩:=vE K.length
 unfold Fd.cells at HB HV ⊢;simp only at HB HV H a3 ⊢;rw[<-hm]at HB HV H ⊢;clear hn hp hVe Z A hm;unfold vQ;go_in;go_wp2_with fail
 refine HV.o.mono ?_;rintro e w1 ⟨rfl,O⟩;have q:=HB.o.1.keeps O (fun h=>h);have q0:w1.cell? ⟨w.heap.size,0,none⟩=some (.int .i64 0):=q.cell (i:=0) rfl;have q1:w1.cell? ⟨w.heap.size,1,none⟩=some (.string a1):=q.cell (i:=1) rfl;have q2:w1.cell? ⟨w.heap.size,2,none⟩=some (.string J):=q.cell (i:=2) rfl;have q4:w1.cell? ⟨w.heap.size,4,none⟩=some (.slice a m c):=q.cell (i:=4) rfl;have H1:=Hd (bA (HB.o.2.trans O) q);clear O q;go_wp2_with fail
 refine vC (H.o w1 H1.o.1) fun w2 X=>?_;have a2:=H1.o.2.keeps X (fun h=>h);have a7:(w2.alloc (.cells #[.bool true,.string u] 122)).cell? ⟨w.heap.size,2,none⟩=some (.string J):=(a2.alloc _).cell (i:=2) rfl;have a5:=((Aa w2).alloc (.cells #[.bool true,.string u] 122)).alloc (.cells #[.string J,.string u] 49);have H2:=Hd (H1.o.1.trans X);clear X a2 q0 q1 q2 q4;rw[show Lk (some u)=.agg #[.bool true,.string u]from rfl];go_wp2_with fail
 go_ret2
 exact⟨_,_,rfl,H2.o.trans a5⟩
end
section
open Go Go.RowKit
attribute [local go_sem] Oper.semAt_some
def yJ(C:Nat->vW->Prop)(v:vV)(wr:vW):Prop:=∃ i:Nat,i<=16/\v=.int .i64 i/\C 0 wr
theorem jrl(nb pb wb:Nat)(n:Ai)(hn:n.refs=List.replicate 16 ⟨#[]⟩):LB prog 227 #[.pointer (some ⟨nb,0,none⟩),.pointer (some ⟨pb,0,none⟩),.pointer (some ⟨wb,0,none⟩)] 0 (fun _=>#[.string ⟨#[]⟩,.string ⟨#[]⟩]) (fun W=>Ae W nb (.cells n.cells.toArray 215)):=by
 intro l C Cx hC O Z W hY X;have hB:=Z 0 W X;have hr:n.refs.length=16:=by rw[hn,iE]
 have e:W.rangeAt nb 3 (n.refs.map Value.string):=fun j v hv=>hB.cellL (by unfold Ai.cells;rw[show 3+j=j+3 by omega];simpa using hv)
 have q:=run_loadVar_mid (P:=prog) W nb 3 213 _ _ e Fh rfl (by simp only[bU,hr];exact Kh);have A:(Instr.loadAt 213 (.pointer (some ⟨nb,3,none⟩))).run prog W=.ok (.agg (n.refs.map Value.string).toArray) W:=by simp[Instr.loadAt,Instr.sureAddr,bQ,Result.andThen,q]
 have H0:=Hd X;have HR:=Hd hn;clear hB hY X e q hr hn hC O Z;refine callsIn_of_wp func227 rfl trivial ?_ rfl;simp only[ntmps227,cQ,bS,cY,Nat.reduceAdd,Nat.reduceSub,cT,cS,dC,cW,cL,cR];gi_wp2_with (refine AJ rfl 213 (.tmp 8) rfl _ _ rfl A ?_)
 clear A;gi_loopw [10] (fun v wr=>yJ C v wr) (fun v _=>16-(intOf v).toNat)
 case atStart=>exact⟨0,by omega,rfl,H0.o⟩
 case round =>obtain⟨i,hi,rfl,H⟩:=hrel;have J:=Hd H;clear H;by_cases hlt:i<16;{have a0:(Instr.index 213 (.agg (n.refs.map Value.string).toArray) (.int .i64 (i:Int))).run prog wr=.ok (.string ⟨#[]⟩) wr:=LV Fh Jf Je _ i hlt _ (by rw[bY,HR.o,List.getElem?_replicate,if_pos hlt];rfl) wr;gi_wp2;refine⟨⟨i+1,by omega,by go_num,J.o⟩,?_⟩;show 16-(intOf (.int .i64 ((i:Int)+1))).toNat<16-(intOf (.int .i64 (i:Int))).toNat;simp[intOf];omega};have K:i=16:=vO;subst K;gi_wp2;refine bodyPost_end (results_none rfl _ _ _) rfl ?_;exact⟨⟨_,rfl⟩,.inl J.o⟩
end
section
open Go Go.RowKit
theorem uA(to p:vB)(hf:fr.size<=1000)(ht:to.size<=1000)(h1:Op.bytesLess p.toList (Ci fr).toList=false)(h2:Op.bytesLess p.toList (Ci to).toList=true):vR 188 #[.agg #[.string fr,.string to],.string p] w (.bool true):=by
 have e:=(Aa w).alloc (.cells #[.string fr,.string to] 120);have q:=Ae.new w (.cells #[.string fr,.string to] 120);have J:=Hd (bA e q);clear e q;unfold vR vQ;go_in;go_wp2_with fail
 refine vC (Zu _ fr vO) fun w1 A=>?_;have O:=(J.o.2.keeps A (fun h=>h)).cell (i:=1) (v:=.string to) rfl;have K:=Hd A;clear A;go_wp2_with fail
 refine vH (Zu _ to vO) fun X A=>?_;have H:=Hd (J.o.1.trans (K.o.trans A));go_wp2_with fail
 go_ret
 exact⟨rfl,H.o⟩
end
section
open Go Go.RowKit
attribute [local go_sem] Oper.semAt_some
def Wy(fr to:vB)(s mb:Nat)(nv:vV)(lk:Int)(fv:vV):List vV:=[.string fr,.string to,.func (.func 97) #[.pointer (some ⟨s,0,none⟩)] #[],.map (some mb),nv,.int .i64 lk,fv]
theorem Ic.keeps'{w:vW}(h:Ic w v xs)(k:Ad F w w')(hF:∀ b,v.ownBlock=some b->¬ F b):Ic w' v xs:=by
 rcases h with h|⟨b,o,c,rfl,h2,h3,h4⟩
 ·exact .inl h
 ·have hb:=hF b rfl;exact .inr ⟨b,o,c,rfl,bE h2 k.size,h3,fun j x e=>Dw (h4 j x e) k hb⟩
theorem jy5(hne:wb≠mb)(fr to root t:vB)(d:Nat)(n:Ai)(hg:Gi (Bs d) n)(ht:t=Cr n)(hB:Ae w wb (.cells (Wy fr to s mb (.slice none 0 0) 0 (.slice none 0 0)).toArray 204))(hm:Ae w mb (.map (Al.arr []) 0))
  (hsg:∀ W,Af w W->vR 97 #[.pointer (some ⟨s,0,none⟩),.string root] W (.tuple #[.string t,.bool true])) :
  vQ 151 #[.pointer (some ⟨wb,0,none⟩),.string root] w fun e w'=>e=.returned (.tuple #[n.V,.nilIface])/\Ad (fun z=>z=wb\/z=mb) w w'/\∃ g c,Ae w' wb (.cells (Wy fr to s mb (.slice (some ⟨g,0,none⟩) 1 c) 0 (.slice none 0 0)).toArray 204)/\Ic w' (.slice (some ⟨g,0,none⟩) 1 c) [t]/\w.heap.size<=g:=by
 have H:=(hg.one (Br d)).refs;have HL:=Hd (n.cells_len H);have HG:=Hd (fun W=>Zt (Br d) W n hg);have HB:=Hd (bA hB hm);have HS:=Hd hsg;have HT:=Hd ht;have c3:=hB.lt;have c4:=hm.lt;clear hg ht hB hm hsg;unfold vQ;go_in;go_wp2_with (refine Di Ac rfl rfl ?_;intro w1 b0 J;have q2:w1.cell? ⟨wb,2,none⟩=some (.func (.func 97) #[.pointer (some ⟨s,0,none⟩)] #[]):=(HB.o.1.keeps J (fun h=>h)).cellL rfl)
 have H1:=Hd (bA J (bA b0 (bA (HB.o.1.keeps J (fun h=>h)) (HB.o.2.keeps J (fun h=>h)))));clear J b0 q2;refine vH (HS.o w1 H1.o.1) fun w2 b9=>?_;go_wp2_with fail
 rw[HT.o];refine vH (HG.o w2) fun w3 c0=>?_;rw[<-HT.o];have q:=b9.o.trans c0;have H3:=Hd (bA (H1.o.1.trans q) (bA (H1.o.2.1.keeps q (fun h=>h)) (bA (H1.o.2.2.1.keeps q (fun h=>h)) (H1.o.2.2.2.keeps q (fun h=>h)))));clear q;unfold Ai.V;have c5:=H3.o.2.1.lt;have b1:=H;go_wp2_with (first
  |(refine Gv 215 (.tmp 8) rfl rfl _ _ rfl (Jq _ _ n b1 c1) ?_)
  |(refine Bv (vs:=n.cells) rfl rfl rfl rfl c2 (by rw[HL.o];rfl) (by rw[HL.o];exact Ab) n.one ?_;intro b2 a8 K)
  |(at_builtin;go_loud (refine Rc Cg (Av.nil 9 1 ((Aa X).alloc (.cells #[.string t] 9))) (.tmp 49) (.tmp 51) rfl rfl rfl (Jx (Ae.new X _)) (news:=[.string t]) (by intro u hu;simp at hu;rw[hu];rfl) rfl rfl (by unfold maxLen;omega) vO (fun v7 w7 Z r2 r3=>?_))
    obtain⟨a7,c7,rfl⟩:=Z.sl
    have a0:=H6.o.2.2.1.keeps Z.ext (fun h=>h);have q7:w7.cell? ⟨wb,4,none⟩=some (.slice none 0 0):=a0.cellL rfl;have f7:w7.frozen? ⟨wb,4,none⟩=false:=a0.frozen;have H7:=Hd (bA Z a0);clear Z r2 r3 a0 b3 q3 q4)
  |(refine LW rfl wb 4 (.slice a7 1 c7) rfl rfl rfl rfl vY q7 f7 ?_;intro W8 a2
    have k8:Ad (fun z=>z=wb) w7 W8:=by rw[a2];exact Ad.oneSet w7 ⟨wb,4,none⟩ (.slice a7 1 c7)
    have O:Ae W8 wb (.cells (Wy fr to s mb (.slice a7 1 c7) 0 (.slice none 0 0)).toArray 204):=by
     have:=H7.o.2.set_same (i:=4) (.slice a7 1 c7)
     rw[a2];exact this
    have a3:=((H6.o.2.2.2.1.keeps H7.o.1.ext (fun h=>h)).keeps k8 (fun e=>hne e.symm));have q3:W8.cell? ⟨wb,3,none⟩=some (.map (some mb)):=O.cellL rfl;have b3:(Instr.lookup 133 (.map (some mb)) (.string root) false).run prog W8=.ok (.int .i64 0) W8:=Xd Al Bi a3 (Df W8) root.data.toList false
    obtain⟨W9,a4⟩:=vE (W8.putObj mb (.map (Al.arr [(root.data.toList,.int .i64 1,0)]) 1))
    have c8:(Instr.mapUpdate 133 (.map (some mb)) (.string root) (.int .i64 1)).run prog W8=.ok () W9:=by
     have:=Ze Al Bi a3 root.data.toList (.int .i64 1)
     rw[a4];exact this
    have K9:Ad (fun z=>z=mb) W8 W9:=by rw[a4];exact Ad.onePut _ _ _
    have c1:=(((H6.o.2.2.2.2.1.keeps H7.o.1.ext (fun h=>h)).keeps k8 (show ¬ w3.heap.size=wb by have:=H3.o.2.2.1.lt;omega)).keeps K9 (show ¬ w3.heap.size=mb by have:=H3.o.2.2.2.lt;omega));have c2:=(((H6.o.2.1.keeps H7.o.1.ext (fun h=>h)).keeps k8 (show ¬ w.heap.size=wb by omega)).keeps K9 (show ¬ w.heap.size=mb by omega));have H9:=Hd (bA k8 (bA O K9));clear a2 a4 k8 O a3 K9 q7 f7)
  |(refine Di Ac rfl rfl ?_;intro W5 b4 b5;refine Bv (vs:=n.cells) rfl rfl rfl rfl b4 (by rw[HL.o];rfl) (by rw[HL.o];exact Ab) n.one ?_;intro X b6 b7
    have A:Af w3 X:=b5.trans' b7 (fun x hx e=>by have e:x=w3.heap.size:=e;omega);have a1:=H3.o.2.2.1.keeps A (fun h=>h);have a5:=H3.o.2.2.2.keeps A (fun h=>h);have b8:=H3.o.2.1.keeps A (fun h=>h);have q3:X.cell? ⟨wb,3,none⟩=some (.map (some mb)):=a1.cellL rfl;have q4:X.cell? ⟨wb,4,none⟩=some (.slice none 0 0):=a1.cellL rfl;have b3:(Instr.lookup 133 (.map (some mb)) (.string root) false).run prog X=.ok (.int .i64 0) X:=Xd Al Bi a5 (Df X) root.data.toList false;have H6:=Hd (bA (H3.o.1.trans A) (bA b8 (bA a1 (bA a5 (bA b6 A.size)))));clear b4 b5 b6 b7 A a1 a5 b8))
 refine bodyPost_ret (Od rfl rfl rfl (Pm b2 _ n b1 a8)) rfl ?_
 obtain⟨k8,O,K9⟩:=H9.o
 obtain⟨Z,_⟩:=H7.o
 obtain⟨g7,rfl⟩:=GJ Z.own vI
 have c9:X.heap.size<=g7:=Z.new g7 rfl;have d0:=H6.o.2.2.2.2.2;have d1:=H3.o.1.size;have e1:Af w w7:=H6.o.1.trans Z.ext;have e2:Ad (fun z=>z=wb\/z=mb) w b2:=((((e1.mono (G:=fun z=>z=wb\/z=mb) fun _ _ e=>e.elim).trans (k8.mono fun z _ e=>.inl e)).trans (K9.mono fun z _ e=>.inr e)).trans' K fun z hz e=>by have e:z=w.heap.size:=e;omega);have a9:=((Cd.rd Z:Ic w7 _ [t]).keeps' k8 (fun b hb e=>by have hb:some g7=some b:=hb;have e:b=wb:=e;cases hb;omega))
 refine⟨rfl,e2,g7,c7,(O.keeps K9 hne).keeps K vO,?_,by omega⟩
 exact (a9.keeps' K9 (fun b hb e=>by have hb:some g7=some b:=hb;have e:b=mb:=e;cases hb;omega)).keeps' K (fun b hb e=>by have hb:some g7=some b:=hb;have e:b=w.heap.size:=e;cases hb;omega)
theorem Lz:(callFunc 227 args).run prog w=.ok (.enter 227 args) w:=vY
theorem jwr(n:Ai):vQ 190 #[.pointer (some ⟨wb,0,none⟩),n.V,.string ⟨#[]⟩] w fun e w'=>e=.returned (.func (.func 227) #[] #[.pointer (some ⟨w.heap.size+1,0,none⟩),.pointer (some ⟨w.heap.size+1+1,0,none⟩),.pointer (some ⟨w.heap.size,0,none⟩)])/\Af w w'/\Ae w' (w.heap.size+1) (.cells n.cells.toArray 215):=by
 have H:∀ (fn:Fn) (first cap:Array vV) (w:vW),(Instr.makeFunc fn first cap).run prog w=.ok (.func fn first cap) w:=fun _ _ _ _=>rfl;have A:=(((Aa w).alloc (.cells #[.pointer (some ⟨wb,0,none⟩)] 197)).alloc (.cells n.cells.toArray 215)).alloc (.cells #[.string ⟨#[]⟩] 9);have q:=(Ae.new (w.alloc (.cells #[.pointer (some ⟨wb,0,none⟩)] 197)) (.cells n.cells.toArray 215)).alloc (.cells #[.string ⟨#[]⟩] 9);rw[bG]at q;have J:=Hd (bA A q);clear A q;unfold Ai.V;unfold vQ;go_in;go_wp2_with fail
 go_ret
 exact⟨rfl,J.o⟩
theorem jqL(nv:vV)(hnv:nv.oneCell'=true)(fr to key:vB)(n:Ai)(hn:n.refs=List.replicate 16 ⟨#[]⟩)(hv:n.value.toList.isEmpty=false)(hsz:n.path.size<=1000)
  (hf:fr.size<=1000) (ht:to.size<=1000) (A:Op.bytesLess n.path.toList (Ci fr).toList=false) (h2:Op.bytesLess n.path.toList (Ci to).toList=true) (hk:Kw n.path=.tuple #[.string key,.bool true])
  (hB:Ae w wb (.cells (Wy fr to s mb nv 0 (.slice none 0 0)).toArray 204)) :
  vQ 152 #[.pointer (some ⟨wb,0,none⟩),n.V,.string ⟨#[]⟩] w fun e w'=>e=.returned .nilIface/\Ad (fun z=>z=wb) w w'/\∃ fv,Ae w' wb (.cells (Wy fr to s mb nv 1 fv).toArray 204):=by
 have H:n.refs.length=16:=by rw[hn,iE]
 have HL:=Hd (n.cells_len H);have HB:=Hd hB;have HH:=Hd (bA A (bA h2 (bA hk (bA hf (bA ht hn)))));have d6:=hB.lt;clear hB A h2 hk hf ht hn;refine (callsIn_wide (n:=0)).1 ?_;refine callsIn_of_wp_marks func152 rfl trivial ?_ rfl;refine wpIn_wide.2 ?_;simp only[ntmps152,cQ,bS,cY,Nat.reduceAdd,Nat.reduceSub,cT,cS,dC,cW,cL,cR];unfold Ai.V;have a5:=(((Aa w).alloc (.cells #[.pointer (some ⟨wb,0,none⟩)] 197)).alloc (.cells n.cells.toArray 215)).alloc (.cells #[.nilIface] 94);have b6:=((Ae.new w (.cells #[.pointer (some ⟨wb,0,none⟩)] 197)).alloc (.cells n.cells.toArray 215)).alloc (.cells #[.nilIface] 94);have a7:=(Ae.new (w.alloc (.cells #[.pointer (some ⟨wb,0,none⟩)] 197)) (.cells n.cells.toArray 215)).alloc (.cells #[.nilIface] 94);have a8:=Ae.new ((w.alloc (.cells #[.pointer (some ⟨wb,0,none⟩)] 197)).alloc (.cells n.cells.toArray 215)) (.cells #[.nilIface] 94);simp only[bG]at a7 a8;have Z:=HB.o.keeps a5 (fun h=>h);have q5:=Z.cellL (i:=5) (v:=.int .i64 0) rfl;have f5:World.frozen? (((w.alloc (.cells #[.pointer (some ⟨wb,0,none⟩)] 197)).alloc (.cells n.cells.toArray 215)).alloc (.cells #[.nilIface] 94)) ⟨wb,5,none⟩=false:=Z.frozen;have H0:=Hd (bA a5 (bA b6 (bA a7 (bA a8 Z))));clear a5 b6 a7 a8 Z;go_wp2_with (refine LW rfl wb 5 (.int .i64 1) rfl rfl rfl rfl vY q5 f5 ?_;intro W1 a9;have k1:=Ad.oneSet (((w.alloc (.cells #[.pointer (some ⟨wb,0,none⟩)] 197)).alloc (.cells n.cells.toArray 215)).alloc (.cells #[.nilIface] 94)) ⟨wb,5,none⟩ (.int .i64 1);rw[<-a9]at k1;have a0:Ae W1 wb (.cells (Wy fr to s mb nv 1 (.slice none 0 0)).toArray 204):=(by have:=H0.o.2.2.2.2.set_same (i:=5) (.int .i64 1);rw[a9];exact this);have b0:=H0.o.2.1.keeps k1 (show ¬ w.heap.size=wb by omega);have a1:=H0.o.2.2.1.keeps k1 (show ¬ w.heap.size+1=wb by omega);have b7:=H0.o.2.2.2.1.keeps k1 (show ¬ w.heap.size+1+1=wb by omega);have qp:W1.cell? ⟨w.heap.size,0,none⟩=some (.pointer (some ⟨wb,0,none⟩)):=b0.cell (i:=0) rfl;have c9:W1.cell? ⟨w.heap.size+1,1,none⟩=some (.string n.path):=a1.cellL rfl;have d0:W1.cell? ⟨w.heap.size+1,2,none⟩=some (.string n.value):=a1.cellL rfl;have d1:W1.cell? ⟨wb,0,none⟩=some (.string fr):=a0.cellL rfl;have d2:W1.cell? ⟨wb,1,none⟩=some (.string to):=a0.cellL rfl;have H1:=Hd (bA ((H0.o.1.mono (G:=fun z=>z=wb) fun _ _ e=>e.elim).trans k1) (bA a0 (bA b0 (bA a1 b7))));clear a9 k1 a0 b0 a1 b7 q5 f5)
 have e0:(⟨#[]⟩:vB)++n.path=n.path:=by apply ByteArray.ext;simp
 rw[e0];refine vH (uA W1 fr to n.path HH.o.2.2.2.1 HH.o.2.2.2.2.1 HH.o.1 HH.o.2.1) fun W2 d3=>?_;go_wp2_with fail
 refine vH (EN W2 n.path vO) fun W3 d4=>?_;rw[HH.o.2.2.1];have q:=d3.o.trans d4;have J:=Hd (bA q (bA (H1.o.2.1.keeps q (fun h=>h)) (bA (H1.o.2.2.1.keeps q (fun h=>h)) (bA (H1.o.2.2.2.1.keeps q (fun h=>h)) (H1.o.2.2.2.2.keeps q (fun h=>h))))));have d7:=J.o.2.2.2.1.lt;have b1:=J.o.2.2.2.2.lt;clear q qp c9 d0 d1 d2;go_wp2_with fail
 refine BU [0,1,2,3,4,5,6,7,8,9,10,11,12] 13 [9,10] Af (Ad (fun z=>W3.heap.size<=z)) Aa Aq (fun x y z h k=>Ad.trans h k) (fun x y h=>h.mono (fun _ _ h=>h.elim)) vY vY vY ?_;refine Ww ⟨w.heap.size,0,none⟩ (.pointer (some ⟨wb,0,none⟩)) rfl (fun w1 A=>Dt (fun w=>by kernel_rfl) ((J.o.2.2.1.drew.keeps A vO).cell (i:=0) rfl)) ?_;refine vS ?_;refine Ww ⟨w.heap.size,0,none⟩ (.pointer (some ⟨wb,0,none⟩)) rfl (fun w1 A=>Dt (fun w=>by kernel_rfl) ((J.o.2.2.1.drew.keeps A vO).cell (i:=0) rfl)) ?_;refine vS ?_;refine Te _ (.pointer (some ⟨wb,0,none⟩)) rfl (fun w1=>by kernel_rfl) ?_;refine vS ?_
 refine vZ ?_
 refine Ww ⟨wb,6,none⟩ (.slice none 0 0) rfl (fun w1 A=>Dt (fun w=>by kernel_rfl) ((J.o.2.1.drew.keeps A vO).cellL rfl)) ?_;refine vS ?_;iterate 2 refine vZ ?_
 refine Ww ⟨w.heap.size+1,2,none⟩ (.string n.value) rfl (fun w1 A=>Dt (fun w=>by kernel_rfl) ((J.o.2.2.2.1.drew.keeps A vO).cellL rfl)) ?_;refine vS ?_
 refine vZ ?_
 refine Zf _ rfl vY rfl (fun wa ha K hK=>?_);have ka:Af W3 wa:=(Ap _).trans ha;have d8:=ka.size;refine Ra (v:=.slice (some ⟨wa.heap.size,0,none⟩) 1 1) (w':=wa.alloc (.cells #[.string key,.string n.value] 49)) vY (hK _ _ ((Ad.refl _ wa).alloc _) ?_);have O:=Jx (news:=[.string key,.string n.value]) (Ae.new wa (.cells #[.string key,.string n.value] 49));have b2:Af W3 (wa.alloc (.cells #[.string key,.string n.value] 49)):=ka.trans ((Aa wa).alloc _);generalize wa.alloc (.cells #[.string key,.string n.value] 49)=w4 at O b2 ⊢;clear hK K ha ka;refine vS ?_;refine Zf _ rfl vY rfl (fun wc hc K hK=>?_);have b3:=b2.trans hc;have d9:=b3.size;refine CN Ff (Av.nil 49 2 b3) (.tmp 55) (.tmp 60) (news:=[.string key,.string n.value]) rfl rfl (fun j u hj=>by have:=O j u hj;rw[Addr.add_lit]at this ⊢;exact Am this hc) (by intro u hu;simp at hu;rcases hu with rfl|rfl<;>rfl) rfl rfl (by unfold maxLen;omega) vO (fun v' w5 r1 r2 r3=>hK _ _ (r2.mono fun z _ e=>by cases e) ?_);have H5:=Hd (bA r1.ext r1.sl)
 obtain⟨a',c',rfl⟩:=r1.sl
 clear hK K hc r1 r2 r3 b3 b2 O;refine vS ?_;refine Te _ (.pointer (some ⟨wb,0,none⟩)) rfl (fun w1=>by kernel_rfl) ?_;refine vS ?_
 refine vZ ?_
 refine CE _ rfl vY rfl (fun wd hd K hK=>?_);have b4:=H5.o.1.trans hd;have a2:=J.o.2.1.keeps b4 (fun h=>h);have q6:wd.cell? ⟨wb,6,none⟩=some (.slice none 0 0):=a2.cellL rfl;have f6:wd.frozen? ⟨wb,6,none⟩=false:=a2.frozen;have H6:=Hd (bA b4 a2);clear hd b4 a2;go_simp;refine hK _ _ ?_;clear hK K q6 f6;have b8:Ae (wd.setCell ⟨wb,6,none⟩ (.slice a' 1 c')) wb (.cells (Wy fr to s mb nv 1 (.slice a' 1 c')).toArray 204):=by have:=H6.o.2.set_same (i:=6) (.slice a' 1 c');exact this
 have k7:=Ad.oneSet wd ⟨wb,6,none⟩ (.slice a' 1 c');generalize wd.setCell ⟨wb,6,none⟩ (.slice a' 1 c')=w7 at b8 k7 ⊢;have X:Ad (fun z=>z=wb) W3 w7:=(H6.o.1.mono fun _ _ e=>e.elim).trans k7;have b9:=J.o.2.2.1.keeps X (show ¬ w.heap.size=wb by omega);have b5:=J.o.2.2.2.1.keeps X (show ¬ w.heap.size+1=wb by omega);have c0:=J.o.2.2.2.2.keeps X (show ¬ w.heap.size+1+1=wb by omega);have H7:=Hd (bA (H1.o.1.trans ((J.o.1.mono fun _ _ e=>e.elim).trans X)) (bA b8 (bA b5 c0)));have qp:w7.cell? ⟨w.heap.size,0,none⟩=some (.pointer (some ⟨wb,0,none⟩)):=b9.cell (i:=0) rfl;clear k7 X b9 c0;go_wp2_with (refine Gv 215 (.tmp 4) rfl rfl _ _ rfl (Jq _ _ n H b5) ?_)
 refine (jwr w7 wb n).mono ?_;rintro e w8 ⟨rfl,a3,c1⟩;have c2:=H7.o.2.1.keeps a3 (fun h=>h);have c3:=H7.o.2.2.2.keeps a3 (fun h=>h);have H8:=Hd (bA (H7.o.1.trans (a3.mono fun _ _ e=>e.elim)) (bA c2 c3));have d5:=Hd (jrl (w7.heap.size+1) (w7.heap.size+1+1) w7.heap.size n HH.o.2.2.2.2.2)
 obtain⟨nb,c5⟩:=vE (w7.heap.size+1)
 have c7:=Hd (show Ae w8 nb (.cells n.cells.toArray 215) by rw[c5];exact c1);clear a3 c1 c2 c3 b5 qp;go_wp2_with fail
 refine (wpIn_wide (n:=0)).1 ?_;refine DK rfl Lz d5.o (fun k=>rfl) (fun _ W=>Af w8 W/\Ae W (w7.heap.size+1) (.cells n.cells.toArray 215)) (fun _ _ _=>False) (fun _ W W' h e=>⟨h.1.trans e,h.2.keeps e (fun h=>h)⟩) (fun _ _ _ _ h _=>h) (fun _ W h=>h.2) (fun _ W o h=>?_) (fun _ _ _ _ h=>h) ⟨Aa w8,by rw[<-c5];exact c7.o⟩ (fun _=>⟨#[],[]⟩) (fun _ k _ _ h=>absurd h (Nat.not_lt_zero k)) (fun _ k _ h=>absurd h (Nat.not_lt_zero k)) ?_ (fun _ _ _ _ _ h=>h.elim)
 ·have A:=c7.o.lt;exact⟨h.1.putObj (.inr vO) _,h.2.put_other vO _⟩
 ·intro W hC hd;(have a4:=H8.o.2.2.keeps hC.1 (fun h=>h);have q9:W.cell? ⟨w.heap.size+1+1,0,none⟩=some .nilIface:=a4.cell (i:=0) rfl;have f9:W.frozen? ⟨w.heap.size+1+1,0,none⟩=false:=a4.frozen;have H9:=Hd (bA hC.1 (bA a4 hd));clear hC a4 hd;go_wp2_with fail);have k3:=Ad.oneSet W ⟨w.heap.size+1+1,0,none⟩ .nilIface;have b1:=H9.o.2.1.set_same (i:=0) .nilIface;have e1:=H8.o.2.2.lt;have c8:=H9.o.2.2.keeps k3 (show ¬ w8.heap.size=w.heap.size+1+1 by omega);generalize W.setCell ⟨w.heap.size+1+1,0,none⟩ .nilIface=W3 at k3 b1 c8 ⊢;have k4:Ad (fun z=>z=w8.heap.size) W3 (W3.putObj w8.heap.size (.deferred none)):=Ad.onePut _ _ _;have c4:(W3.putObj w8.heap.size (.deferred none)).cell? ⟨w.heap.size+1+1,0,none⟩=some .nilIface:=(b1.put_other vO _).cell (i:=0) (by simp);refine⟨by simp,.inl ⟨_,_,rfl,run_takeDeferred c8,?_⟩⟩;refine⟨.nilIface,by simp[results,results152,go_sem,c4],?_⟩;have e2:=H8.o.1.size;refine⟨rfl,?_,_,((H8.o.2.1.keeps H9.o.1 (fun h=>h)).keeps k3 (show ¬ wb=w.heap.size+1+1 by omega)).keeps k4 (show ¬ wb=w8.heap.size by omega)⟩;exact ((H8.o.1.trans (H9.o.1.mono fun _ _ e=>e.elim)).trans' k3 fun z hz e=>by have e:z=w.heap.size+1+1:=e;omega).trans' k4 fun z hz e=>by have e:z=w8.heap.size:=e;omega
theorem juw(v:vV):vR 54 #[.nilIface,v] w (.bool false):=by
 unfold vR vQ;go_in;go_wp2_with fail
 go_ret
 exact⟨rfl,Aa w⟩
def QS(n:Ai)(t fr to key:vB):Prop:=(∃ d,Gi (Bs d) n)/\t=Cr n/\n.refs=List.replicate 16 ⟨#[]⟩/\n.value.toList.isEmpty=false/\n.path.size<=1000/\fr.size<=1000/\to.size<=1000/\Op.bytesLess n.path.toList (Ci fr).toList=false/\Op.bytesLess n.path.toList (Ci to).toList=true/\Kw n.path=.tuple #[.string key,.bool true]
theorem jyi(to root t key:vB)(n:Ai)(hW:QS n t fr to key)
  (hsg:∀ W,Af w W->vR 97 #[.pointer (some ⟨s,0,none⟩),.string root] W (.tuple #[.string t,.bool true])) :
  vQ 109 #[.string root,.agg #[.string fr,.string to],.func (.func 97) #[.pointer (some ⟨s,0,none⟩)] #[]] w fun e w'=>Af w w'/\∃ wb mb g c lk fv,e=.returned (.tuple #[.pointer (some ⟨wb,0,none⟩),.nilIface])/\Ae w' wb (.cells (Wy fr to s mb (.slice (some ⟨g,0,none⟩) 1 c) lk fv).toArray 204)/\Ic w' (.slice (some ⟨g,0,none⟩) 1 c) [t]:=by
 have HW:=Hd hW;have HS:=Hd hsg;have b1:=Ec
 obtain⟨⟨d,hg⟩,ht,hn,hv,J,hf,K,h1,h2,hk⟩:=hW
 have q:n.refs.length=16:=by rw[hn,iE]
 have HL:=Hd (n.cells_len q);clear hsg hg ht hn hv J hf K h1 h2 hk;unfold vQ;go_in;go_wp2_with fail
 have O:=(Ae.new (w.alloc (.cells #[.string fr,.string to] 120)) (.map #[] 0)).alloc (.cells (Wy fr to s (w.heap.size+1) (.slice none 0 0) 0 (.slice none 0 0)).toArray 204);have A:=Ae.new ((w.alloc (.cells #[.string fr,.string to] 120)).alloc (.map #[] 0)) (.cells (Wy fr to s (w.heap.size+1) (.slice none 0 0) 0 (.slice none 0 0)).toArray 204);have X:=(((Aa w).alloc (.cells #[.string fr,.string to] 120)).alloc (.map #[] 0)).alloc (.cells (Wy fr to s (w.heap.size+1) (.slice none 0 0) 0 (.slice none 0 0)).toArray 204);simp only[bG]at O A;change Calls _ _ _ (((w.alloc (.cells #[.string fr,.string to] 120)).alloc (.map #[] 0)).alloc (.cells (Wy fr to s (w.heap.size+1) (.slice none 0 0) 0 (.slice none 0 0)).toArray 204)) _;generalize ((w.alloc (.cells #[.string fr,.string to] 120)).alloc (.map #[] 0)).alloc (.cells (Wy fr to s (w.heap.size+1) (.slice none 0 0) 0 (.slice none 0 0)).toArray 204)=w1 at O A X ⊢
 obtain⟨⟨d,hg⟩,ht,hn,hv,J,hf,K,h1,h2,hk⟩:=HW.o
 refine (jy5 w1 (w.heap.size+1+1) (w.heap.size+1) s vO fr to root t d n hg ht A O (fun W e=>HS.o W (X.trans e))).mono ?_;rintro e w2 ⟨rfl,a0,g,c,a1,a2,a9⟩;have b2:=A.lt;have H2:=Hd (bA ((X.trans' a0 fun z hz e=>by rcases e with e|e<;>omega)) (bA a1 (bA a2 (show w.heap.size+1+1<g by omega))));have b0:=Hd (fun(W:vW) (hB:Ae W (w.heap.size+1+1) _)=>jqL W (w.heap.size+1+1) (w.heap.size+1) s (.slice (some ⟨g,0,none⟩) 1 c) rfl fr to key n hn hv J hf K h1 h2 hk hB);clear O A X hg ht hn hv J hf K h1 h2 hk a0 a1 a2 a9;unfold Ai.V;go_wp2_with (first|(refine Di Ac rfl rfl ?_;intro W5 a3 a4;refine Bv (vs:=n.cells) rfl rfl rfl rfl a3 (by rw[HL.o];rfl) (by rw[HL.o];exact Ab) n.one ?_;intro W6 a5 a7)|(refine Gv 215 (.tmp 9) rfl rfl _ _ rfl (Jq _ _ n q a5) ?_))
 have H:Af w2 W6:=a4.trans' a7 (fun x hx e=>by have e:x=w2.heap.size:=e;omega);have H6:=Hd (bA (H2.o.1.trans H) (bA (H2.o.2.2.1.ext H) H.size));refine (b0.o W6 (H2.o.2.1.keeps H (fun h=>h))).mono ?_;rintro e w7 ⟨rfl,Z,fv,a8⟩;have H7:=Hd (bA (H6.o.1.trans' Z fun z hz e=>by have e:z=w.heap.size+1+1:=e;omega) (bA a8 (H6.o.2.1.keeps' Z (fun b hb e=>by have hb:some g=some b:=hb;have e:b=w.heap.size+1+1:=e;have:=H2.o.2.2.2;cases hb;omega))));clear H a3 a4 a5 a7 Z a8;go_wp2_with fail
 go_ret2
 exact⟨H7.o.1,_,_,g,c,1,fv,rfl,H7.o.2⟩
theorem juK(to root t key:vB)(n:Ai)(hW:QS n t fr to key)(hft:Op.bytesLess fr.toList to.toList=true)
  (hsg:∀ W,Af w W->vR 97 #[.pointer (some ⟨s,0,none⟩),.string root] W (.tuple #[.string t,.bool true])) :
  vQ 60 #[.pointer (some ⟨s,0,none⟩),.string root,.agg #[.string fr,.string to]] w fun e w'=>∃ g c,e=.returned (.tuple #[.slice (some ⟨g,0,none⟩) 1 c,.int .i64 0])/\Af w w'/\Ic w' (.slice (some ⟨g,0,none⟩) 1 c) [t]:=by
 have HW:=Hd hW;have HS:=Hd hsg;have a1:∀ (fn:Fn) (first cap:Array vV) (w:vW),(Instr.makeFunc fn first cap).run prog w=.ok (.func fn first cap) w:=fun _ _ _ _=>rfl;have H:=(Aa w).alloc (.cells #[.string fr,.string to] 120);have J:=Ae.new w (.cells #[.string fr,.string to] 120);have H0:=Hd (bA H J);clear hW hsg H J;unfold vQ;go_in;go_wp2_with fail
 refine vC (HS.o _ H0.o.1) fun w1 q=>?_;have A:=H0.o.2.keeps q (fun h=>h);have q0:w1.cell? ⟨w.heap.size,0,none⟩=some (.string fr):=A.cell (i:=0) rfl;have q1:w1.cell? ⟨w.heap.size,1,none⟩=some (.string to):=A.cell (i:=1) rfl;have H1:=Hd (H0.o.1.trans q);clear q A;go_wp2_with fail
 refine (jyi w1 s fr to root t key n HW.o (fun W e=>HS.o W (H1.o.trans e))).mono ?_;rintro e w2 ⟨K,wb,mb,g,c,lk,fv,rfl,O,X⟩;have H2:=Hd (bA (H1.o.trans K) (bA O X));clear K O X;go_wp2_with fail
 refine vH (juw _ _) fun w3 Z=>?_;have hE:=(Aa w2).alloc (.cells #[.pointer none] 200);have H3:=Hd (hE.trans Z);have a0:=H2.o.2.1.keeps (hE.trans Z) (fun h=>h);have q4:w3.cell? ⟨wb,4,none⟩=some (.slice (some ⟨g,0,none⟩) 1 c):=a0.cellL rfl;clear hE a0;go_wp2_with fail
 go_ret2
 exact⟨g,c,rfl,H2.o.1.trans H3.o,H2.o.2.2.ext H3.o⟩
end
section
open Go Go.RowKit
theorem jvF(f:vV):vR 139 #[.slice none 0 0,f] w (.int .i64 (-1)):=by
 unfold vR vQ;go_in;go_wp2_with fail
 go_loopw [8] (fun i wr=>i=.int .i64 0/\Af w wr) (fun i _=>1)
 case atStart=>exact⟨rfl,Aa w⟩
 case round =>obtain⟨rfl,e⟩:=hrel;(have q:=Hd e;clear e;go_wp2_with fail);go_ret;exact⟨rfl,q.o⟩
theorem lW(key:vB)(hq:w.cell? ⟨cb,1,none⟩=some (.slice none 0 0)):vR 93 #[.pointer (some ⟨cb,0,none⟩),.string key] w (.int .i64 (-1)):=by
 have e:=(Aa w).alloc (.cells #[.string key] 9);have J:=Am hq e;have q:=Hd e;clear hq e;unfold vR vQ;go_in;go_wp2_with fail
 refine vH (jvF _ _) fun w1 A=>?_;have H:=Hd (q.o.trans A);go_wp2_with fail
 go_ret
 exact⟨rfl,H.o⟩
theorem zY{w:vW}{a:Act}{x y:Operand}{ty:TypeId}{m:vV}(hl:(Instr.lookup 133 m (.string key) false).run prog w=.ok v w)(hx:a.eval x=m:=by rfl)(hy:a.eval y=.string key:=by rfl):(execOp a.eval ⟨d,.lookup 133 x y false,ty,pos,af,g⟩).run prog w=.ok (.value v) w:=by
 simp only[execOp,hx,hy,bQ,hl,Result.andThen,cU]
def AB(W:vW)(cb mb:Nat)(key:vB):Prop:=Ae W cb (.cells #[.int .i64 4,.slice none 0 0,.map (some mb),.int .i64 1] 136)/\Ae W mb (.map (Al.arr [(key.data.toList,.int .i64 1,0)]) 1)
theorem jxH(hne:cb≠mb)(h:BK w cb mb 4)(key:vB) :
  vQ 48 #[.pointer (some ⟨cb,0,none⟩),.string key] w fun e w'=>e=.returned (.tuple #[.string ⟨#[]⟩,.bool false])/\Ad (fun z=>z=cb\/z=mb) w w'/\AB w' cb mb key:=by
 have H:=Hd h;have q0:=h.1.cell (i:=0) (v:=.int .i64 4) vF;clear h;unfold vQ;go_in;go_wp2_with fail
 refine BU [0,1,2,3,4,5,6,7,8,9,10,11,12] 13 [] Af Af Aa Aq Aq (fun x y h=>h) vY vY vY ?_
 refine vZ ?_
 refine Te _ (.pointer (some ⟨cb,0,none⟩)) rfl (fun w1=>by kernel_rfl) ?_;refine vS ?_
 refine vZ ?_
 refine Ww ⟨cb,2,none⟩ (.map (some mb)) rfl (fun w1 X=>Dt (fun w=>by kernel_rfl) ((H.o.1.drew.keeps X (fun h=>h)).cell (i:=2) rfl)) ?_;refine vS ?_;iterate 2 refine vZ ?_
 refine Te _ (.pointer (some ⟨cb,0,none⟩)) rfl (fun w1=>by kernel_rfl) ?_;refine vS ?_
 refine vZ ?_
 refine Ww ⟨cb,2,none⟩ (.map (some mb)) rfl (fun w1 X=>Dt (fun w=>by kernel_rfl) ((H.o.1.drew.keeps X (fun h=>h)).cell (i:=2) rfl)) ?_;refine vS ?_
 refine vZ ?_
 refine mZ _ (.int .i64 0) rfl vY vY rfl (fun w3 h3=>by have:=Xd Al Bi (H.o.2.drew.keeps h3 (fun h=>h)) (Df w3) key.data.toList false;exact zY this) ?_
 refine vS ?_
 refine vZ ?_
 refine Te _ (.int .i64 1) rfl (fun w1=>by kernel_rfl) ?_;refine vS ?_;refine CE _ rfl vY rfl (fun wc hc K hK=>?_);have kc:Af w wc:=(Ap _).trans hc;have Z:=H.o.2.keeps kc (fun h=>h)
 obtain⟨W2,A⟩:=vE (wc.putObj mb (.map (Al.arr [(key.data.toList,.int .i64 1,0)]) 1))
 have a3:(Instr.mapUpdate 133 (.map (some mb)) (.string key) (.int .i64 1)).run prog wc=.ok () W2:=by have:=Ze Al Bi Z key.data.toList (.int .i64 1);rw[A];exact this
 have a1:Ae W2 mb (.map (Al.arr [(key.data.toList,.int .i64 1,0)]) 1):=by rw[A];exact Z.put_same _
 have K2:Ad (fun z=>z=mb) wc W2:=by rw[A];exact Ad.onePut _ _ _
 have J:=(H.o.1.keeps kc (fun h=>h)).keeps K2 hne;have H2:=Hd (bA a1 (bA ((kc.mono (G:=fun z=>z=mb) fun _ _ e=>e.elim).trans K2) J));clear A a1 K2 Z kc hc;go_simp;refine hK _ _ ?_;clear hK K a3;have q3:W2.cell? ⟨cb,3,none⟩=some (.int .i64 0):=J.cell (i:=3) rfl;have f3:W2.frozen? ⟨cb,3,none⟩=false:=J.frozen;clear J;go_wp2_with fail
 have q:=H2.o.2.2.set_same (i:=3) (.int .i64 1);have k3:=Ad.oneSet W2 ⟨cb,3,none⟩ (.int .i64 1);have a0:=H2.o.1.keeps k3 (fun e=>hne e.symm);generalize W2.setCell ⟨cb,3,none⟩ (.int .i64 1)=w3 at q k3 a0 ⊢;refine Ij [0,1,2,3,4,5,6,7,8,9] Af Aa Aq vY vY vY ?_
 refine vK ?_
 refine Lo _ (.pointer (some ⟨cb,0,none⟩)) rfl (fun w1 _=>by kernel_rfl) ?_;refine vS ?_
 refine vK ?_
 refine Dc ⟨cb,3,none⟩ (.int .i64 1) rfl (fun w1 X=>Dt (fun w=>by kernel_rfl) ((q.drew.keeps X (fun h=>h)).cell (i:=3) rfl)) ?_;refine vS ?_
 refine vK ?_
 refine Lo _ (.pointer (some ⟨cb,0,none⟩)) rfl (fun w1 _=>by kernel_rfl) ?_;refine vS ?_
 refine vK ?_
 refine Dc ⟨cb,0,none⟩ (.int .i64 4) rfl (fun w1 X=>Dt (fun w=>by kernel_rfl) ((q.drew.keeps X (fun h=>h)).cell (i:=0) rfl)) ?_;refine vS ?_;iterate 2 refine vK ?_
 refine Hv (fun w4 h4=>?_);have O:Af w3 w4:=(Ap _).trans h4;have a2:=q.keeps O (fun h=>h);have H4:=Hd (bA ((H2.o.2.1.mono (G:=fun z=>z=cb\/z=mb) fun z _ e=>.inr e).trans ((k3.mono fun z _ e=>.inl e).trans (O.mono fun _ _ e=>e.elim))) (bA a2 (a0.keeps O (fun h=>h))));clear h4 O q k3 a0 a2 q3 f3;go_wp2_with fail
 refine vC (lW w4 cb key (H4.o.2.1.cell (i:=1) rfl)) fun w5 hE=>?_;have H5:=Hd (bA (H4.o.1.trans (hE.mono fun _ _ e=>e.elim)) (bA (H4.o.2.1.keeps hE (fun h=>h)) (H4.o.2.2.keeps hE (fun h=>h))));clear hE;go_wp2_with fail
 go_ret2
 exact⟨rfl,H5.o.1,H5.o.2⟩
theorem Gg:(prog.info? 175).map (·.size)=some 2:=vY
theorem Mu:(Instr.alloc 175 true (.tuple #[])).run prog w=.ok (.pointer (some ⟨w.heap.size,0,none⟩)) (w.alloc (.cells [Value.string ⟨#[]⟩,.string ⟨#[]⟩].toArray 175)):=vY
theorem Lj:prog.underlying 134=some (.slice 175):=vY
theorem zI(dT sT ty elem:TypeId)(d a:Option Addr)(dLen dCap sLen sCap:Nat)(hu:P.underlying dT=some (.slice elem))(hs:(P.info? elem).map (·.size)=some sz)(hn:Nat.min sLen dLen=0:=by rfl) :
  (Builtin.copy_ #[dT,sT] ty #[.slice d dLen dCap,.slice a sLen sCap]).run P w=.ok (goInt 0) w:=by
 cases hq:P.info? elem with
 |none=>simp[hq]at hs
 |some i =>(have e:∀ (x:Addr),(loadCells x 0).run P w=.ok #[] w:=fun x=>by simpa using run_loadCells_list (P:=P) w x [] (by simp));cases d<;>cases a<;>simp[Builtin.copy_,run_underlying hu,Builtin.lenOf,Builtin.firstCells,sizeOf,typeInfo,hq,hn,storeCells,e]
theorem Z_{w:vW}{a:Act}{x y:Operand}{dT sT ty:TypeId}(hx:a.eval x=v1)(hy:a.eval y=v2)(hr:(Builtin.copy_ #[dT,sT] ty #[v1,v2]).run P w=.ok v w):(execOp a.eval ⟨d,.call { callee:=.builtin .copy,args:=#[x,y],argTypes:=#[dT,sT] },ty,pos,af,g⟩).run P w=.ok (.value v) w:=by
 simp[execOp,hx,hy,hr,resolve,invoke,builtin,bQ,Result.andThen]
theorem Qn:Xg (prog.underlying 175)=true:=vY
theorem zK(hl:vs.length=2){T:TypeId}(hB:Ae W b (.cells vs.toArray T fz)):(Instr.loadAt 175 (.pointer (some ⟨b,0,none⟩))).run prog W=.ok (.agg vs.toArray) W:=by
 obtain⟨A,e⟩:=Yd Qn
 exact Yg e (by rw[hl];exact Gg) (fun j v q=>by rw[Go.WideShapes.add_plain,bX];exact hB.cellL q)
def Ox(W:vW)(cb mb tg c:Nat)(key val:vB):Prop:=Ae W cb (.cells #[.int .i64 4,.slice (some ⟨tg,0,none⟩) 1 c,.map (some mb),.int .i64 1] 136)/\1<=c/\∃ rest,Ae W tg (.cells ([.string key,.string val]++rest).toArray 175)
theorem jvv(c:Nat)(hne:cb≠tg)(key v0 val:vB)(h:Ox w cb mb tg c key v0) :
  vQ 94 #[.pointer (some ⟨cb,0,none⟩),.int .i64 0,.string val] w fun e w'=>e=.returned (.tuple #[])/\Ad (fun z=>z=tg) w w'/\Ox w' cb mb tg c key val:=by
 obtain⟨J,O,Z,ht⟩:=h
 have q1:w.cell? ⟨cb,1,none⟩=some (.slice (some ⟨tg,0,none⟩) 1 c):=J.cell (i:=1) rfl;have t0:w.cell? ⟨tg,0,none⟩=some (.string key):=ht.cellL rfl;have H:=Hd (bA J ht);clear J ht;unfold vQ;go_in;go_wp2_with (first|(refine Di Mu rfl rfl ?_;intro W2 a1 a2)|(refine Bv (vs:=[.string key,.string val]) rfl rfl rfl rfl a1 rfl Gg (by simp[Value.oneCell']) ?_;intro W3 a3 a4))
 have hE:Af w W3:=a2.trans' a4 fun x hx e=>by have e:x=w.heap.size:=e;omega
 have H3:=Hd (bA hE (bA a3 (bA (H.o.1.keeps hE (fun h=>h)) (H.o.2.keeps hE (fun h=>h)))));clear hE a1 a2 a3 a4 q1 t0;refine vS ?_;have c1:(1:Int)<=(c:Int):=vO
 refine Ij [0,1,2,3,4,5,6,7,8,9,10,11,12,13] Af Aa Aq vY vY vY ?_
 refine vK ?_
 refine Lo _ (.pointer (some ⟨cb,0,none⟩)) rfl (fun w1 _=>by kernel_rfl) ?_;refine vS ?_
 refine vK ?_
 refine Dc ⟨cb,1,none⟩ (.slice (some ⟨tg,0,none⟩) 1 c) rfl (fun w1 O=>Dt (fun w=>by kernel_rfl) ((H3.o.2.2.1.drew.keeps O (fun h=>h)).cell (i:=1) rfl)) ?_;refine vS ?_;iterate 2 refine vK ?_
 refine vK ?_
 generalize (if c=1 then some (⟨tg,0,none⟩:Addr)else some ⟨tg,2,none⟩)=ad
 refine vK ?_
 refine Lo _ (.pointer (some ⟨cb,0,none⟩)) rfl (fun w1 _=>by kernel_rfl) ?_;refine vS ?_
 refine vK ?_
 refine Dc ⟨cb,1,none⟩ (.slice (some ⟨tg,0,none⟩) 1 c) rfl (fun w1 O=>Dt (fun w=>by kernel_rfl) ((H3.o.2.2.1.drew.keeps O (fun h=>h)).cell (i:=1) rfl)) ?_;refine vS ?_;iterate 2 refine vK ?_
 refine Lo _ (.int .i64 0) rfl (fun w1 _=>Z_ rfl rfl (zI (P:=prog) w1 134 134 3 175 ad (some ⟨tg,0,none⟩) 0 (c-1) 0 c Lj Gg)) ?_;refine vS ?_;refine Hv (fun w4 h4=>?_);have q:Af W3 w4:=(Ap _).trans h4;have a5:=H3.o.2.1.keeps q (fun h=>h);have a7:=H3.o.2.2.1.keeps q (fun h=>h);have a0:=H3.o.2.2.2.keeps q (fun h=>h);have a8:=a0.lt;have a9:=H.o.2.lt;have H4:=Hd (bA (H3.o.1.trans q) (bA a5 (bA a7 a0)));clear h4 q a5 a7 a0 a8;go_wp2_with fail
 refine Nc [0,1,2,3,4,5,6] [6] Af (Ad (fun z=>z=tg)) Aa Aq (fun x y z h k=>Ad.trans h k) (fun x y h=>h.mono (fun _ _ h=>h.elim)) vY vY vY ?_
 refine vD ?_
 refine Lr _ (.pointer (some ⟨cb,0,none⟩)) rfl (fun w1 _=>by kernel_rfl) ?_;refine vS ?_
 refine vD ?_
 refine Fc ⟨cb,1,none⟩ (.slice (some ⟨tg,0,none⟩) 1 c) rfl (fun w1 O=>Dt (fun w=>by kernel_rfl) ((H4.o.2.2.1.drew.keeps O hne).cell (i:=1) rfl)) ?_;refine vS ?_;refine Fc ⟨w.heap.size,0,none⟩ (.agg #[.string key,.string val]) rfl (fun w1 O=>zK w1 w.heap.size [.string key,.string val] rfl (H4.o.2.1.drew.keeps O vO)) ?_;refine vS ?_
 refine vD ?_
 refine Hl _ rfl (fun wc J K hK=>?_);refine VO (old:=[.string key,.string v0]++Z) (vs:=[.string key,.string val]) rfl rfl rfl ((H4.o.2.2.2.drew).keeps J (fun h=>h)) (by simp) Gg (by simp[Value.oneCell']) (fun W5 X A=>hK _ _ A ?_);have H5:=Hd (bA J (bA X A));clear hK K J X A;refine vS ?_;refine Mr (fun w6 h6=>?_);refine bodyPost_end (results_none rfl _ _ _) rfl ?_
 obtain⟨J,X,A⟩:=H5.o
 have k6:Ad (fun z=>z=tg) w4 w6:=(((Ap _).trans J).mono (fun _ _ e=>e.elim)).trans (A.trans (h6.mono fun _ _ e=>e.elim))
 exact⟨rfl,(H4.o.1.mono fun _ _ e=>e.elim).trans k6,H4.o.2.2.1.keeps k6 hne,O,Z,by simpa using X.keeps h6 (fun h=>h)⟩
theorem Qs:Me prog 134 175 2 32:=Me.mk' Lj (show (prog.info? 175).map (fun i=>(i.zero,i.size,i.bytes))=some (some (.agg #[.string ⟨#[]⟩,.string ⟨#[]⟩]),2,32) by kernel_rfl) rfl vI
theorem jrQ(hne:cb≠mb)(key val:vB)(h:AB w cb mb key) :
  vQ 50 #[.pointer (some ⟨cb,0,none⟩),.string key,.string val] w fun e w'=>e=.returned (.bool true)/\Ad (fun z=>z=cb) w w'/\∃ A c,Ox w' cb mb A c key val/\w.heap.size<=A:=by
 have H:=Hd h;have q0:=h.1.cell (i:=0) (v:=.int .i64 4) vF;have b1:=h.1.lt;clear h;unfold vQ;go_in;go_wp2_with fail
 refine vC (lW w cb key (H.o.1.cell (i:=1) rfl)) fun w1 hE=>?_;have X:=H.o.1.keeps hE (fun h=>h);have q1:=X.cell (i:=1) (v:=.slice none 0 0) vF;have H1:=Hd (bA hE X);clear hE X;go_wp2_with fail
 refine Ij [0,1,2,3,4,5,6,7,8,9,10] Af Aa Aq vY vY vY ?_
 refine vK ?_
 refine Lo _ (.pointer (some ⟨cb,0,none⟩)) rfl (fun w1 _=>by kernel_rfl) ?_;refine vS ?_
 refine vK ?_
 refine Dc ⟨cb,1,none⟩ (.slice none 0 0) rfl (fun w2 h1=>Dt (fun w=>by kernel_rfl) ((H1.o.2.drew.keeps h1 (fun h=>h)).cell (i:=1) rfl)) ?_;refine vS ?_;refine Lo _ (.int .i64 0) rfl (fun w1 _=>by kernel_rfl) ?_;refine vS ?_
 refine vK ?_
 refine Lo _ (.pointer (some ⟨cb,0,none⟩)) rfl (fun w1 _=>by kernel_rfl) ?_;refine vS ?_
 refine vK ?_
 refine Dc ⟨cb,0,none⟩ (.int .i64 4) rfl (fun w2 h1=>Dt (fun w=>by kernel_rfl) ((H1.o.2.drew.keeps h1 (fun h=>h)).cell (i:=0) rfl)) ?_;refine vS ?_;iterate 2 refine vK ?_
 refine Hv (fun w2 h2=>?_);have J:Af w w2:=H1.o.1.trans ((Ap _).trans h2);have Z:=H.o.1.keeps J (fun h=>h);have b2:=Z.cell (i:=1) (v:=.slice none 0 0) vF;have H2:=Hd (bA J (bA Z (H.o.2.keeps J (fun h=>h))));clear h2 J Z q1;go_wp2_with (at_builtin;go_loud (refine Rc Qs (Av.nil 175 2 ((Aa w2).alloc (.cells #[.string key,.string ⟨#[]⟩] 175))) (.tmp 45) (.tmp 48) rfl rfl rfl (Jx (Ae.new w2 _)) (news:=[.string key,.string ⟨#[]⟩]) (by intro u hu;simp at hu;rcases hu with rfl|rfl<;>rfl) rfl rfl (by unfold maxLen;omega) vO (fun v5 w5 K r2 r3=>?_));obtain⟨a5,c5,rfl⟩:=K.sl;have q:=H2.o.2.1.keeps K.ext (fun h=>h);have q5:=q.cell (i:=1) (v:=.slice none 0 0) vF;have f5:w5.frozen? ⟨cb,1,none⟩=false:=q.frozen;have H5:=Hd (bA K q);clear K r2 r3 q)
 obtain⟨K,q⟩:=H5.o
 have a0:=q.set_same (i:=1) (.slice a5 (0+1) c5);have k6:=Ad.oneSet w5 ⟨cb,1,none⟩ (.slice a5 (0+1) c5)
 obtain⟨_,⟨e,_⟩|⟨A,b3,a1,e,_,a2,a9,_,b0,a3⟩⟩:=K.own
 ·cases e
 cases e;have b4:w2.heap.size<=A:=K.new A rfl;have b5:=H2.o.1.size;have a4:cb≠A:=vO
 have O:Ae w5 A (.cells (([.string key,.string ⟨#[]⟩]:List vV)++a1.toList.drop 2).toArray 175):=by have h2:a1.toList.take 2=[Value.string key,.string ⟨#[]⟩]:=a3;rw[<-h2,dB];show w5.heap[A]?=_;simpa using a2
 have a7:Ox (w5.setCell ⟨cb,1,none⟩ (.slice (some ⟨A,0,none⟩) (0+1) c5)) cb mb A c5 key ⟨#[]⟩:=⟨by simpa using a0,a9,_,O.keeps k6 (fun e=>a4 e.symm)⟩;refine (jvv _ cb mb A c5 a4 key ⟨#[]⟩ val a7).mono ?_;rintro e w7 ⟨rfl,a8,h7⟩;have H7:=Hd (bA ((((H2.o.1.trans K.ext).mono (G:=fun z=>z=cb) fun _ _ e=>e.elim).trans k6).trans' a8 fun z hz e=>by have e:z=A:=e;omega) (bA h7 (show w.heap.size<=A by omega)));clear a8 h7 a7 O a2 a0 k6 q K q5 f5 b0 a3;go_wp2_with fail
 go_ret
 exact⟨rfl,H7.o.1,A,c5,H7.o.2⟩
def tJ(w:vW)(kv iv:vV)(wr:vW):Prop:=∃ i:Nat,i<=1/\iv=.int .i64 i/\∃ xs,Av 9 1 w wr kv i xs
theorem juR(c:Nat)(key val:vB)(h:Ox w cb mb tg c key val) :
  vQ 64 #[.pointer (some ⟨cb,0,none⟩)] w fun e w'=>∃ a c,e=.returned (.slice a 1 c)/\Af w w':=by
 obtain⟨hc,h1,a2,ht⟩:=h
 have q1:w.cell? ⟨cb,1,none⟩=some (.slice (some ⟨tg,0,none⟩) 1 c):=hc.cell (i:=1) rfl;have H:=Hd (bA hc ht)
 obtain⟨i0,hi,K,O,X⟩:=info_parts Jc
 obtain⟨w2,q,A,J⟩:=run_make_own (P:=prog) (w:=w) w.heap.size 52 9 i0 _ 1 Cg.ht hi K O .i64 .i64 1 (by rw[X];decide) (by unfold maxLen;omega) (bP _)
 have k2:Af w w2:=Ad.of_grown J (fun _ e=>by cases e);have Z:=Av.made w A J;have a4:=Am q1 k2;have a3:(Instr.makeSlice 52 (.int .i64 0) (.int .i64 1)).run prog w=.ok (.slice (some ⟨w.heap.size,0,none⟩) 0 1) w2:=q;have a0:=Hd Z;clear q hc ht A J hi K O X Z k2;unfold vQ;go_in;go_wp2_with fail
 go_loopw [3,17] (fun kv iv wr=>tJ w kv iv wr) (fun _ iv _=>1-(intOf iv).toNat)
 case atStart=>exact⟨0,by decide,rfl,_,a0.o⟩
 case round =>obtain⟨i,hi,rfl,xs,hR⟩:=hrel;have HR:=Hd hR;obtain⟨ak,ck,rfl⟩:=hR.sl;have hE:=hR.ext;have t0:wr.cell? ⟨tg,0,none⟩=some (.string key):=(H.o.2.keeps hE (fun h=>h)).cellL rfl;have t1:wr.cell? ⟨tg,1,none⟩=some (.string val):=(H.o.2.keeps hE (fun h=>h)).cellL rfl;clear hR hE;by_cases hlt:i<1;{obtain rfl:i=0:=vO;(clear hi;go_wp2_with (at_builtin;go_loud (refine Rc Cg (HR.o.mono (((Aa wr).alloc _).alloc _)) (.tmp 21) (.tmp 24) rfl rfl rfl (by have:=NV (wr.alloc (.cells #[.string key,.string val] 175)) 9 [.string key];rw[bG]at this;exact this) (news:=[.string key]) (by intro u hu;simp at hu;rw[hu];rfl) rfl rfl (by unfold maxLen;omega) vO (fun v5 w5 r1 r2 r3=>?_));obtain⟨a5,c5,rfl⟩:=r1.sl;have a1:=Hd r1;clear r1 r2 r3));go_roundw;(case rel=>exact⟨1,by decide,by go_num,_,a1.o⟩);case measure=>simp[intOf]};obtain rfl:i=1:=vO;(go_wp2_with fail);go_ret;exact⟨ak,ck,rfl,HR.o.ext⟩
end
section
open Go Go.RowKit
attribute [local go_sem] Oper.semAt_some
def II(w:vW)(P:Prop)(e:Ending)(w':vW):Prop:=(∃ r:Bool,e=.returned (.bool r)/\(r=true->P))/\Af w w'
def jzs(w:vW)(l:List Fy)(i:vV)(wr:vW):Prop:=∃ k:Nat,k<=l.length/\k<=31/\i=.int .i64 k/\Af w wr/\∀ p∈l.take k,Ll p.cs=true
theorem jx0(v:vV)(l:List Fy)(hv:Zs w v l)(hn:l.length<=9223372036854775807)(hs:KC l) :
  vQ 30 #[v] w (II w (∀ p∈l,Ll p.cs=true)):=by
 have HV:=Hd hv;have HS:=Hd hs
 obtain⟨a,c,rfl⟩:=hv.sl;clear hv hs;unfold vQ;go_in;go_wp2_with fail
 go_loopw [3] (fun i wr=>jzs w l i wr) (fun i _=>l.length-(intOf i).toNat)
 case atStart=>exact⟨0,by omega,by omega,rfl,Aa w,fun p J=>by simp at J⟩
 case round =>obtain⟨k,hk,a2,rfl,hE,e⟩:=hrel;have K:=Hd hE;have A:=Hd e;clear hE e;by_cases hlt:k<l.length;{have b1:(k:Int)<(l.length:Int):=vO;by_cases h45:k<=30;{have b2:(k:Int)<=30:=vO;obtain⟨p,J⟩:∃ p,l[k]?=some p:=⟨_,bB hlt⟩;rcases HV.o with⟨_,_,_,h0⟩|⟨b,o,c1,hh,hb,hc,hcell⟩;{rw[h0]at hlt;cases hlt};cases hh;obtain⟨q1,q2,q3,q4⟩:=hcell k p J;have q2:=Am q2 K.o;have HP:=Hd (bA J (q4.ext K.o));have O:=Hd (HS.o p (bD J));obtain⟨pa,pc,X⟩:=q4.sl;(rw[X]at q2;clear hcell hb hc J q1 q3 q4;go_wp2_with fail);refine vH (wG wr _ p.cs (by rw[<-X];exact HP.o.2) O.o.1 O.o.2) fun w2 a1=>?_;have Z:=Hd (K.o.trans a1);clear q2;cases hf:Ll p.cs with| false =>(go_wp2_with fail);go_ret;exact⟨⟨false,rfl,fun h=>by cases h⟩,Z.o⟩| true =>(have HF:=Hd hf;clear hf;go_wp2_with fail);go_roundw;(case rel=>exact⟨k+1,by omega,by omega,by go_num,Z.o,fun q H=>by rw[cA,HP.o.1]at H;rcases bR.1 H with H|H;{exact A.o q H};(have H:q=p:=by simpa using H);rw[H];exact HF.o⟩);case measure=>exact vJ};have b2:¬(k:Int)<=30:=vO;have b3:¬(l.length:Int)<=30:=vO;(clear h45;go_wp2_with fail);go_ret;exact⟨⟨false,rfl,fun h=>by cases h⟩,K.o⟩};have a0:k=l.length:=vO;have b1:¬(k:Int)<(l.length:Int):=vO;(have e:=A.o;rw[a0,cD]at e;have HA:=Hd e;clear e a0;go_wp2_with fail);go_ret;exact⟨⟨_,rfl,fun _=>HA.o⟩,K.o⟩
theorem ZZ{l:List Bk}(h:Ll l=true):l.length<=1000/\∀ c∈l,c.key.size<=1000/\c.value.size<=1000:=by
 unfold Ll Xl at h;simp only[cI,fD,decide_eq_true_eq]at h
 exact⟨by omega,fun c e=>by have:=h.1 c e;omega⟩
theorem Qk:Xg (prog.underlying 33)=true:=vY
theorem Qt:(prog.info? 33).map (·.size)=some 3:=vY
theorem zJ(o:Nat)(x y z:vV)(h0:W.cell? ⟨b,o,none⟩=some x)(h1:W.cell? ⟨b,o+1,none⟩=some y)(h2:W.cell? ⟨b,o+2,none⟩=some z):(Instr.loadAt 33 (.pointer (some ⟨b,o,none⟩))).run prog W=.ok (.agg #[x,y,z]) W:=by
 obtain⟨A,q⟩:=Yd Qk
 refine Yg (xs:=[x,y,z]) q Qt (fun j v e=>?_);rw[Go.WideShapes.add_plain]
 match j,e with
 |0,e=>cases e;exact h0
 |1,e=>cases e;exact h1
 |2,e=>cases e;exact h2
end
