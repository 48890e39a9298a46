/- Lemmas; each is under no condition but those that it states. -/
import Derived.Test.YtegloohdmjadoaaGreatDoorPu20
namespace Go.Proofs.YtegloohdmjadoaaGreatDoor
set_option linter.unusedSimpArgs false
set_option linter.unusedVariables false
set_option maxRecDepth 100000
set_option maxHeartbeats 16000000
open Go Go.RowKit
section
attribute [local go_sem] Oper.semAt_some
theorem jf2:∀ (l:vM) (i:Nat),((jaw i l).filterMap fun x=>jcL x.2)=l.filterMap jcL
 | [],_=>rfl
 | x :: l,i=>by
  unfold jaw
  by_cases h:x.size=0
  ·rw[if_pos h,jf2 l,fW,jbj h,jgm]
  ·rw[if_neg h,fW,fW,jf2 l]
def jcq(n:jad)(k:Nat):vM:=(n.refsL.take k).filterMap fun x=>jcL x.2
theorem jrR(n:jad):jcq n n.refsL.length=jaZ n:=by
 unfold jcq;rw[cE];exact jf2 _ _
theorem jpX(n:jad){k:Nat}(hk:k < n.refsL.length):jcq n (k+1)=jcq n k++(jcL (n.rr k)).toList:=by
 unfold jcq;rw[cS hk,List.filterMap_append]
 congr 1
 have:n.rr k=(n.refsL[k]).2:=by simp[jad.rr,bC,hk]
 rw[this,fW];cases jcL (n.refsL[k]).2 <;> rfl
theorem jrS(n:jad)(k:Nat):(jcq n k).length<=n.refs.length:=by
 have m:∀ (l:vM) (i:Nat),(jaw i l).length<=l.length:=by
  intro l;induction l with
  | nil=>intro i;simp[jaw]
  | cons x r ih=>intro i;unfold jaw;split <;> simp <;> have:=ih (i+1) <;> omega
 have o:=m n.refs 0;unfold jcq;have e:=List.length_filterMap_le (fun x:Nat × vB=>jcL x.2) (n.refsL.take k);rw[cL]at e
 have:n.refsL=jaw 0 n.refs:=rfl
 rw[this]at e ⊢;omega
theorem joJ{x:vB}{l:vM}(h:x∈l):x.size<=(jba l).size:=bG (jhI l x h) (jky l)
theorem joH{d:Nat}{r:vB}(h:MayP (InlD d) r)(hs:r.size < 32):jcL r=none:=by
 rcases h with h |⟨m,h⟩
 ·have:=h.size;omega
 ·exact jdM (inlP d) h
theorem jmC{d:Nat}{n:jad}(h:jbI (InlD d) n)(hs:(jaO n).size < 32):jaZ n=[]:=by
 unfold jaZ;cases h with
 | none=>exact jek 16
 | leaf p v h1 h2 h3=>exact jek 16
 | ext p r h1 h2 h3 =>
  show (r :: jam 15).filterMap jcL=[];have o:r.size < 32:=by
   have e:jaO ⟨2,p,⟨#[]⟩,r :: jam 15⟩=jba [jap (putB p false),r]:=rfl
   have:=joJ (x:=r) (l:=[jap (putB p false),r]) (by simp)
   rw[e]at hs;omega
  rw[fW,jek,joH (h3.imp id fun ⟨m,h,_⟩=>⟨m,h⟩) o]
 | branch v rs h1 h2 h3 h4 =>
  show rs.filterMap jcL=[];rw[List.filterMap_eq_nil_iff];intro r o
  by_cases h0:r.size=0
  ·rw[jbj h0,jgm]
  ·have e:jaO ⟨3,⟨#[]⟩,v,rs⟩=jba (ja5 rs v):=by
    show jba (jbO _)=_;rw[jdy _ h1]
   have A:r∈ja5 rs v:=by
    unfold ja5;refine bW.2 (.inl (bI.2 ⟨r,o,?_⟩));rw[if_neg h0]
   have:=joJ A
   rw[e]at hs;exact joH (h3 r o h0) vO
theorem jzv{w:vW}{B:Nat}{T:TypeId}{sz:Nat}{ad:Option Addr}{n cp:Nat}{xs:List vV}(h:w.ownsRow B T sz (.slice ad n cp) n xs):n<=cp:=by
 obtain⟨_,⟨e,m⟩ |⟨g,o,A,e,m,E,H,_⟩⟩:=h
 ·omega
 ·obtain⟨_,_,J⟩:=cT e;omega
structure HsS(w:World)(g3 gi m:Nat)(n:jad)(k:Nat)(W:World):Prop where
 ext:Ext w W
 it:Blk W gi (.cells n.cells.toArray 150)
 row:∃ v,Blk W g3 (.cells #[v] 30)/\W.ownsRow 0 9 1 v (jcq n k).length ((jcq n k).map Value.string)/\(∀ b,v.ownBlock=some b->m+2<=b)/\(jcq n k=[]->v=.slice none 0 0)
theorem HsS.st{w:vW}{g3 gi m:Nat}{n:jad}{k:Nat}{W W':vW}(h:HsS w g3 gi m n k W)(e:Ext W W'):HsS w g3 gi m n k W':=
 let ⟨v,h1,h2,h3,h4⟩:=h.row
 ⟨h.ext.trans e,h.it.keeps e (fun h=>h),v,h1.keeps e (fun h=>h),jbl h2 e,h3,h4⟩
theorem HsS.put{w:vW}{g3 gi m:Nat}{n:jad}{k:Nat}{W:vW}(h:HsS w g3 gi m n k W){r:Nat}(hr:w.heap.size<=r)(h1:g3 < r)(h1':gi < r)(h2:r < m+2)(o:Obj):HsS w g3 gi m n k (W.putObj r o):=
 let ⟨v,h3,h4,h5,h6⟩:=h.row
 ⟨h.ext.putObj (.inr hr) _,h.it.put_other vO _,v,h3.put_other vO _,ja2 h4 (jae.onePut W r o) (fun b hb e=>by have:=h5 b hb;omega),h5,h6⟩
def jtK(w:vW)(n:jad)(e:Ending)(w':vW):Prop:=∃ v,e=.returned v/\SRow w w' v (jaZ n).length (jaZ n)/\(jaZ n=[]->v=.slice none 0 0)
theorem juF{I:vB->jad->Prop}{n:jad}(h:jbI I n):∀ r∈n.refs,r.size≠0->MayP I r:=by
 have A:∀ r∈jam 16,r.size≠0->MayP I r:=fun r E e=>by rw[fQ E]at e;exact absurd rfl e
 cases h with
 | none=>exact A
 | leaf p v h1 h2 h3=>exact A
 | ext p r h1 h2 h3 =>
  intro x o e;rcases bX.1 o with rfl | o
  ·exact h3.imp id fun ⟨m,h,_⟩=>⟨m,h⟩
  ·rw[fQ o]at e;exact absurd rfl e
 | branch v rs h1 h2 h3 h4=>exact h3
theorem jiE(d:Nat)(n:jad)(h:jbI (InlD d) n)(ih:∀ r m,InlD d r m->∀ w,vQ 66 #[m.V] w (jtK w m))(w:vW):vQ 66 #[n.V] w (jtK w n):=by
 have hr:=(h.one (inlP d)).refs
 obtain⟨i0,hi,e2,e3,e4⟩:=info_parts Tryz.infoStr
 have HV:=Hd (fun w=>jk7 (inlP d) w n h);have HM:=Hd (juF h);have e5:=Hd ih;have HQ:=Hd (show ∀ (v:vV) W',jtK w n (.returned v) W'↔(SRow w W' v (jaZ n).length (jaZ n)/\(jaZ n=[]->v=.slice none 0 0))from fun v W'=>⟨fun ⟨_,e,h⟩=>by cases e;exact h,fun h=>⟨v,rfl,h⟩⟩);have a9:=jaq (w.alloc (.cells n.cells.toArray 110)) _ n hr (Blk.new w _);clear h ih;unfold jad.V at a9 ⊢;refine (callsIn_wide (n:=0)).1 ?_;refine callsIn_of_wp_marks Tryz.func66 rfl trivial ?_ rfl;simp only[Tryz.ntmps66,dN,bP,dD,Nat.reduceAdd,Nat.reduceSub,dL,dK,dX,dP,cM,cZ];gi_wp2_with (refine jbp rfl 110 (.tmp 1) rfl _ _ rfl a9 ?_)
 refine⟨trivial,rfl,CallsIn.mono (callsIn_wide.2 (HV.o _)) ?_⟩
 rintro e w1 ⟨rfl,O⟩;have b0:=(Blk.new w (.cells n.cells.toArray 110)).keeps O (fun h=>h);have b1:=Hd (((ExtR w).alloc _).trans O)
 obtain⟨W2,a3⟩:=vE (w1.alloc (.cells #[.slice none 0 0] 30))
 have c1:=Hd a3;have c2:Blk W2 w.heap.size (.cells n.cells.toArray 110):=by rw[a3];exact b0.alloc _
 have A:=Hd (show Blk W2 w1.heap.size (.cells #[.slice none 0 0] 30) by rw[a3];exact Blk.new w1 _);have c3:=Hd (show Ext w W2 by rw[a3];exact b1.o.alloc _);have a1:=jaq W2 _ n hr c2;have e6:=b0.lt;rw[a3]at a1;clear a9 O b0 a3 c2;unfold jad.V at a1;gi_wp2_with (refine jbp rfl 110 (.tmp 1) rfl _ _ rfl a1 ?_)
 rw[<-c1.o]
 refine⟨trivial,rfl,CallsIn.mono (callsIn_wide.2 (jo2 W2 n)) ?_⟩
 rintro e w3 ⟨rfl,a7,O⟩;have a5:=A.o.lt
 obtain⟨gi,c4⟩:∃ g,g=W2.heap.size:=⟨_,rfl⟩
 obtain⟨H,a2⟩:∃ g,g=w1.heap.size:=⟨_,rfl⟩
 rw[<-a2]at A a5 e6;rw[<-c4]at a7 a5 ⊢;rw[<-a2];have S0:HsS w H gi w3.heap.size n 0 w3:=⟨c3.o.trans O,a7,_,A.o.keeps O (fun h=>h),fR _ _ _ _,(fun b hb=>by cases hb),(fun _=>rfl)⟩;have f8:=a7.lt;have e7:=b1.o.size;have e8:=Hd S0;have a4:=Hd (show w.heap.size<=H by omega);clear a1 a7 O b1 c1 A c3 S0 e7 c4 a2;gi_wp2_with fail
 refine jez (N:=n.refsL.length) (gf:=133) (lb:=#[.pointer (some ⟨gi,0,none⟩)]) rfl (vX 133) (jkT gi n hr)
  (fun k=>rfl) (HsS w H gi w3.heap.size n) (fun _ _ _=>False) (fun k W W' h e=>h.st e) (fun _ _ _ _ h _=>h) (fun k W h=>h.it)
  (fun k W o h=>h.put (by have:=a4.o;omega) vO vO vO _)
  (fun k W o h=>h.put (by have:=a4.o;omega) vO vO vO _) (fun _ _ _ _ h=>h)
  e8.o (fun k=>{ tmps:=#[.agg n.cells.toArray,.pointer (some ⟨w.heap.size,0,none⟩),.slice none 0 0,.pointer (some ⟨H,0,none⟩),undef,.string (n.rr k),undef,undef,undef,undef,.agg n.cells.toArray,.bool true,.bool false,.agg n.cells.toArray,.func (.func 133) #[] #[.pointer (some ⟨gi,0,none⟩)],.int .i64 (n.ri k:Nat),.string (n.rr k),undef,undef,undef,undef,undef,undef,undef,undef,undef,undef,undef,undef,undef,undef,undef,undef,undef,undef,undef,undef],defers:=[] })
  ?hassign ?hbody ?hdone ?hstop
 case hassign =>
  intro l j W K hK;rw[jvw,jrL];simp only[dJ,dB];gi_wp2;exact hK
 case hbody =>
  intro l k W hk hS f9;have b2:=jvr n hr hk;have a6:=HM.o _ (bE b2.2.1) b2.2.2;have b3:=jpX n hk;have e9:=jrS n k;rw[hr]at e9
  obtain⟨r,c5⟩:=vE (n.rr k)
  rw[<-c5]at a6 b3 ⊢;have HS:=Hd hS;have c6:=Hd b3;have c7:=a4.o;have b4:=Hd c7;clear hS b2 b3 c5 c7;rcases a6 with hh |⟨m,hm⟩
  ·obtain⟨hs,x,q,J,Q⟩:=hh.known
   have HX:=Hd (show jcq n (k+1)=jcq n k++[x] by
    rw[c6.o];unfold jcL;rw[J];show _++(jgl r q).toList=_;rw[Q];rfl)
   have H3:=Hd J;have H4:=Hd Q;clear J Q hh;gi_wp2_with fail
   refine⟨trivial,rfl,CallsIn.mono (CallsIn.inRound l (callsIn_wide.2 (jei W r q hs H3.o))) ?_⟩
   rintro e w5 ⟨rfl,O⟩;rw[H4.o];have S5:=HS.o.st O
   obtain⟨v,E,X,J,Q⟩:=S5.row
   obtain⟨Z,cp,rfl⟩:=jaR X
   have q4:w5.cell? ⟨H,0,none⟩=some (.slice Z (jcq n k).length cp):=E.cell (i:=0) vF;have f4:w5.frozen? ⟨H,0,none⟩=false:=E.frozen;have g0:=O.size;have c8:=Hd S5;have a8:=Hd O;have b5:=Hd E;have b6:=Hd X;have A:=Hd J;clear S5 E X J Q O;unfold optV;gi_wp2_with (gi_at_builtin;refine jb1 _ rfl (.tmp 23) (.tmp 25) 30 rfl 9 i0 _ 1 16 Tryz.uStrs hi e2 e3 e4 rfl vI (.slice Z (jcq n k).length cp) (jcq n k).length _ rfl (jbl b6.o ((ExtR w5).alloc _)) ⟨w5.heap.size,0,none⟩ 1 1 [.string x] rfl rfl (jaH (Blk.new w5 _)) (by simp[Value.oneCell']) (by unfold maxLen;omega) vO ?_)
   intro v' w6 r1 r2 r3;have K6:jae (fun b=>(Value.slice Z (jcq n k).length cp).ownBlock=some b) w5 w6:=((jae.refl _ w5).alloc _).trans r2;have hl:(jcq n (k+1)).length=(jcq n k).length+1:=by rw[HX.o];simp
   have r1:w6.ownsRow 0 9 1 v' (jcq n (k+1)).length ((jcq n (k+1)).map Value.string):=by
    rw[hl,HX.o,bZ];exact r1
   have nb:∀ b,b < w3.heap.size+2->¬(Value.slice Z (jcq n k).length cp).ownBlock=some b:=fun b hb e=>by have:=A.o b e;omega
   obtain⟨c9,d0,rfl⟩:=jaR r1
   have d1:∀ b,(Value.slice c9 (jcq n (k+1)).length d0).ownBlock=some b->w3.heap.size+2<=b:=fun b hb=>by
    rcases r3 with r3 | r3
    ·exact A.o b (r3 ▸ hb)
    ·have:=r3 b hb;first | omega |(simp at this;omega)
   have B4:=b5.o.keeps K6 (nb _ vO);have g1:w6.cell? ⟨H,0,none⟩=some (.slice Z (jcq n k).length cp):=B4.cell (i:=0) vF;have g2:w6.frozen? ⟨H,0,none⟩=false:=B4.frozen;have b7:=Hd K6;have b8:=Hd B4;have R1:=Hd r1;have d2:=Hd d1;have NB:=Hd nb;clear K6 r1 r2 r3 d1 B4 nb q4 f4 hl;gi_wp2;have k7:jae (fun b=>b=H) w6 (w6.setCell ⟨H,0,none⟩ (.slice c9 (jcq n (k+1)).length d0)):=jae.oneSet w6 ⟨H,0,none⟩ _
   refine⟨((a8.o.mono (fun _ _ h=>h.elim)).trans (b7.o.mono (fun x _ e=>?_))).trans' k7 (fun x _ e=>?_),?_⟩
   ·have:=A.o x e;show x≠_/\x≠_;omega
   ·have e:x=_:=e;show x≠_/\x≠_;omega
   ·refine⟨(c8.o.ext.trans' b7.o (fun x hx e=>by have:=A.o x e;have:=b4.o;omega)).trans' k7 (fun x hx e=>by have e:x=_:=e;have:=b4.o;omega),
     (c8.o.it.keeps b7.o (NB.o _ vO)).keeps k7 (fun e=>by omega),
     _,b8.o.set_same (i:=0) _,ja2 R1.o k7 (fun b hb e=>by have:=d2.o b hb;omega),d2.o,fun h0=>?_⟩
    rw[HX.o]at h0;simp at h0
  ·have hs:=(inlP d).small r m hm
   obtain⟨q,J,Q⟩:=(inlP d).nohash r m hm
   have HX:=Hd (show jcq n (k+1)=jcq n k by
    rw[c6.o,jdM (inlP d) hm];simp)
   have HC:=Hd ((inlP d).inl r m hm);have b9:=Hd ((inlP d).refs r m hm);have H3:=Hd J;have H4:=Hd Q;have f0:=Hd (show ∀ W,vQ 66 #[m.V] W fun e W'=>e=.returned (.slice none 0 0)/\Ext W W' from fun W=>by
    have f1:jaZ m=[]:=by
     cases d with
     | zero=>exact hm.elim
     | succ d=>exact jmC hm.1 (by rw[<-hm.2.1];exact hm.2.2.1)
    refine (e5.o r m hm W).mono ?_;rintro e W' ⟨v,rfl,E,X⟩;rw[X f1];exact⟨rfl,E.ext⟩)
   clear J Q hm;gi_wp2_with fail
   refine⟨trivial,rfl,CallsIn.mono (CallsIn.inRound l (callsIn_wide.2 (jei W r q vO H3.o))) ?_⟩
   rintro e w5 ⟨rfl,O⟩;rw[H4.o];have a8:=Hd O;clear O;unfold optV;gi_wp2_with fail
   refine⟨trivial,rfl,CallsIn.mono (CallsIn.inRound l (callsIn_wide.2 (HC.o w5))) ?_⟩
   rintro e w6 ⟨rfl,O⟩;have d3:=Hd (a8.o.trans O);clear O a8;unfold jad.V;gi_wp2_with (refine jmO Tryz.allocNode rfl rfl ?_;intro W7 d4 d5;refine jla (vs:=m.cells) rfl rfl rfl rfl d4 (by rw[m.cells_len b9.o];rfl) (by rw[m.cells_len b9.o];exact Tryz.szNode) m.one ?_;intro W8 d6 d7)
   have c0:Ext w6 W8:=d5.trans' d7 (fun x hx e=>by have e:x=w6.heap.size:=e;omega);have S8:=HS.o.st (d3.o.trans c0)
   obtain⟨v,E,X,J,Q⟩:=S8.row
   obtain⟨Z,cp,rfl⟩:=jaR X
   have d8:=jzv X;have f2:=Hd S8;have f3:=Hd d6;have H1:=Hd E;have f5:=Hd c0;have f6:=Hd d8;clear d4 d5 d7 d6 c0 S8 E X J Q d8;gi_wp2_with fail
   refine jhv [0,1,2,3,4] [4] Ext ExtR ExtT vY vY vY vY ?_;refine qL ⟨H,0,none⟩ _ rfl (fun w1 E=>jab Tryz.uStrs rfl (jaa (by exact H1.o.cell (i:=0) (v:=.slice Z (jcq n k).length cp) vF) ((jai _).trans E))) ?_;refine vS ?_;refine qL ⟨w6.heap.size,0,none⟩ _ rfl (fun w1 E=>jaq w1 _ m b9.o (f3.o.keeps ((jai _).trans E) (fun h=>h))) ?_;refine vS ?_;refine jdb _ 66 #[m.V] (.slice none 0 0) rfl vY rfl (fun w1=>jat (vX 66) vY) (fun w1 E=>f0.o w1) ?_;refine vS ?_;refine qA _ (.slice Z (jcq n k).length cp) rfl (fun w1=>jdK (jck Tryz.uStrs hi Z (jcq n k).length cp f6.o 0 w1) vY) ?_;refine vS ?_;refine qH _ rfl (fun w1 he K hK=>?_);have S9:=f2.o.st ((jai _).trans he);have d9:Ext W w1:=(d3.o.trans f5.o).trans ((jai _).trans he)
   obtain⟨v,E,X,J,Q⟩:=S9.row
   have a0:w1.cell? ⟨H,0,none⟩=some (.slice Z (jcq n k).length cp):=jaa (H1.o.cell (i:=0) (v:=.slice Z (jcq n k).length cp) vF) ((jai _).trans he);have e0:v=.slice Z (jcq n k).length cp:=by
    have:=E.cell (i:=0) (v:=v) vF
    rw[a0]at this;exact (bN this).symm
   rw[e0]at E X J Q;have q4:=a0;have f4:w1.frozen? ⟨H,0,none⟩=false:=E.frozen;have e1:=Hd S9;have b5:=Hd E;have b6:=Hd X;have A:=Hd J;have b8:=Hd Q;have f7:=Hd d9;clear S9 a0 e0 E X J Q he d9;go_simp;refine hK _ _ ?_;clear hK K q4 f4;refine qE (fun w2 he=>?_);have k7:jae (fun b=>b=H) w1 (w1.setCell ⟨H,0,none⟩ (.slice Z (jcq n k).length cp)):=jae.oneSet w1 ⟨H,0,none⟩ _;have k8:jae (fun b=>b=H) w1 w2:=k7.trans (he.mono (fun _ _ h=>h.elim))
   refine⟨(f7.o.mono (fun _ _ h=>h.elim)).trans' k8 (fun x _ e=>?_),?_⟩
   ·have e:x=_:=e;show x≠_/\x≠_;omega
   ·refine⟨e1.o.ext.trans' k8 (fun x hx e=>by have e:x=_:=e;have:=b4.o;omega),e1.o.it.keeps k8 (fun e=>by omega),.slice Z (jcq n k).length cp,(b5.o.set_same (i:=0) _).keeps he (fun h=>h),?_⟩
    rw[HX.o]
    exact⟨ja2 b6.o k8 (fun b hb e=>by have:=A.o b hb;omega),A.o,b8.o⟩
 case hdone =>
  intro W hS hd
  obtain⟨v,E,X,J,Q⟩:=hS.row
  rw[jrR]at X Q
  obtain⟨Z,cp,rfl⟩:=jaR X
  have q4:W.cell? ⟨H,0,none⟩=some (.slice Z (jaZ n).length cp):=E.cell (i:=0) vF;have HS:=Hd hS;have HR:=Hd (show ORow 9 1 w W (.slice Z (jaZ n).length cp) (jaZ n).length ((jaZ n).map Value.string)from⟨⟨_,_,rfl⟩,X,hS.ext,fun b hb=>by have:=J b hb;have:=a4.o;omega⟩);have H3:=Hd J;have H4:=Hd Q;have HD:=Hd hd;clear hS E X J Q hd;gi_wp2
  refine⟨by simp,.inl ⟨_,_,rfl,run_takeDeferred HD.o,?_⟩⟩
  refine⟨.slice Z (jaZ n).length cp,by simp[results,Tryz.results66,go_sem],(HQ.o _ _).2 ⟨HR.o.keeps (jae.onePut W w3.heap.size (.deferred none)) (fun b hb e=>by have:=H3.o b hb;omega) (fun b hb e=>by have:=a4.o;omega),H4.o⟩⟩
 case hstop=>intro c k W _ _ h;exact h.elim
theorem jou:∀ (d:Nat) (n:jad),jbI (InlD d) n->∀ w,vQ 66 #[n.V] w (jtK w n)
 | 0,n,h,w=>jiE 0 n h (fun _ _ e=>e.elim) w
 | d+1,n,h,w=>jiE (d+1) n h (fun r m e w=>jou d m e.1 w) w
end
section
open Classical in
noncomputable def nodeOf(t:vB):jad:=if h:∃ n,jbC t n then h.choose else jav
theorem jci{t:vB}{n:jad}(h:jbC t n):jbC t (nodeOf t):=by
 unfold nodeOf;have e:∃ n,jbC t n:=⟨n,h⟩;rw[dif_pos e];exact e.choose_spec
theorem jiD{t:vB}{n:jad}(h:jbC t n):(jaZ n).length<=16:=by
 obtain⟨_,g,e⟩:=h
 have:=(e.one (inlP g)).refs
 unfold jaZ;have m:=List.length_filterMap_le jcL n.refs;omega
theorem jqa{L:vM}(h:L.Nodup){i:Nat}{t:vB}(ht:L[i]?=some t):t ∉ L.take i:=fun m=>by
 obtain⟨k,E,e⟩:=List.mem_take_iff_getElem.1 m
 obtain⟨o,A⟩:=bO.1 ht
 exact gP.1 h k i vO o vO (e.trans A.symm)
theorem jnP{P:Program}{t T:TypeId}{sz by':Nat}(I:jd3 P t T sz by'){ops:Array Oper}{rest:List Oper}{d:Option Tmp}{ty:TypeId}{pos:String}{af:Array Edge}{a:Act}{w:vW}{Q:Exit->Act->vW->Prop}{s x:Operand}{base:Option Addr}{n c c2:Nat}
  (hs:a.eval s=.slice base n c) (hx:a.eval x=.slice none 0 c2) (hle:n<=c) (h:wpList P ops Q rest (a.put d (.slice base n c)) w) :
  wpList P ops Q (⟨d,.call { callee:=.builtin .append,args:=#[s,x],argTypes:=#[t,t] },ty,pos,af,none⟩ :: rest) a w:=by
 obtain⟨i,z,e,_⟩:=I.hi
 exact wpList_plain rfl fun K m=>jcu (jdK (jck I.ht e base n c hle c2 w) (by simp[hs,hx])) (m _ _ h)
end
def inB(l:vM)(s:vB):Bool:=memB l s
theorem jrZ{l:vM}{s:vB}(h:s∈l):inB l s=true:=(jc0 l s).2 h
theorem jv8{l:vM}{s:vB}(h:s ∉ l):inB l s=false:=by
 rw[dC];exact fun e=>h ((jc0 l s).1 e)
def jAc(w:vW)(l:vM)(s:vB)(iv:vV)(wr:vW):Prop:=∃ i:Nat,i<=l.length/\iv=.int .i64 i/\Ext w wr/\s ∉ l.take i
theorem in_c(w:vW)(v:vV)(l:vM)(s:vB)(hv:RdS w v l)(hn:l.length<=1000000) :
  vR 48 #[v,.string s] w (.bool (inB l s)):=by
 obtain⟨a,c,J,K⟩:=hv.slice
 have HV:=Hd hv;subst J;clear hv K
 obtain⟨R,O⟩:=vE (inB l s)
 rw[<-O];have HR:=Hd O;clear O;go_enter Tryz.func48,Tryz.ntmps48;go_wp2_with fail
 go_loopw [5] (fun Q wr=>jAc w l s Q wr) (fun Q _=>l.length - (intOf Q).toNat)
 case atStart=>exact⟨0,by omega,rfl,ExtR w,by simp⟩
 case round =>
  obtain⟨i,hi,rfl,hE,m⟩:=hrel
  have H:=Hd hE;have A:=Hd m;clear hE m
  by_cases hlt:i < l.length
  ·have b1:(i:Int) < (l.length:Int):=vO
   obtain⟨x,X⟩:∃ x,l[i]?=some x:=⟨_,bA hlt⟩
   rcases HV.o with⟨_,_,_,h0⟩ |⟨b,o,c1,hh,hb,hc,hcell⟩
   ·rw[h0]at hlt;cases hlt
   cases hh;have q1:=jaa (hcell i x X) H.o;have HX:=Hd X;clear hcell hb hc X;have E:=jhX x s
   by_cases hxs:x=s
   ·rw[decide_eq_true hxs]at E
    have Z:=Hd (show R=true by rw[HR.o];exact jrZ (by rw[<-hxs];exact bE HX.o));clear hxs;go_wp2_with fail
    go_ret
    exact⟨by rw[Z.o];rfl,H.o⟩
   ·rw[decide_eq_false hxs]at E
    have HG:=Hd (show s ∉ l.take (i+1) by
     rw[bS,HX.o];intro e;rcases bW.1 e with e | e
     ·exact A.o e
     ·simp at e;exact hxs e.symm)
    clear hxs;go_wp2_with fail
    go_roundw
    case rel=>exact⟨i+1,by omega,by go_num,H.o,HG.o⟩
    case measure=>exact vJ
  ·have b1:¬(i:Int) < (l.length:Int):=vO
   have Z:=Hd (show R=false by rw[HR.o];refine jv8 ?_;have:=A.o;rwa [bQ vO]at this);go_wp2_with fail
   go_ret
   exact⟨by rw[Z.o];rfl,H.o⟩
section
attribute [local go_sem] Oper.semAt_some
def jld(l:vL)(B:vL->PT):Prop:=∀ (w0 w:vW) (lv v:vV) (n:Nat) (acc:vM),RdP w lv l->SRow w0 w v n acc->acc.length+(jaA (jar B l)).length<=900000 ->
 vQ 41 #[lv,v] w fun e w'=>∃ u n',e=.returned u/\SRow w0 w' u n' (belF B l acc)/\jae (fun b=>v.ownBlock=some b) w w'/\(u.ownBlock=v.ownBlock\/∀ b,u.ownBlock=some b->w.heap.size<=b)
theorem jn1(l:vL)(B:vL->PT)(hl:l.length < 2):jld l B:=by
 intro w0 w H v n e A m _;have hb:belF B l e=e:=by unfold belF jar;rw[if_pos vO];rfl
 rw[hb]
 obtain⟨J,K,rfl⟩:=A.sl
 obtain⟨O,Q,rfl⟩:=m.sl;have E:=Hd m;have X:(l.length:Int) < 2:=vO
 clear A hb m;go_enter Tryz.func41,Tryz.ntmps41;go_wp2_with fail
 go_ret
 exact⟨_,_,rfl,E.o,jae.refl _ _,.inl rfl⟩
end
end Go.Proofs.YtegloohdmjadoaaGreatDoor
