/- Lemmas; each is under no condition but those that it states. -/
import Derived.Test.YtfjmkebdhojanaaGreatDoorPt13
namespace Go.Proofs.YtfjmkebdhojanaaGreatDoor
set_option linter.unusedSimpArgs false
set_option linter.unusedVariables false
set_option maxRecDepth 100000
set_option maxHeartbeats 16000000
open Go Go.RowKit
section
attribute [local go_sem] Oper.semAt_some
theorem jgf:∀ (l:vM) (i:Nat),((jax i l).filterMap fun x=>jcP x.2)=l.filterMap jcP
 | [],_=>rfl
 | x :: l,i=>by
  unfold jax
  by_cases h:x.size=0
  ·rw[if_pos h,jgf l,gF,jby h,jfj]
  ·rw[if_neg h,gF,gF,jgf l]
def jcu(n:jad)(k:Nat):vM:=(n.refsL.take k).filterMap fun x=>jcP x.2
theorem jso(n:jad):jcu n n.refsL.length=jaL n:=by
 unfold jcu;rw[cL];exact jgf _ _
theorem jqD(n:jad){k:Nat}(hk:k < n.refsL.length):jcu n (k+1)=jcu n k++(jcP (n.rr k)).toList:=by
 unfold jcu;rw[cX hk,List.filterMap_append]
 congr 1
 have:n.rr k=(n.refsL[k]).2:=by simp[jad.rr,bH,hk]
 rw[this,gF];cases jcP (n.refsL[k]).2 <;> rfl
theorem jsp(n:jad)(k:Nat):(jcu n k).length<=n.refs.length:=by
 have o:∀ (l:vM) (i:Nat),(jax i l).length<=l.length:=by
  intro l;induction l with
  | nil=>intro i;simp[jax]
  | cons x r ih=>intro i;unfold jax;split <;> simp <;> have:=ih (i+1) <;> omega
 have A:=o n.refs 0;unfold jcu;have e:=iT (fun x:Nat × vB=>jcP x.2) (n.refsL.take k);rw[cI]at e
 have:n.refsL=jax 0 n.refs:=rfl
 rw[this]at e ⊢;omega
theorem jpr{x:vB}{l:vM}(h:x∈l):x.size<=(ja7 l).size:=bJ (jhP l x h) (jkQ l)
theorem jpp{d:Nat}{r:vB}(h:MayP (InlD d) r)(hs:r.size < 32):jcP r=none:=by
 rcases h with h |⟨m,h⟩
 ·have:=h.size;omega
 ·exact jdS (inlP d) h
theorem jnb{d:Nat}{n:jad}(h:jbS (InlD d) n)(hs:(jaQ n).size < 32):jaL n=[]:=by
 unfold jaL;cases h with
 | none=>exact jeq 16
 | leaf p v h1 h2 h3=>exact jeq 16
 | ext p r h1 h2 h3 =>
  show (r :: jan 15).filterMap jcP=[];have o:r.size < 32:=by
   have e:jaQ ⟨2,p,⟨#[]⟩,r :: jan 15⟩=ja7 [jao (putB p false),r]:=rfl
   have:=jpr (x:=r) (l:=[jao (putB p false),r]) (by simp)
   rw[e]at hs;omega
  rw[gF,jeq,jpp (h3.imp id fun ⟨m,h,_⟩=>⟨m,h⟩) o]
 | branch v rs h1 h2 h3 h4 =>
  show rs.filterMap jcP=[];rw[List.filterMap_eq_nil_iff];intro r o
  by_cases h0:r.size=0
  ·rw[jby h0,jfj]
  ·have e:jaQ ⟨3,⟨#[]⟩,v,rs⟩=ja7 (ja3 rs v):=by
    show ja7 (jbP _)=_;rw[jdD _ h1]
   have A:r∈ja3 rs v:=by
    unfold ja3;refine bU.2 (.inl (bK.2 ⟨r,o,?_⟩));rw[if_neg h0]
   have:=jpr A
   rw[e]at hs;exact jpp (h3 r o h0) vO
theorem jAc{w:vW}{B:Nat}{T:TypeId}{sz:Nat}{ad:Option Addr}{n cp:Nat}{xs:List vV}(h:w.ownsRow B T sz (.slice ad n cp) n xs):n<=cp:=by
 obtain⟨_,⟨e,o⟩ |⟨g,A,E,e,o,H,J,_⟩⟩:=h
 ·omega
 ·obtain⟨_,_,K⟩:=cN e;omega
structure HsS(w:World)(g3 gi m:Nat)(n:jad)(k:Nat)(W:World):Prop where
 ext:Ext w W
 it:Blk W gi (.cells n.cells.toArray 172)
 row:∃ v,Blk W g3 (.cells #[v] 31)/\W.ownsRow 0 9 1 v (jcu n k).length ((jcu n k).map Value.string)/\(∀ b,v.ownBlock=some b->m+2<=b)/\(jcu n k=[]->v=.slice none 0 0)
theorem HsS.st{w:vW}{g3 gi m:Nat}{n:jad}{k:Nat}{W W':vW}(h:HsS w g3 gi m n k W)(e:Ext W W'):HsS w g3 gi m n k W':=
 let ⟨v,h1,h2,h3,h4⟩:=h.row
 ⟨h.ext.trans e,h.it.keeps e (fun h=>h),v,h1.keeps e (fun h=>h),jbq h2 e,h3,h4⟩
theorem HsS.put{w:vW}{g3 gi m:Nat}{n:jad}{k:Nat}{W:vW}(h:HsS w g3 gi m n k W){r:Nat}(hr:w.heap.size<=r)(h1:g3 < r)(h1':gi < r)(h2:r < m+2)(o:Obj):HsS w g3 gi m n k (W.putObj r o):=
 let ⟨v,h3,h4,h5,h6⟩:=h.row
 ⟨h.ext.putObj (.inr hr) _,h.it.put_other vO _,v,h3.put_other vO _,ja8 h4 (jae.onePut W r o) (fun b hb e=>by have:=h5 b hb;omega),h5,h6⟩
def jup(w:vW)(n:jad)(e:Ending)(w':vW):Prop:=∃ v,e=.returned v/\SRow w w' v (jaL n).length (jaL n)/\(jaL n=[]->v=.slice none 0 0)
theorem jpc{I:vB->jad->Prop}{n:jad}(h:jbS I n):∀ r∈n.refs,r.size≠0->MayP I r:=by
 have A:∀ r∈jan 16,r.size≠0->MayP I r:=fun r E e=>by rw[gB E]at e;exact absurd rfl e
 cases h with
 | none=>exact A
 | leaf p v h1 h2 h3=>exact A
 | ext p r h1 h2 h3 =>
  intro x o e;rcases bM.1 o with rfl | o
  ·exact h3.imp id fun ⟨m,h,_⟩=>⟨m,h⟩
  ·rw[gB o]at e;exact absurd rfl e
 | branch v rs h1 h2 h3 h4=>exact h3
theorem jiH(d:Nat)(n:jad)(h:jbS (InlD d) n)(ih:∀ r m,InlD d r m->∀ w,vQ 51 #[m.V] w (jup w m))(w:vW):vQ 51 #[n.V] w (jup w n):=by
 have hr:=(h.one (inlP d)).refs
 obtain⟨i0,hi,e2,e3,e4⟩:=info_parts Tryz.infoStr
 have HV:=Hd (fun w=>jlr (inlP d) w n h);have HM:=Hd (jpc h);have e5:=Hd ih;have HQ:=Hd (show ∀ (v:vV) W',jup w n (.returned v) W'↔(SRow w W' v (jaL n).length (jaL n)/\(jaL n=[]->v=.slice none 0 0))from fun v W'=>⟨fun ⟨_,e,h⟩=>by cases e;exact h,fun h=>⟨v,rfl,h⟩⟩);have a9:=jaq (w.alloc (.cells n.cells.toArray 103)) _ n hr (Blk.new w _);clear h ih;unfold jad.V at a9 ⊢;refine (callsIn_wide (n:=0)).1 ?_;refine callsIn_of_wp_marks Tryz.func51 rfl trivial ?_ rfl;simp only[Tryz.ntmps51,dK,bF,cF,Nat.reduceAdd,Nat.reduceSub,dP,dO,fC,dY,cT,dA];gi_wp2_with (refine jbx rfl 103 (.tmp 1) rfl _ _ rfl a9 ?_)
 refine⟨trivial,rfl,CallsIn.mono (callsIn_wide.2 (HV.o _)) ?_⟩
 rintro e w1 ⟨rfl,O⟩;have b0:=(Blk.new w (.cells n.cells.toArray 103)).keeps O (fun h=>h);have b1:=Hd (((ExtR w).alloc _).trans O)
 obtain⟨W2,a3⟩:=vE (w1.alloc (.cells #[.slice none 0 0] 31))
 have c1:=Hd a3;have c2:Blk W2 w.heap.size (.cells n.cells.toArray 103):=by rw[a3];exact b0.alloc _
 have A:=Hd (show Blk W2 w1.heap.size (.cells #[.slice none 0 0] 31) by rw[a3];exact Blk.new w1 _);have c3:=Hd (show Ext w W2 by rw[a3];exact b1.o.alloc _);have a1:=jaq W2 _ n hr c2;have e6:=b0.lt;rw[a3]at a1;clear a9 O b0 a3 c2;unfold jad.V at a1;gi_wp2_with (refine jbx rfl 103 (.tmp 1) rfl _ _ rfl a1 ?_)
 rw[<-c1.o]
 refine⟨trivial,rfl,CallsIn.mono (callsIn_wide.2 (jpL W2 n)) ?_⟩
 rintro e w3 ⟨rfl,a7,O⟩;have a5:=A.o.lt
 obtain⟨gi,c4⟩:∃ g,g=W2.heap.size:=⟨_,rfl⟩
 obtain⟨H,a2⟩:∃ g,g=w1.heap.size:=⟨_,rfl⟩
 rw[<-a2]at A a5 e6;rw[<-c4]at a7 a5 ⊢;rw[<-a2];have S0:HsS w H gi w3.heap.size n 0 w3:=⟨c3.o.trans O,a7,_,A.o.keeps O (fun h=>h),fV _ _ _ _,(fun b hb=>by cases hb),(fun _=>rfl)⟩;have f8:=a7.lt;have e7:=b1.o.size;have e8:=Hd S0;have a4:=Hd (show w.heap.size<=H by omega);clear a1 a7 O b1 c1 A c3 S0 e7 c4 a2;gi_wp2_with fail
 refine jeD (N:=n.refsL.length) (gf:=122) (lb:=#[.pointer (some ⟨gi,0,none⟩)]) rfl (vX 122) (jld gi n hr)
  (fun k=>rfl) (HsS w H gi w3.heap.size n) (fun _ _ _=>False) (fun k W W' h e=>h.st e) (fun _ _ _ _ h _=>h) (fun k W h=>h.it)
  (fun k W o h=>h.put (by have:=a4.o;omega) vO vO vO _)
  (fun k W o h=>h.put (by have:=a4.o;omega) vO vO vO _) (fun _ _ _ _ h=>h)
  e8.o (fun k=>{ tmps:=#[.agg n.cells.toArray,.pointer (some ⟨w.heap.size,0,none⟩),.slice none 0 0,.pointer (some ⟨H,0,none⟩),undef,.string (n.rr k),undef,undef,undef,undef,.agg n.cells.toArray,.bool true,.bool false,.agg n.cells.toArray,.func (.func 122) #[] #[.pointer (some ⟨gi,0,none⟩)],.int .i64 (n.ri k:Nat),.string (n.rr k),undef,undef,undef,undef,undef,undef,undef,undef,undef,undef,undef,undef,undef,undef,undef,undef,undef,undef,undef,undef],defers:=[] })
  ?hassign ?hbody ?hdone ?hstop
 case hassign =>
  intro l j W K hK;rw[jwc,jsh];simp only[dL,dG];gi_wp2;exact hK
 case hbody =>
  intro l k W hk hS f9;have b2:=jv8 n hr hk;have a6:=HM.o _ (bI b2.2.1) b2.2.2;have b3:=jqD n hk;have e9:=jsp n k;rw[hr]at e9
  obtain⟨r,c5⟩:=vE (n.rr k)
  rw[<-c5]at a6 b3 ⊢;have HS:=Hd hS;have c6:=Hd b3;have c7:=a4.o;have b4:=Hd c7;clear hS b2 b3 c5 c7;rcases a6 with hh |⟨m,hm⟩
  ·obtain⟨hs,x,q,J,Q⟩:=hh.known
   have HX:=Hd (show jcu n (k+1)=jcu n k++[x] by
    rw[c6.o];unfold jcP;rw[J];show _++(jfi r q).toList=_;rw[Q];rfl)
   have H3:=Hd J;have H4:=Hd Q;clear J Q hh;gi_wp2_with fail
   refine⟨trivial,rfl,CallsIn.mono (CallsIn.inRound l (callsIn_wide.2 (je3 W r q hs H3.o))) ?_⟩
   rintro e w5 ⟨rfl,O⟩;rw[H4.o];have S5:=HS.o.st O
   obtain⟨v,E,X,J,Q⟩:=S5.row
   obtain⟨Z,cp,rfl⟩:=jaU X
   have q4:w5.cell? ⟨H,0,none⟩=some (.slice Z (jcu n k).length cp):=E.cell (i:=0) vF;have f4:w5.frozen? ⟨H,0,none⟩=false:=E.frozen;have g0:=O.size;have c8:=Hd S5;have a8:=Hd O;have b5:=Hd E;have b6:=Hd X;have A:=Hd J;clear S5 E X J Q O;unfold optV;gi_wp2_with (gi_at_builtin;refine jb5 _ rfl (.tmp 23) (.tmp 25) 31 rfl 9 i0 _ 1 16 Tryz.uStrs hi e2 e3 e4 rfl vI (.slice Z (jcu n k).length cp) (jcu n k).length _ rfl (jbq b6.o ((ExtR w5).alloc _)) ⟨w5.heap.size,0,none⟩ 1 1 [.string x] rfl rfl (jaJ (Blk.new w5 _)) (by simp[Value.oneCell']) (by unfold maxLen;omega) vO ?_)
   intro v' w6 r1 r2 r3;have K6:jae (fun b=>(Value.slice Z (jcu n k).length cp).ownBlock=some b) w5 w6:=((jae.refl _ w5).alloc _).trans r2;have hl:(jcu n (k+1)).length=(jcu n k).length+1:=by rw[HX.o];simp
   have r1:w6.ownsRow 0 9 1 v' (jcu n (k+1)).length ((jcu n (k+1)).map Value.string):=by
    rw[hl,HX.o,cB];exact r1
   have nb:∀ b,b < w3.heap.size+2->¬(Value.slice Z (jcu n k).length cp).ownBlock=some b:=fun b hb e=>by have:=A.o b e;omega
   obtain⟨c9,d0,rfl⟩:=jaU r1
   have d1:∀ b,(Value.slice c9 (jcu n (k+1)).length d0).ownBlock=some b->w3.heap.size+2<=b:=fun b hb=>by
    rcases r3 with r3 | r3
    ·exact A.o b (r3 ▸ hb)
    ·have:=r3 b hb;first | omega |(simp at this;omega)
   have B4:=b5.o.keeps K6 (nb _ vO);have g1:w6.cell? ⟨H,0,none⟩=some (.slice Z (jcu n k).length cp):=B4.cell (i:=0) vF;have g2:w6.frozen? ⟨H,0,none⟩=false:=B4.frozen;have b7:=Hd K6;have b8:=Hd B4;have R1:=Hd r1;have d2:=Hd d1;have NB:=Hd nb;clear K6 r1 r2 r3 d1 B4 nb q4 f4 hl;gi_wp2;have k7:jae (fun b=>b=H) w6 (w6.setCell ⟨H,0,none⟩ (.slice c9 (jcu n (k+1)).length d0)):=jae.oneSet w6 ⟨H,0,none⟩ _
   refine⟨((a8.o.mono (fun _ _ h=>h.elim)).trans (b7.o.mono (fun x _ e=>?_))).trans' k7 (fun x _ e=>?_),?_⟩
   ·have:=A.o x e;show x≠_/\x≠_;omega
   ·have e:x=_:=e;show x≠_/\x≠_;omega
   ·refine⟨(c8.o.ext.trans' b7.o (fun x hx e=>by have:=A.o x e;have:=b4.o;omega)).trans' k7 (fun x hx e=>by have e:x=_:=e;have:=b4.o;omega),
     (c8.o.it.keeps b7.o (NB.o _ vO)).keeps k7 (fun e=>by omega),
     _,b8.o.set_same (i:=0) _,ja8 R1.o k7 (fun b hb e=>by have:=d2.o b hb;omega),d2.o,fun h0=>?_⟩
    rw[HX.o]at h0;simp at h0
  ·have hs:=(inlP d).small r m hm
   obtain⟨q,J,Q⟩:=(inlP d).nohash r m hm
   have HX:=Hd (show jcu n (k+1)=jcu n k by
    rw[c6.o,jdS (inlP d) hm];simp)
   have HC:=Hd ((inlP d).inl r m hm);have b9:=Hd ((inlP d).refs r m hm);have H3:=Hd J;have H4:=Hd Q;have f0:=Hd (show ∀ W,vQ 51 #[m.V] W fun e W'=>e=.returned (.slice none 0 0)/\Ext W W' from fun W=>by
    have f1:jaL m=[]:=by
     cases d with
     | zero=>exact hm.elim
     | succ d=>exact jnb hm.1 (by rw[<-hm.2.1];exact hm.2.2.1)
    refine (e5.o r m hm W).mono ?_;rintro e W' ⟨v,rfl,E,X⟩;rw[X f1];exact⟨rfl,E.ext⟩)
   clear J Q hm;gi_wp2_with fail
   refine⟨trivial,rfl,CallsIn.mono (CallsIn.inRound l (callsIn_wide.2 (je3 W r q vO H3.o))) ?_⟩
   rintro e w5 ⟨rfl,O⟩;rw[H4.o];have a8:=Hd O;clear O;unfold optV;gi_wp2_with fail
   refine⟨trivial,rfl,CallsIn.mono (CallsIn.inRound l (callsIn_wide.2 (HC.o w5))) ?_⟩
   rintro e w6 ⟨rfl,O⟩;have d3:=Hd (a8.o.trans O);clear O a8;unfold jad.V;gi_wp2_with (refine jnn Tryz.allocNode rfl rfl ?_;intro W7 d4 d5;refine jlu (vs:=m.cells) rfl rfl rfl rfl d4 (by rw[m.cells_len b9.o];rfl) (by rw[m.cells_len b9.o];exact Tryz.szNode) m.one ?_;intro W8 d6 d7)
   have c0:Ext w6 W8:=d5.trans' d7 (fun x hx e=>by have e:x=w6.heap.size:=e;omega);have S8:=HS.o.st (d3.o.trans c0)
   obtain⟨v,E,X,J,Q⟩:=S8.row
   obtain⟨Z,cp,rfl⟩:=jaU X
   have d8:=jAc X;have f2:=Hd S8;have f3:=Hd d6;have H1:=Hd E;have f5:=Hd c0;have f6:=Hd d8;clear d4 d5 d7 d6 c0 S8 E X J Q d8;gi_wp2_with fail
   refine jhB [0,1,2,3,4] [4] Ext ExtR ExtT vY vY vY vY ?_;refine qL ⟨H,0,none⟩ _ rfl (fun w1 E=>jab Tryz.uStrs rfl (jaa (by exact H1.o.cell (i:=0) (v:=.slice Z (jcu n k).length cp) vF) ((jai _).trans E))) ?_;refine vS ?_;refine qL ⟨w6.heap.size,0,none⟩ _ rfl (fun w1 E=>jaq w1 _ m b9.o (f3.o.keeps ((jai _).trans E) (fun h=>h))) ?_;refine vS ?_;refine jdb _ 51 #[m.V] (.slice none 0 0) rfl vY rfl (fun w1=>jat (vX 51) vY) (fun w1 E=>f0.o w1) ?_;refine vS ?_;refine qA _ (.slice Z (jcu n k).length cp) rfl (fun w1=>jdQ (jcm Tryz.uStrs hi Z (jcu n k).length cp f6.o 0 w1) vY) ?_;refine vS ?_;refine qH _ rfl (fun w1 he K hK=>?_);have S9:=f2.o.st ((jai _).trans he);have d9:Ext W w1:=(d3.o.trans f5.o).trans ((jai _).trans he)
   obtain⟨v,E,X,J,Q⟩:=S9.row
   have a0:w1.cell? ⟨H,0,none⟩=some (.slice Z (jcu n k).length cp):=jaa (H1.o.cell (i:=0) (v:=.slice Z (jcu n k).length cp) vF) ((jai _).trans he);have e0:v=.slice Z (jcu n k).length cp:=by
    have:=E.cell (i:=0) (v:=v) vF
    rw[a0]at this;exact (bO this).symm
   rw[e0]at E X J Q;have q4:=a0;have f4:w1.frozen? ⟨H,0,none⟩=false:=E.frozen;have e1:=Hd S9;have b5:=Hd E;have b6:=Hd X;have A:=Hd J;have b8:=Hd Q;have f7:=Hd d9;clear S9 a0 e0 E X J Q he d9;go_simp;refine hK _ _ ?_;clear hK K q4 f4;refine qE (fun w2 he=>?_);have k7:jae (fun b=>b=H) w1 (w1.setCell ⟨H,0,none⟩ (.slice Z (jcu n k).length cp)):=jae.oneSet w1 ⟨H,0,none⟩ _;have k8:jae (fun b=>b=H) w1 w2:=k7.trans (he.mono (fun _ _ h=>h.elim))
   refine⟨(f7.o.mono (fun _ _ h=>h.elim)).trans' k8 (fun x _ e=>?_),?_⟩
   ·have e:x=_:=e;show x≠_/\x≠_;omega
   ·refine⟨e1.o.ext.trans' k8 (fun x hx e=>by have e:x=_:=e;have:=b4.o;omega),e1.o.it.keeps k8 (fun e=>by omega),.slice Z (jcu n k).length cp,(b5.o.set_same (i:=0) _).keeps he (fun h=>h),?_⟩
    rw[HX.o]
    exact⟨ja8 b6.o k8 (fun b hb e=>by have:=A.o b hb;omega),A.o,b8.o⟩
 case hdone =>
  intro W hS hd
  obtain⟨v,E,X,J,Q⟩:=hS.row
  rw[jso]at X Q
  obtain⟨Z,cp,rfl⟩:=jaU X
  have q4:W.cell? ⟨H,0,none⟩=some (.slice Z (jaL n).length cp):=E.cell (i:=0) vF;have HS:=Hd hS;have HR:=Hd (show ORow 9 1 w W (.slice Z (jaL n).length cp) (jaL n).length ((jaL n).map Value.string)from⟨⟨_,_,rfl⟩,X,hS.ext,fun b hb=>by have:=J b hb;have:=a4.o;omega⟩);have H3:=Hd J;have H4:=Hd Q;have HD:=Hd hd;clear hS E X J Q hd;gi_wp2
  refine⟨by simp,.inl ⟨_,_,rfl,run_takeDeferred HD.o,?_⟩⟩
  refine⟨.slice Z (jaL n).length cp,by simp[results,Tryz.results51,go_sem],(HQ.o _ _).2 ⟨HR.o.keeps (jae.onePut W w3.heap.size (.deferred none)) (fun b hb e=>by have:=H3.o b hb;omega) (fun b hb e=>by have:=a4.o;omega),H4.o⟩⟩
 case hstop=>intro c k W _ _ h;exact h.elim
theorem jkM:∀ (d:Nat) (n:jad),jbS (InlD d) n->∀ w,vQ 51 #[n.V] w (jup w n)
 | 0,n,h,w=>jiH 0 n h (fun _ _ e=>e.elim) w
 | d+1,n,h,w=>jiH (d+1) n h (fun r m e w=>jkM d m e.1 w) w
end
section
theorem RdS.take{w:vW}{a:Option Addr}{c:Nat}{l:vM}(h:RdS w (.slice a l.length c) l){i:Nat}(hi:i<=l.length):RdS w (.slice a i c) (l.take i):=by
 by_cases h0:i=0
 ·subst h0;exact .inl ⟨a,c,rfl,rfl⟩
 rcases h with⟨_,_,_,h1⟩ |⟨b,o,c1,h1,h2,h3,h4⟩
 ·rw[h1]at hi;exact absurd (by simpa using hi) h0
 ·obtain⟨A,_,E⟩:=cN h1
  refine .inr ⟨b,o,c,by rw[A,cI];congr 1;omega,h2,by rw[cI];omega,fun j x e=>h4 j x ?_⟩;rw[List.getElem?_take]at e;split at e
  ·exact e
  ·cases e
open Classical in
noncomputable def nodeOf(t:vB):jad:=if h:∃ n,jbs t n then h.choose else jaH
theorem jdm{t:vB}{n:jad}(h:jbs t n):jbs t (nodeOf t):=by
 unfold nodeOf;have e:∃ n,jbs t n:=⟨n,h⟩;rw[dif_pos e];exact e.choose_spec
theorem jiG{t:vB}{n:jad}(h:jbs t n):(jaL n).length<=16:=by
 obtain⟨_,g,e⟩:=h
 have:=(e.one (inlP g)).refs
 unfold jaL;have o:=iT jcP n.refs;omega
theorem RdS.cap{w:vW}{a:Option Addr}{n c:Nat}{xs:vM}(h:RdS w (.slice a n c) xs):xs.length<=c:=by
 rcases h with⟨_,_,_,h1⟩ |⟨b,o,c1,h1,_,h2,_⟩
 ·rw[h1];exact cD _
 ·obtain⟨_,_,e⟩:=cN h1;omega
theorem jj1{L:vM}(h:L.Nodup){i:Nat}{t:vB}(ht:L[i]?=some t):t ∉ L.take i:=fun o=>by
 obtain⟨k,H,e⟩:=List.mem_take_iff_getElem.1 o
 obtain⟨A,E⟩:=bP.1 ht
 exact gV.1 h k i vO A vO (e.trans E.symm)
theorem jeX{P:Program}{t T:TypeId}{sz by':Nat}(I:jdv P t T sz by'){ops:Array Oper}{rest:List Oper}{d:Option Tmp}{ty:TypeId}{pos:String}{af:Array Edge}{a:Act}{w:vW}{Q:Exit->Act->vW->Prop}{s x:Operand}{base:Option Addr}{n c c2:Nat}
  (hs:a.eval s=.slice base n c) (hx:a.eval x=.slice none 0 c2) (hle:n<=c) (h:wpList P ops Q rest (a.put d (.slice base n c)) w) :
  wpList P ops Q (⟨d,.call { callee:=.builtin .append,args:=#[s,x],argTypes:=#[t,t] },ty,pos,af,none⟩ :: rest) a w:=by
 obtain⟨i,z,e,_⟩:=I.hi
 exact wpList_plain rfl fun K o=>jcd (jdQ (jcm I.ht e base n c hle c2 w) (by simp[hs,hx])) (o _ _ h)
end
theorem jmC(w:vW)(v:vV)(l:vL)(hv:RdP w v l)(hn:l.length<=9223372036854775807)(hs:∀ p∈l,p.1.size<=9223372036854775807/\p.2.size<=9223372036854775807)(h:jaz l≠0):vR 17 #[v] w (.tuple #[.slice none 0 0,.int .i64 (jaz l)]):=by
 have A:=jg8 w v l hv hn hs
 obtain⟨a,c,rfl⟩:=hv.sl
 obtain⟨x,E⟩:=vE (jaz l)
 rw[<-E]at h A ⊢;have J:(x == 0)=false:=by simpa using h
 have K:=Hd A;clear A hv E hs;refine (callsIn_wide (n:=0)).1 ?_;refine callsIn_of_wp_marks Tryz.func17 rfl trivial ?_ rfl;simp only[Tryz.ntmps17,dK,bF,cF,Nat.reduceAdd,Nat.reduceSub,dP,dO,fC,dY,cT,dA];gi_wp2_with fail
 refine⟨trivial,rfl,CallsIn.mono (callsIn_wide.2 K.o) ?_⟩
 rintro e w1 ⟨rfl,H⟩;have O:=Hd H;clear H;gi_wp2_with fail
 refine⟨_,results_tmp2 rfl _ _ _,?_⟩
 exact⟨rfl,O.o⟩
def jfw(p:Pair):Bool:=decide (p.1.size<=20) && decide (p.2.size<=100)
def fewB(l:vL):Bool:=l.all jfw && decide (l.length<=45)
def jAO(w:vW)(l:vL)(i:vV)(wr:vW):Prop:=∃ k:Nat,k<=l.length/\k<=46/\i=.int .i64 k/\Ext w wr/\(l.take k).all jfw=true
theorem jux{l:vL}{k:Nat}{p:Pair}(h:l[k]?=some p):(l.take (k+1)).all jfw=((l.take k).all jfw && jfw p):=by
 rw[bW,h,List.all_append];simp
theorem jrq{l:vL}{k:Nat}{p:Pair}(h:l[k]?=some p)(hb:jfw p=false):fewB l=false:=by
 unfold fewB
 have:l.all jfw=false:=by
  rw[gD];intro e
  have:=fH.1 e p (bI h)
  rw[hb]at this;cases this
 rw[this];rfl
theorem jwJ(w:vW)(v:vV)(l:vL)(hv:RdP w v l)(hn:l.length<=9223372036854775807)(hs:∀ p∈l,p.1.size<=9223372036854775807/\p.2.size<=9223372036854775807) :
  vR 16 #[v] w (.bool (fewB l)):=by
 have HV:=Hd hv;have HS:=Hd hs
 obtain⟨a,c,rfl⟩:=hv.sl;clear hv hs
 obtain⟨R,Q⟩:=vE (fewB l)
 rw[<-Q];have K:=Hd Q;clear Q;go_enter Tryz.func16,Tryz.ntmps16;go_wp2_with fail
 go_loopw [3] (fun i wr=>jAO w l i wr) (fun i _=>l.length - (intOf i).toNat)
 case atStart=>exact⟨0,by omega,by omega,rfl,ExtR w,rfl⟩
 case round =>
  obtain⟨k,hk,a1,rfl,hE,e⟩:=hrel
  have E:=Hd hE;have H:=Hd e;clear hE e
  by_cases hlt:k < l.length
  ·have b1:(k:Int) < (l.length:Int):=vO
   by_cases h45:k<=45
   ·have X:(k:Int)<=45:=vO
    obtain⟨p,O⟩:∃ p,l[k]?=some p:=⟨_,bA hlt⟩
    rcases HV.o with⟨_,_,_,h0⟩ |⟨b,o,c1,hh,hb,hc,hcell⟩
    ·rw[h0]at hlt;cases hlt
    cases hh
    obtain⟨Z,q2⟩:=hcell k p O
    have Z:=jaa Z E.o;have q2:=jaa q2 E.o;have a0:=HS.o p (bI O);have HP:=Hd O
    obtain⟨x,y⟩:=p
    simp only at Z q2 a0;clear hcell hb hc O
    by_cases hx:20 < x.size
    ·have b3:(20:Int) < (x.size:Int):=vO
     have A:=Hd (show R=false by rw[K.o];exact jrq HP.o (by unfold jfw;simp;omega));clear hx;go_wp2_with fail
     go_ret
     exact⟨by rw[A.o];rfl,E.o⟩
    ·have b3:¬(20:Int) < (x.size:Int):=vO
     by_cases hy:100 < y.size
     ·have b4:(100:Int) < (y.size:Int):=vO
      have A:=Hd (show R=false by rw[K.o];exact jrq HP.o (by unfold jfw;simp;omega));clear hx hy;go_wp2_with fail
      go_ret
      exact⟨by rw[A.o];rfl,E.o⟩
     ·have b4:¬(100:Int) < (y.size:Int):=vO
      have HG:=Hd (show (l.take (k+1)).all jfw=true by rw[jux HP.o,H.o];unfold jfw;simp;omega);clear hx hy;go_wp2_with fail
      go_roundw
      case rel=>exact⟨k+1,by omega,by omega,by go_num,E.o,HG.o⟩
      case measure=>exact vJ
   ·have X:¬(k:Int)<=45:=vO
    have b3:¬(l.length:Int)<=45:=vO
    have A:=Hd (show R=false by rw[K.o];unfold fewB;simp;omega);clear h45;go_wp2_with fail
    go_ret
    exact⟨by rw[A.o];rfl,E.o⟩
  ·have J:k=l.length:=vO
   have b1:¬(k:Int) < (l.length:Int):=vO
   have e:=H.o;rw[J,cL]at e
   by_cases h45:l.length<=45
   ·have X:(l.length:Int)<=45:=vO
    have A:=Hd (show R=true by rw[K.o];unfold fewB;rw[e];simp;omega);clear J e h45;go_wp2_with fail
    go_ret
    exact⟨by rw[A.o];rfl,E.o⟩
   ·have X:¬(l.length:Int)<=45:=vO
    have A:=Hd (show R=false by rw[K.o];unfold fewB;simp;omega);clear J e h45;go_wp2_with fail
    go_ret
    exact⟨by rw[A.o];rfl,E.o⟩
abbrev Key:=vN
abbrev EntK:=Ent Key
def kvE(x:EntK):Key × vV:=(x.1,x.2.1)
def getV(m:List (Key × vV))(k:Key):Option vV:=(m.find? fun x=>decide (k=x.1)).map (·.2)
def putV:List (Key × vV)->Key->vV->List (Key × vV)
 | [],k,v=>[(k,v)]
 | x :: r,k,v=>if k=x.1 then (k,v) :: r else x :: putV r k v
structure MapV(es:List EntK)(ck:Nat)(m:List (Key × Value)):Prop where
 same:es.map kvE=m
 born:(es.map (·.2.2)).Nodup
 lt:∀ x∈es,x.2.2 < ck
 keys:(m.map (·.1)).Nodup
theorem MapV.nil(ck:Nat):MapV [] ck []:=⟨rfl,by simp,by simp,by simp⟩
theorem MapV.len{es:List EntK}{ck:Nat}{m:List (Key × vV)}(h:MapV es ck m):es.length=m.length:=by rw[<-h.same];simp
theorem jwK(k:Key):∀ es:List EntK,jaX es k=getV (es.map kvE) k
 | []=>rfl
 | x :: r=>by
  have e:=jwK k r;unfold getV jaX at *;rw[bS,fY,fY]
  by_cases h:k=x.1
  ·simp[h,kvE]
  ·simp[h,kvE]at e ⊢;exact e
theorem MapV.get{es:List EntK}{ck:Nat}{m:List (Key × vV)}(h:MapV es ck m)(k:Key):jaX es k=getV m k:=by rw[jwK,h.same]
theorem jtu(k:Key)(v:vV)(n:Nat):∀ es:List EntK,(jbt es k v n).map kvE=putV (es.map kvE) k v
 | []=>rfl
 | x :: r=>by
  unfold jbt;rw[bS,putV]
  by_cases h:k=x.1
  ·rw[if_pos h,if_pos (show k=(kvE x).1 from h),bS];rfl
  ·rw[if_neg h,if_neg (show ¬ k=(kvE x).1 from h),bS,jtu k v n r]
theorem jme(x:EntK)(r:List EntK)(k:Key):jaX (x :: r) k=if k=x.1 then some x.2.1 else jaX r k:=by
 by_cases h:k=x.1 <;> simp[jaX,h]
theorem jmK(k:Key)(v:vV)(n:Nat):∀ es:List EntK,(jbt es k v n).map (·.2.2)=if (jaX es k).isSome then es.map (·.2.2)else es.map (·.2.2)++[n]
 | []=>rfl
 | x :: r=>by
  unfold jbt;rw[jme]
  by_cases h:k=x.1
  ·rw[if_pos h,if_pos h];simp
  ·rw[if_neg h,if_neg h,bS,jmK k v n r]
   cases (jaX r k).isSome <;> simp
theorem jmM(k:Key)(v:vV):∀ m:List (Key × vV),(putV m k v).map (·.1)=if k∈m.map (·.1)then m.map (·.1)else m.map (·.1)++[k]
 | []=>rfl
 | x :: r=>by
  rw[putV]
  by_cases h:k=x.1
  ·rw[if_pos h,if_pos (by simp[h])];simp[h]
  ·rw[if_neg h,bS,jmM k v r]
   by_cases h2:k∈r.map (·.1)
   ·rw[if_pos h2,if_pos (by rw[bS];exact bD _ h2)];rfl
   ·rw[if_neg h2,if_neg (by rw[bS,bM];exact fun e=>e.elim h h2)];rfl
theorem MapV.put{es:List EntK}{ck:Nat}{m:List (Key × vV)}(h:MapV es ck m)(k:Key)(v:vV):MapV (jbt es k v ck) (if (jaX es k).isSome then ck else ck+1) (putV m k v):=by
 have hb:=jmK k v ck es
 refine⟨by rw[jtu,h.same],?_,?_,?_⟩
 ·rw[hb]
  split
  ·exact h.born
  ·rw[fL]
   refine⟨h.born,by simp,fun a A b hb e=>?_⟩
   obtain⟨x,E,J⟩:=bK.1 A
   have:=h.lt x E
   simp at hb;omega
 ·intro x E
  have o:x.2.2∈(jbt es k v ck).map (·.2.2):=bK.2 ⟨x,E,rfl⟩;rw[hb]at o;split at o
  ·rename_i hs
   rw[if_pos hs]
   obtain⟨y,H,e⟩:=bK.1 o
   rw[<-e];exact h.lt y H
  ·rename_i hs
   rw[if_neg hs];rcases bU.1 o with o | o
   ·obtain⟨y,H,e⟩:=bK.1 o
    have:=h.lt y H;omega
   ·simp at o;omega
 ·rw[jmM]
  split
  ·exact h.keys
  ·rename_i hn
   rw[fL]
   exact⟨h.keys,by simp,fun a A b hb e=>by simp at hb;subst hb;subst e;exact hn A⟩
structure It where
 text:vB
 refs:vM
 used:Int
 held:Int
abbrev Nd5:=Key × Nat × It
abbrev vT:=List Nd5
theorem Tryz.uMapIt:Tryz.prog.underlying 81=some (.map 9 86):=vY
theorem Tryz.zeroIt(w:vW):(zeroValue 86).run Tryz.prog w=.ok (.pointer none) w:=vY
structure jeZ(W:World)(b:Nat)(it:It):Prop where
 cells:∃ rv,Blk W b (.cells #[.string it.text,rv,.int .i64 it.used,.int .i64 it.held] 90)/\W.ownsRow 0 9 1 rv it.refs.length (it.refs.map Value.string)
def jjm(W:vW)(F:BSet):Prop:=∀ b cur fz,F b->¬ Blk W b (.cells cur 9 fz)
theorem jjm.none(W:vW):jjm W (fun _=>False):=fun _ _ _ h=>h.elim
theorem jgR{W W':vW}{F:BSet}{v:vV}{n:Nat}{xs:List vV}(h:W.ownsRow 0 9 1 v n xs)(k:jae F W W')(hF:jjm W F):W'.ownsRow 0 9 1 v n xs:=by
 refine ja8 h k fun b hb E=>?_
 obtain⟨_,⟨o,_⟩ |⟨g,H,A,o,_,J,_⟩⟩:=h
 ·rw[o]at hb;cases hb
 ·rw[o]at hb
  have e:some g=some b:=hb;obtain rfl:=bO e;exact hF g A (0,0) E J
theorem jeZ.keeps{W W':vW}{F:BSet}{b:Nat}{it:It}(h:jeZ W b it)(k:jae F W W')(hb:¬ F b)(hF:jjm W F):jeZ W' b it:=by
 obtain⟨e,o,A⟩:=h.cells
 exact⟨e,o.keeps k hb,jgR A k hF⟩
theorem jeZ.lt{W:vW}{b:Nat}{it:It}(h:jeZ W b it):b < W.heap.size:=by obtain⟨o,e,_⟩:=h.cells;exact e.lt
def kvN(x:Nd5):Key × vV:=(x.1,.pointer (some ⟨x.2.1,0,none⟩))
structure jdq(W:World)(bm:Nat)(L:vT):Prop where
 mp:∃ es ck,Blk W bm (.map (Tryz.ES.arr es) ck)/\MapV es ck (L.map kvN)
 blks:(L.map (·.2.1)).Nodup
 items:∀ x∈L,jeZ W x.2.1 x.2.2
theorem jdq.keeps{W W':vW}{F:BSet}{bm:Nat}{L:vT}(h:jdq W bm L)(k:jae F W W')(hm:¬ F bm)(hL:∀ x∈L,¬ F x.2.1)(hF:jjm W F):jdq W' bm L:=by
 obtain⟨o,A,E,H⟩:=h.mp
 exact⟨⟨o,A,E.keeps k hm,H⟩,h.blks,fun x e=>(h.items x e).keeps k (hL x e) hF⟩
theorem jdq.ext{W W':vW}{bm:Nat}{L:vT}(h:jdq W bm L)(k:Ext W W'):jdq W' bm L:=h.keeps k (fun h=>h) (fun _ _ h=>h) (jjm.none W)
def atL(L:vT)(k:Key):Option Nd5:=L.find? fun x=>decide (k=x.1)
theorem jsk(k:Key):∀ L:vT,getV (L.map kvN) k=(atL L k).map fun x=>.pointer (some ⟨x.2.1,0,none⟩)
 | []=>rfl
 | x :: r=>by
  have e:=jsk k r;unfold getV atL at *;rw[bS,fY,fY]
  by_cases h:k=x.1
  ·simp[h,kvN]
  ·simp[h,kvN]at e ⊢;exact e
theorem jba{L:vT}{k:Key}{x:Nd5}(h:atL L k=some x):x∈L/\x.1=k:=by
 unfold atL at h;have e:=List.find?_some h
 exact⟨List.mem_of_find?_eq_some h,(of_decide_eq_true e).symm⟩
def ptrO(o:Option Nd5):vV:=match o with | some x=>.pointer (some ⟨x.2.1,0,none⟩) | none=>.pointer none
theorem jdq.look{W:vW}{bm:Nat}{L:vT}(h:jdq W bm L)(k:vB)(ok:Bool) :
  (Instr.lookup 81 (.map (some bm)) (.string k) ok).run Tryz.prog W=.ok (if ok then .tuple #[ptrO (atL L k.data.toList),.bool (atL L k.data.toList).isSome]else ptrO (atL L k.data.toList)) W:=by
 obtain⟨A,E,e,o⟩:=h.mp
 have:=jcx Tryz.ES Tryz.uMapIt e (Tryz.zeroIt W) k.data.toList ok
 rw[o.get,jsk]at this;cases ha:atL L k.data.toList with
 | none=>rw[ha]at this;exact this
 | some x=>rw[ha]at this;exact this
structure jaT(W:World)(s bm:Nat)(room:Int)(L:vT):Prop where
 st:Blk W s (.cells #[.int .i64 room,.map (some bm)] 88)
 mp:jdq W bm L
theorem jaT.ext{W W':vW}{s bm:Nat}{room:Int}{L:vT}(h:jaT W s bm room L)(k:Ext W W'):jaT W' s bm room L:=⟨h.st.keeps k (fun h=>h),h.mp.ext k⟩
theorem jjc(w:vW)(s bm:Nat)(room:Int)(L:vT)(k:vB)(h:jaT w s bm room L):vR 45 #[.pointer (some ⟨s,0,none⟩),.string k] w (optV ((atL L k.data.toList).map (·.2.2.text))):=by
 have H:=h.st.cell (i:=1) (v:=.map (some bm)) vF;have e:=h.mp.look k true;have E:=Hd h.mp.items;simp only[if_true]at e;clear h;cases ha:atL L k.data.toList with
 | none =>
  rw[ha]at e;unfold ptrO at e;simp only[Option.isSome]at e;clear ha;unfold vR vQ;go_in;go_wp2_with fail
  go_ret2
  exact⟨rfl,ExtR w⟩
 | some x =>
  rw[ha]at e
  obtain⟨J,A,_⟩:=(E.o x (jba ha).1).cells
  have K:=A.cell (i:=0) (v:=.string x.2.2.text) vF;unfold ptrO at e;simp only[Option.isSome]at e;clear ha A;unfold vR vQ;go_in;go_wp2_with fail
  go_ret2
  exact⟨rfl,ExtR w⟩
def jvo(o:Option Nd5):Int:=match o with | some x=>x.2.2.held | none=>0
def je0(l:vL):Prop:=∀ p∈l,p.1.size<=9223372036854775807/\p.2.size<=9223372036854775807
theorem jbl(a b:vB):jbc a b=true↔Lt a.data.toList b.data.toList:=by
 unfold jbc;rw[bR,bR]
abbrev Pair.k(p:Pair):vN:=p.1.data.toList
def look(m:vL)(k:vN):Option vB:=(m.find? (fun p=>decide (k=p.k))).map (·.2)
theorem jbm(q:Pair)(r:vL)(k:vN):look (q :: r) k=if k=q.k then some q.2 else look r k:=by
 unfold look
 by_cases h:k=q.k <;> simp[fY,h]
def jnr(l:vL):Prop:=l.Pairwise fun p q=>Lt p.k q.k
theorem jet{k:vN}:∀ {m:vL},k ∉ m.map Pair.k->look m k=none
 | [],_=>rfl
 | q :: r,h=>by
  simp only[bS,bM,not_or]at h;rw[jbm,if_neg h.1,jet h.2]
theorem jiN:∀ (a b:vN),Lt a b\/a=b\/Lt b a
 | [],[]=>.inr (.inl rfl)
 | [],_ :: _=>.inl jpu
 | _ :: _,[]=>.inr (.inr jpu)
 | a :: x,b :: y=>by
  rcases Nat.lt_trichotomy a.toNat b.toNat with h | h | h
  ·exact .inl (jbG.2 (.inl (dE.2 h)))
  ·have e:=dS.1 h
   subst e;rcases jiN x y with h | h | h
   ·exact .inl (jbG.2 (.inr ⟨rfl,h⟩))
   ·exact .inr (.inl (by rw[h]))
   ·exact .inr (.inr (jbG.2 (.inr ⟨rfl,h⟩)))
  ·exact .inr (.inr (jbG.2 (.inl (dE.2 h))))
theorem jgI{p q:Pair}(h1:p.k=q.k)(h2:p.2=q.2):p=q:=by
 obtain⟨⟨⟨a⟩⟩,b⟩:=p
 obtain⟨⟨⟨c⟩⟩,d⟩:=q
 simp only[Pair.k]at h1 h2;subst h1;subst h2;rfl
theorem ji6:∀ {a b:vL},jnr a->jnr b->(∀ k,look a k=look b k)->a=b
 | [],[],_,_,_=>rfl
 | [],q :: b,_,_,h=>by have:=h q.k;rw[jbm,if_pos rfl]at this;cases this
 | p :: a,[],_,_,h=>by have:=h p.k;rw[jbm,if_pos rfl]at this;cases this
 | p :: a,q :: b,h1,h2,h=>by
  have A:=cW.1 h1;have E:=cW.1 h2;have out:∀ (x:vN) (y:Pair) (m:vL),(∀ z∈m,Lt y.k z.k)->Lt x y.k->look (y :: m) x=none:=fun x y m H K=>by
   refine jet fun o=>?_;rw[bS,bM]at o;rcases o with e | o
   ·exact lt_irrefl _ (e ▸ K)
   ·obtain⟨z,J,e⟩:=bK.1 o
    exact lt_irrefl _ (jdV _ _ _ K (e ▸ H z J))
  have O:p.k=q.k:=by
   rcases jiN p.k q.k with e | e | e
   ·have:=h p.k
    rw[out p.k q b E.1 e,jbm,if_pos rfl]at this;cases this
   ·exact e
   ·have:=h q.k
    rw[out q.k p a A.1 e,jbm,if_pos rfl]at this;cases this
  have Z:p.2=q.2:=by
   have:=h p.k
   rw[jbm,if_pos rfl,jbm,if_pos O]at this;exact bO this
  have e:=jgI O Z;subst e
  have:a=b:=ji6 A.2 E.2 fun k=>by
   have Q:=h k;rw[jbm,jbm]at Q
   by_cases e:k=p.k
   ·have X:∀ m:vL,(∀ z∈m,Lt p.k z.k)->look m k=none:=fun m H=>jet fun o=>by
     obtain⟨z,J,e2⟩:=bK.1 o
     have:=H z J
     rw[e2,e]at this;exact lt_irrefl _ this
    rw[X a A.1,X b E.1]
   ·rwa [if_neg e,if_neg e]at Q
  rw[this]
