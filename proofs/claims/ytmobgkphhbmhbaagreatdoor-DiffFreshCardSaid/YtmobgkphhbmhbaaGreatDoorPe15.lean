/- Lemmas; each is under no condition but those that it states. -/
import Derived.Test.YtmobgkphhbmhbaaGreatDoorPe14
namespace Go.Proofs.YtmobgkphhbmhbaaGreatDoor
set_option linter.unusedSimpArgs false
set_option linter.unusedVariables false
set_option maxRecDepth 100000
set_option maxHeartbeats 16000000
open Go Go.RowKit
section
attribute [local go_sem] Oper.semAt_some
theorem jf1:∀ (l:vM) (i:Nat),((jaE i l).filterMap fun x=>jcA x.2)=l.filterMap jcA
 | [],_=>rfl
 | x :: l,i=>by
  unfold jaE
  by_cases h:x.size=0
  ·rw[if_pos h,jf1 l,fY,jbo h,jeY]
  ·rw[if_neg h,fY,fY,jf1 l]
def jcj(n:jae)(k:Nat):vM:=(n.refsL.take k).filterMap fun x=>jcA x.2
theorem jrc(n:jae):jcj n n.refsL.length=jaG n:=by
 unfold jcj;rw[cF];exact jf1 _ _
theorem jpp(n:jae){k:Nat}(hk:k < n.refsL.length):jcj n (k+1)=jcj n k++(jcA (n.rr k)).toList:=by
 unfold jcj;rw[cR hk,List.filterMap_append]
 congr 1
 have:n.rr k=(n.refsL[k]).2:=by simp[jae.rr,bH,hk]
 rw[this,fY];cases jcA (n.refsL[k]).2 <;> rfl
theorem jrd(n:jae)(k:Nat):(jcj n k).length<=n.refs.length:=by
 have o:∀ (l:vM) (i:Nat),(jaE i l).length<=l.length:=by
  intro l;induction l with
  | nil=>intro i;simp[jaE]
  | cons x r ih=>intro i;unfold jaE;split <;> simp <;> have:=ih (i+1) <;> omega
 have q:=o n.refs 0;unfold jcj;have e:=iL (fun x:Nat × vB=>jcA x.2) (n.refsL.take k);rw[dS]at e
 have:n.refsL=jaE 0 n.refs:=rfl
 rw[this]at e ⊢;omega
theorem jod{x:vB}{l:vM}(h:x∈l):x.size<=(jbY l).size:=bL (jhx l x h) (jj9 l)
theorem job{d:Nat}{r:vB}(h:MayP (InlD d) r)(hs:r.size < 32):jcA r=none:=by
 rcases h with h |⟨m,h⟩
 ·have:=h.size;omega
 ·exact jdH (inlP d) h
theorem jl7{d:Nat}{n:jae}(h:jcg (InlD d) n)(hs:(jaS n).size < 32):jaG n=[]:=by
 unfold jaG;cases h with
 | none=>exact jd9 16
 | leaf p v h1 h2 h3=>exact jd9 16
 | ext p r h1 h2 h3 =>
  show (r :: jav 15).filterMap jcA=[];have o:r.size < 32:=by
   have e:jaS ⟨2,p,⟨#[]⟩,r :: jav 15⟩=jbY [jaC (putB p false),r]:=rfl
   have:=jod (x:=r) (l:=[jaC (putB p false),r]) (by simp)
   rw[e]at hs;omega
  rw[fY,jd9,job (h3.imp id fun ⟨m,h,_⟩=>⟨m,h⟩) o]
 | branch v rs h1 h2 h3 h4 =>
  show rs.filterMap jcA=[];rw[List.filterMap_eq_nil_iff];intro r o
  by_cases h0:r.size=0
  ·rw[jbo h0,jeY]
  ·have e:jaS ⟨3,⟨#[]⟩,v,rs⟩=jbY (jbG rs v):=by
    show jbY (jbM _)=_;rw[jfj _ h1]
   have q:r∈jbG rs v:=by
    unfold jbG;refine bO.2 (.inl (bC.2 ⟨r,o,?_⟩));rw[if_neg h0]
   have:=jod q
   rw[e]at hs;exact job (h3 r o h0) vO
theorem jys{w:vW}{B:Nat}{T:TypeId}{sz:Nat}{ad:Option Addr}{n cp:Nat}{xs:List vV}(h:w.ownsRow B T sz (.slice ad n cp) n xs):n<=cp:=by
 obtain⟨_,⟨e,o⟩ |⟨g,q,z,e,o,E,H,_⟩⟩:=h
 ·omega
 ·obtain⟨_,_,J⟩:=dY e;omega
structure HsS(w:World)(g3 gi m:Nat)(n:jae)(k:Nat)(W:World):Prop where
 ext:Ext w W
 it:Blk W gi (.cells n.cells.toArray 181)
 row:∃ v,Blk W g3 (.cells #[v] 22)/\W.ownsRow 0 9 1 v (jcj n k).length ((jcj n k).map Value.string)/\(∀ b,v.ownBlock=some b->m+2<=b)/\(jcj n k=[]->v=.slice none 0 0)
theorem HsS.st{w:vW}{g3 gi m:Nat}{n:jae}{k:Nat}{W W':vW}(h:HsS w g3 gi m n k W)(e:Ext W W'):HsS w g3 gi m n k W':=
 let ⟨v,h1,h2,h3,h4⟩:=h.row
 ⟨h.ext.trans e,h.it.keeps e (fun h=>h),v,h1.keeps e (fun h=>h),jbh h2 e,h3,h4⟩
theorem HsS.put{w:vW}{g3 gi m:Nat}{n:jae}{k:Nat}{W:vW}(h:HsS w g3 gi m n k W){r:Nat}(hr:w.heap.size<=r)(h1:g3 < r)(h1':gi < r)(h2:r < m+2)(o:Obj):HsS w g3 gi m n k (W.putObj r o):=
 let ⟨v,h3,h4,h5,h6⟩:=h.row
 ⟨h.ext.putObj (.inr hr) _,h.it.put_other vO _,v,h3.put_other vO _,jaY h4 (jad.onePut W r o) (fun b hb e=>by have:=h5 b hb;omega),h5,h6⟩
def js1(w:vW)(n:jae)(e:Ending)(w':vW):Prop:=∃ v,e=.returned v/\SRow w w' v (jaG n).length (jaG n)/\(jaG n=[]->v=.slice none 0 0)
theorem jnY{I:vB->jae->Prop}{n:jae}(h:jcg I n):∀ r∈n.refs,r.size≠0->MayP I r:=by
 have q:∀ r∈jav 16,r.size≠0->MayP I r:=fun r z e=>by rw[fV z]at e;exact absurd rfl e
 cases h with
 | none=>exact q
 | leaf p v h1 h2 h3=>exact q
 | ext p r h1 h2 h3 =>
  intro x o e;rcases bK.1 o with rfl | o
  ·exact h3.imp id fun ⟨m,h,_⟩=>⟨m,h⟩
  ·rw[fV o]at e;exact absurd rfl e
 | branch v rs h1 h2 h3 h4=>exact h3
theorem jij(d:Nat)(n:jae)(h:jcg (InlD d) n)(ih:∀ r m,InlD d r m->∀ w,vQ 80 #[m.V] w (js1 w m))(w:vW):vQ 80 #[n.V] w (js1 w n):=by
 have hr:=(h.one (inlP d)).refs
 obtain⟨i0,hi,e2,e3,e4⟩:=info_parts Tryz.infoStr
 have HV:=Hd (fun w=>jkE (inlP d) w n h);have HM:=Hd (jnY h);have e5:=Hd ih;have HQ:=Hd (show ∀ (v:vV) W',js1 w n (.returned v) W'↔(SRow w W' v (jaG n).length (jaG n)/\(jaG n=[]->v=.slice none 0 0))from fun v W'=>⟨fun ⟨_,e,h⟩=>by cases e;exact h,fun h=>⟨v,rfl,h⟩⟩);have a9:=jax (w.alloc (.cells n.cells.toArray 132)) _ n hr (Blk.new w _);clear h ih;unfold jae.V at a9 ⊢;refine (callsIn_wide (n:=0)).1 ?_;refine callsIn_of_wp_marks Tryz.func80 rfl trivial ?_ rfl;simp only[Tryz.ntmps80,dE,bQ,dM,Nat.reduceAdd,Nat.reduceSub,dH,dG,dR,dL,cP,cX];gi_wp2_with (refine jbn rfl 132 (.tmp 1) rfl _ _ rfl a9 ?_)
 refine⟨trivial,rfl,CallsIn.mono (callsIn_wide.2 (HV.o _)) ?_⟩
 rintro e w1 ⟨rfl,O⟩;have b0:=(Blk.new w (.cells n.cells.toArray 132)).keeps O (fun h=>h);have b1:=Hd (((ExtR w).alloc _).trans O)
 obtain⟨W2,a3⟩:=vE (w1.alloc (.cells #[.slice none 0 0] 22))
 have c1:=Hd a3;have c2:Blk W2 w.heap.size (.cells n.cells.toArray 132):=by rw[a3];exact b0.alloc _
 have z:=Hd (show Blk W2 w1.heap.size (.cells #[.slice none 0 0] 22) by rw[a3];exact Blk.new w1 _);have c3:=Hd (show Ext w W2 by rw[a3];exact b1.o.alloc _);have a1:=jax W2 _ n hr c2;have e6:=b0.lt;rw[a3]at a1;clear a9 O b0 a3 c2;unfold jae.V at a1;gi_wp2_with (refine jbn rfl 132 (.tmp 1) rfl _ _ rfl a1 ?_)
 rw[<-c1.o]
 refine⟨trivial,rfl,CallsIn.mono (callsIn_wide.2 (jow W2 n)) ?_⟩
 rintro e w3 ⟨rfl,a7,O⟩;have a5:=z.o.lt
 obtain⟨gi,c4⟩:∃ g,g=W2.heap.size:=⟨_,rfl⟩
 obtain⟨H,a2⟩:∃ g,g=w1.heap.size:=⟨_,rfl⟩
 rw[<-a2]at z a5 e6;rw[<-c4]at a7 a5 ⊢;rw[<-a2];have S0:HsS w H gi w3.heap.size n 0 w3:=⟨c3.o.trans O,a7,_,z.o.keeps O (fun h=>h),fH _ _ _ _,(fun b hb=>by cases hb),(fun _=>rfl)⟩;have f8:=a7.lt;have e7:=b1.o.size;have e8:=Hd S0;have a4:=Hd (show w.heap.size<=H by omega);clear a1 a7 O b1 c1 z c3 S0 e7 c4 a2;gi_wp2_with fail
 refine jen (N:=n.refsL.length) (gf:=163) (lb:=#[.pointer (some ⟨gi,0,none⟩)]) rfl (vX 163) (jkt gi n hr)
  (fun k=>rfl) (HsS w H gi w3.heap.size n) (fun _ _ _=>False) (fun k W W' h e=>h.st e) (fun _ _ _ _ h _=>h) (fun k W h=>h.it)
  (fun k W o h=>h.put (by have:=a4.o;omega) vO vO vO _)
  (fun k W o h=>h.put (by have:=a4.o;omega) vO vO vO _) (fun _ _ _ _ h=>h)
  e8.o (fun k=>{ tmps:=#[.agg n.cells.toArray,.pointer (some ⟨w.heap.size,0,none⟩),.slice none 0 0,.pointer (some ⟨H,0,none⟩),undef,.string (n.rr k),undef,undef,undef,undef,.agg n.cells.toArray,.bool true,.bool false,.agg n.cells.toArray,.func (.func 163) #[] #[.pointer (some ⟨gi,0,none⟩)],.int .i64 (n.ri k:Nat),.string (n.rr k),undef,undef,undef,undef,undef,undef,undef,undef,undef,undef,undef,undef,undef,undef,undef,undef,undef,undef,undef,undef],defers:=[] })
  ?hassign ?hbody ?hdone ?hstop
 case hassign =>
  intro l j W K hK;rw[juH,jq4];simp only[dI,dA];gi_wp2;exact hK
 case hbody =>
  intro l k W hk hS f9;have b2:=juD n hr hk;have a6:=HM.o _ (bI b2.2.1) b2.2.2;have b3:=jpp n hk;have e9:=jrd n k;rw[hr]at e9
  obtain⟨r,c5⟩:=vE (n.rr k)
  rw[<-c5]at a6 b3 ⊢;have HS:=Hd hS;have c6:=Hd b3;have c7:=a4.o;have b4:=Hd c7;clear hS b2 b3 c5 c7;rcases a6 with hh |⟨m,hm⟩
  ·obtain⟨hs,x,q,J,Q⟩:=hh.known
   have HX:=Hd (show jcj n (k+1)=jcj n k++[x] by
    rw[c6.o];unfold jcA;rw[J];show _++(jeX r q).toList=_;rw[Q];rfl)
   have H3:=Hd J;have H4:=Hd Q;clear J Q hh;gi_wp2_with fail
   refine⟨trivial,rfl,CallsIn.mono (CallsIn.inRound l (callsIn_wide.2 (jeM W r q hs H3.o))) ?_⟩
   rintro e w5 ⟨rfl,O⟩;rw[H4.o];have S5:=HS.o.st O
   obtain⟨v,E,X,J,Q⟩:=S5.row
   obtain⟨Z,cp,rfl⟩:=jaK X
   have q4:w5.cell? ⟨H,0,none⟩=some (.slice Z (jcj n k).length cp):=E.cell (i:=0) vF;have f4:w5.frozen? ⟨H,0,none⟩=false:=E.frozen;have g0:=O.size;have c8:=Hd S5;have a8:=Hd O;have b5:=Hd E;have b6:=Hd X;have z:=Hd J;clear S5 E X J Q O;unfold optV;gi_wp2_with (gi_at_builtin;refine jbW _ rfl (.tmp 23) (.tmp 25) 22 rfl 9 i0 _ 1 16 Tryz.uStrs hi e2 e3 e4 rfl vI (.slice Z (jcj n k).length cp) (jcj n k).length _ rfl (jbh b6.o ((ExtR w5).alloc _)) ⟨w5.heap.size,0,none⟩ 1 1 [.string x] rfl rfl (ja3 (Blk.new w5 _)) (by simp[Value.oneCell']) (by unfold maxLen;omega) vO ?_)
   intro v' w6 r1 r2 r3;have K6:jad (fun b=>(Value.slice Z (jcj n k).length cp).ownBlock=some b) w5 w6:=((jad.refl _ w5).alloc _).trans r2;have hl:(jcj n (k+1)).length=(jcj n k).length+1:=by rw[HX.o];simp
   have r1:w6.ownsRow 0 9 1 v' (jcj n (k+1)).length ((jcj n (k+1)).map Value.string):=by
    rw[hl,HX.o,bY];exact r1
   have nb:∀ b,b < w3.heap.size+2->¬(Value.slice Z (jcj n k).length cp).ownBlock=some b:=fun b hb e=>by have:=z.o b e;omega
   obtain⟨c9,d0,rfl⟩:=jaK r1
   have d1:∀ b,(Value.slice c9 (jcj n (k+1)).length d0).ownBlock=some b->w3.heap.size+2<=b:=fun b hb=>by
    rcases r3 with r3 | r3
    ·exact z.o b (r3 ▸ hb)
    ·have:=r3 b hb;first | omega |(simp at this;omega)
   have B4:=b5.o.keeps K6 (nb _ vO);have g1:w6.cell? ⟨H,0,none⟩=some (.slice Z (jcj n k).length cp):=B4.cell (i:=0) vF;have g2:w6.frozen? ⟨H,0,none⟩=false:=B4.frozen;have b7:=Hd K6;have b8:=Hd B4;have R1:=Hd r1;have d2:=Hd d1;have NB:=Hd nb;clear K6 r1 r2 r3 d1 B4 nb q4 f4 hl;gi_wp2;have k7:jad (fun b=>b=H) w6 (w6.setCell ⟨H,0,none⟩ (.slice c9 (jcj n (k+1)).length d0)):=jad.oneSet w6 ⟨H,0,none⟩ _
   refine⟨((a8.o.mono (fun _ _ h=>h.elim)).trans (b7.o.mono (fun x _ e=>?_))).trans' k7 (fun x _ e=>?_),?_⟩
   ·have:=z.o x e;show x≠_/\x≠_;omega
   ·have e:x=_:=e;show x≠_/\x≠_;omega
   ·refine⟨(c8.o.ext.trans' b7.o (fun x hx e=>by have:=z.o x e;have:=b4.o;omega)).trans' k7 (fun x hx e=>by have e:x=_:=e;have:=b4.o;omega),
     (c8.o.it.keeps b7.o (NB.o _ vO)).keeps k7 (fun e=>by omega),
     _,b8.o.set_same (i:=0) _,jaY R1.o k7 (fun b hb e=>by have:=d2.o b hb;omega),d2.o,fun h0=>?_⟩
    rw[HX.o]at h0;simp at h0
  ·have hs:=(inlP d).small r m hm
   obtain⟨q,J,Q⟩:=(inlP d).nohash r m hm
   have HX:=Hd (show jcj n (k+1)=jcj n k by
    rw[c6.o,jdH (inlP d) hm];simp)
   have HC:=Hd ((inlP d).inl r m hm);have b9:=Hd ((inlP d).refs r m hm);have H3:=Hd J;have H4:=Hd Q;have f0:=Hd (show ∀ W,vQ 80 #[m.V] W fun e W'=>e=.returned (.slice none 0 0)/\Ext W W' from fun W=>by
    have f1:jaG m=[]:=by
     cases d with
     | zero=>exact hm.elim
     | succ d=>exact jl7 hm.1 (by rw[<-hm.2.1];exact hm.2.2.1)
    refine (e5.o r m hm W).mono ?_;rintro e W' ⟨v,rfl,E,X⟩;rw[X f1];exact⟨rfl,E.ext⟩)
   clear J Q hm;gi_wp2_with fail
   refine⟨trivial,rfl,CallsIn.mono (CallsIn.inRound l (callsIn_wide.2 (jeM W r q vO H3.o))) ?_⟩
   rintro e w5 ⟨rfl,O⟩;rw[H4.o];have a8:=Hd O;clear O;unfold optV;gi_wp2_with fail
   refine⟨trivial,rfl,CallsIn.mono (CallsIn.inRound l (callsIn_wide.2 (HC.o w5))) ?_⟩
   rintro e w6 ⟨rfl,O⟩;have d3:=Hd (a8.o.trans O);clear O a8;unfold jae.V;gi_wp2_with (refine jmh Tryz.allocNode rfl rfl ?_;intro W7 d4 d5;refine jkH (vs:=m.cells) rfl rfl rfl rfl d4 (by rw[m.cells_len b9.o];rfl) (by rw[m.cells_len b9.o];exact Tryz.szNode) m.one ?_;intro W8 d6 d7)
   have c0:Ext w6 W8:=d5.trans' d7 (fun x hx e=>by have e:x=w6.heap.size:=e;omega);have S8:=HS.o.st (d3.o.trans c0)
   obtain⟨v,E,X,J,Q⟩:=S8.row
   obtain⟨Z,cp,rfl⟩:=jaK X
   have d8:=jys X;have f2:=Hd S8;have f3:=Hd d6;have H1:=Hd E;have f5:=Hd c0;have f6:=Hd d8;clear d4 d5 d7 d6 c0 S8 E X J Q d8;gi_wp2_with fail
   refine jhh [0,1,2,3,4] [4] Ext ExtR ExtT vY vY vY vY ?_;refine qL ⟨H,0,none⟩ _ rfl (fun w1 E=>jac Tryz.uStrs rfl (jaa (by exact H1.o.cell (i:=0) (v:=.slice Z (jcj n k).length cp) vF) ((jaj _).trans E))) ?_;refine vS ?_;refine qL ⟨w6.heap.size,0,none⟩ _ rfl (fun w1 E=>jax w1 _ m b9.o (f3.o.keeps ((jaj _).trans E) (fun h=>h))) ?_;refine vS ?_;refine jc5 _ 80 #[m.V] (.slice none 0 0) rfl vY rfl (fun w1=>jaB (vX 80) vY) (fun w1 E=>f0.o w1) ?_;refine vS ?_;refine qA _ (.slice Z (jcj n k).length cp) rfl (fun w1=>jdF (jcb Tryz.uStrs hi Z (jcj n k).length cp f6.o 0 w1) vY) ?_;refine vS ?_;refine qH _ rfl (fun w1 he K hK=>?_);have S9:=f2.o.st ((jaj _).trans he);have d9:Ext W w1:=(d3.o.trans f5.o).trans ((jaj _).trans he)
   obtain⟨v,E,X,J,Q⟩:=S9.row
   have a0:w1.cell? ⟨H,0,none⟩=some (.slice Z (jcj n k).length cp):=jaa (H1.o.cell (i:=0) (v:=.slice Z (jcj n k).length cp) vF) ((jaj _).trans he);have e0:v=.slice Z (jcj n k).length cp:=by
    have:=E.cell (i:=0) (v:=v) vF
    rw[a0]at this;exact (bV this).symm
   rw[e0]at E X J Q;have q4:=a0;have f4:w1.frozen? ⟨H,0,none⟩=false:=E.frozen;have e1:=Hd S9;have b5:=Hd E;have b6:=Hd X;have z:=Hd J;have b8:=Hd Q;have f7:=Hd d9;clear S9 a0 e0 E X J Q he d9;go_simp;refine hK _ _ ?_;clear hK K q4 f4;refine qE (fun w2 he=>?_);have k7:jad (fun b=>b=H) w1 (w1.setCell ⟨H,0,none⟩ (.slice Z (jcj n k).length cp)):=jad.oneSet w1 ⟨H,0,none⟩ _;have k8:jad (fun b=>b=H) w1 w2:=k7.trans (he.mono (fun _ _ h=>h.elim))
   refine⟨(f7.o.mono (fun _ _ h=>h.elim)).trans' k8 (fun x _ e=>?_),?_⟩
   ·have e:x=_:=e;show x≠_/\x≠_;omega
   ·refine⟨e1.o.ext.trans' k8 (fun x hx e=>by have e:x=_:=e;have:=b4.o;omega),e1.o.it.keeps k8 (fun e=>by omega),.slice Z (jcj n k).length cp,(b5.o.set_same (i:=0) _).keeps he (fun h=>h),?_⟩
    rw[HX.o]
    exact⟨jaY b6.o k8 (fun b hb e=>by have:=z.o b hb;omega),z.o,b8.o⟩
 case hdone =>
  intro W hS hd
  obtain⟨v,E,X,J,Q⟩:=hS.row
  rw[jrc]at X Q
  obtain⟨Z,cp,rfl⟩:=jaK X
  have q4:W.cell? ⟨H,0,none⟩=some (.slice Z (jaG n).length cp):=E.cell (i:=0) vF;have HS:=Hd hS;have HR:=Hd (show ORow 9 1 w W (.slice Z (jaG n).length cp) (jaG n).length ((jaG n).map Value.string)from⟨⟨_,_,rfl⟩,X,hS.ext,fun b hb=>by have:=J b hb;have:=a4.o;omega⟩);have H3:=Hd J;have H4:=Hd Q;have HD:=Hd hd;clear hS E X J Q hd;gi_wp2
  refine⟨by simp,.inl ⟨_,_,rfl,run_takeDeferred HD.o,?_⟩⟩
  refine⟨.slice Z (jaG n).length cp,by simp[results,Tryz.results80,go_sem],(HQ.o _ _).2 ⟨HR.o.keeps (jad.onePut W w3.heap.size (.deferred none)) (fun b hb e=>by have:=H3.o b hb;omega) (fun b hb e=>by have:=a4.o;omega),H4.o⟩⟩
 case hstop=>intro c k W _ _ h;exact h.elim
theorem jj3:∀ (d:Nat) (n:jae),jcg (InlD d) n->∀ w,vQ 80 #[n.V] w (js1 w n)
 | 0,n,h,w=>jij 0 n h (fun _ _ e=>e.elim) w
 | d+1,n,h,w=>jij (d+1) n h (fun r m e w=>jj3 d m e.1 w) w
end
section
open Classical in
noncomputable def nodeOf(t:vB):jae:=if h:∃ n,jbj t n then h.choose else jaV
theorem jcu{t:vB}{n:jae}(h:jbj t n):jbj t (nodeOf t):=by
 unfold nodeOf;have e:∃ n,jbj t n:=⟨n,h⟩;rw[dif_pos e];exact e.choose_spec
theorem jii{t:vB}{n:jae}(h:jbj t n):(jaG n).length<=16:=by
 obtain⟨_,g,e⟩:=h
 have:=(e.one (inlP g)).refs
 unfold jaG;have o:=iL jcA n.refs;omega
theorem jpF{L:vM}(h:L.Nodup){i:Nat}{t:vB}(ht:L[i]?=some t):t ∉ L.take i:=fun o=>by
 obtain⟨k,E,e⟩:=List.mem_take_iff_getElem.1 o
 obtain⟨q,z⟩:=bU.1 ht
 exact gS.1 h k i vO q vO (e.trans z.symm)
theorem jf6{P:Program}{t T:TypeId}{sz by':Nat}(I:jep P t T sz by'){ops:Array Oper}{rest:List Oper}{d:Option Tmp}{ty:TypeId}{pos:String}{af:Array Edge}{a:Act}{w:vW}{Q:Exit->Act->vW->Prop}{s x:Operand}{base:Option Addr}{n c c2:Nat}
  (hs:a.eval s=.slice base n c) (hx:a.eval x=.slice none 0 c2) (hle:n<=c) (h:wpList P ops Q rest (a.put d (.slice base n c)) w) :
  wpList P ops Q (⟨d,.call { callee:=.builtin .append,args:=#[s,x],argTypes:=#[t,t] },ty,pos,af,none⟩ :: rest) a w:=by
 obtain⟨i,z,e,_⟩:=I.hi
 exact wpList_plain rfl fun K o=>jco (jdF (jcb I.ht e base n c hle c2 w) (by simp[hs,hx])) (o _ _ h)
end
theorem jlK(w:vW)(v:vV)(l:vL)(hv:RdP w v l)(hn:l.length<=9223372036854775807)(hs:∀ p∈l,p.1.size<=9223372036854775807/\p.2.size<=9223372036854775807)(h:jat l≠0):vR 30 #[v] w (.tuple #[.slice none 0 0,.int .i64 (jat l)]):=by
 have q:=jgP w v l hv hn hs
 obtain⟨a,c,rfl⟩:=hv.sl
 obtain⟨x,z⟩:=vE (jat l)
 rw[<-z]at h q ⊢;have H:(x == 0)=false:=by simpa using h
 have J:=Hd q;clear q hv z hs;refine (callsIn_wide (n:=0)).1 ?_;refine callsIn_of_wp_marks Tryz.func30 rfl trivial ?_ rfl;simp only[Tryz.ntmps30,dE,bQ,dM,Nat.reduceAdd,Nat.reduceSub,dH,dG,dR,dL,cP,cX];gi_wp2_with fail
 refine⟨trivial,rfl,CallsIn.mono (callsIn_wide.2 J.o) ?_⟩
 rintro e w1 ⟨rfl,E⟩;have K:=Hd E;clear E;gi_wp2_with fail
 refine⟨_,results_tmp2 rfl _ _ _,?_⟩
 exact⟨rfl,K.o⟩
def jfe(p:Pair):Bool:=decide (p.1.size<=20) && decide (p.2.size<=100)
def fewB(l:vL):Bool:=l.all jfe && decide (l.length<=45)
def jyP(w:vW)(l:vL)(i:vV)(wr:vW):Prop:=∃ k:Nat,k<=l.length/\k<=46/\i=.int .i64 k/\Ext w wr/\(l.take k).all jfe=true
theorem js9{l:vL}{k:Nat}{p:Pair}(h:l[k]?=some p):(l.take (k+1)).all jfe=((l.take k).all jfe && jfe p):=by
 rw[cB,h,List.all_append];simp
theorem jqc{l:vL}{k:Nat}{p:Pair}(h:l[k]?=some p)(hb:jfe p=false):fewB l=false:=by
 unfold fewB
 have:l.all jfe=false:=by
  rw[gC];intro e
  have:=dU.1 e p (bI h)
  rw[hb]at this;cases this
 rw[this];rfl
theorem jvd(w:vW)(v:vV)(l:vL)(hv:RdP w v l)(hn:l.length<=9223372036854775807)(hs:∀ p∈l,p.1.size<=9223372036854775807/\p.2.size<=9223372036854775807) :
  vR 54 #[v] w (.bool (fewB l)):=by
 have HV:=Hd hv;have HS:=Hd hs
 obtain⟨a,c,rfl⟩:=hv.sl;clear hv hs
 obtain⟨R,O⟩:=vE (fewB l)
 rw[<-O];have J:=Hd O;clear O;go_enter Tryz.func54,Tryz.ntmps54;go_wp2_with fail
 go_loopw [3] (fun i wr=>jyP w l i wr) (fun i _=>l.length - (intOf i).toNat)
 case atStart=>exact⟨0,by omega,by omega,rfl,ExtR w,rfl⟩
 case round =>
  obtain⟨k,hk,a1,rfl,hE,e⟩:=hrel
  have z:=Hd hE;have E:=Hd e;clear hE e
  by_cases hlt:k < l.length
  ·have b1:(k:Int) < (l.length:Int):=vO
   by_cases h45:k<=45
   ·have Q:(k:Int)<=45:=vO
    obtain⟨p,K⟩:∃ p,l[k]?=some p:=⟨_,bA hlt⟩
    rcases HV.o with⟨_,_,_,h0⟩ |⟨b,o,c1,hh,hb,hc,hcell⟩
    ·rw[h0]at hlt;cases hlt
    cases hh
    obtain⟨X,Z⟩:=hcell k p K
    have X:=jaa X z.o;have Z:=jaa Z z.o;have a0:=HS.o p (bI K);have HP:=Hd K
    obtain⟨x,y⟩:=p
    simp only at X Z a0;clear hcell hb hc K
    by_cases hx:20 < x.size
    ·have b3:(20:Int) < (x.size:Int):=vO
     have q:=Hd (show R=false by rw[J.o];exact jqc HP.o (by unfold jfe;simp;omega));clear hx;go_wp2_with fail
     go_ret
     exact⟨by rw[q.o];rfl,z.o⟩
    ·have b3:¬(20:Int) < (x.size:Int):=vO
     by_cases hy:100 < y.size
     ·have b4:(100:Int) < (y.size:Int):=vO
      have q:=Hd (show R=false by rw[J.o];exact jqc HP.o (by unfold jfe;simp;omega));clear hx hy;go_wp2_with fail
      go_ret
      exact⟨by rw[q.o];rfl,z.o⟩
     ·have b4:¬(100:Int) < (y.size:Int):=vO
      have HG:=Hd (show (l.take (k+1)).all jfe=true by rw[js9 HP.o,E.o];unfold jfe;simp;omega);clear hx hy;go_wp2_with fail
      go_roundw
      case rel=>exact⟨k+1,by omega,by omega,by go_num,z.o,HG.o⟩
      case measure=>exact vJ
   ·have Q:¬(k:Int)<=45:=vO
    have b3:¬(l.length:Int)<=45:=vO
    have q:=Hd (show R=false by rw[J.o];unfold fewB;simp;omega);clear h45;go_wp2_with fail
    go_ret
    exact⟨by rw[q.o];rfl,z.o⟩
  ·have H:k=l.length:=vO
   have b1:¬(k:Int) < (l.length:Int):=vO
   have e:=E.o;rw[H,cF]at e
   by_cases h45:l.length<=45
   ·have Q:(l.length:Int)<=45:=vO
    have q:=Hd (show R=true by rw[J.o];unfold fewB;rw[e];simp;omega);clear H e h45;go_wp2_with fail
    go_ret
    exact⟨by rw[q.o];rfl,z.o⟩
   ·have Q:¬(l.length:Int)<=45:=vO
    have q:=Hd (show R=false by rw[J.o];unfold fewB;simp;omega);clear H e h45;go_wp2_with fail
    go_ret
    exact⟨by rw[q.o];rfl,z.o⟩
abbrev Key:=vN
abbrev EntK:=Ent Key
def kvE(x:EntK):Key × vV:=(x.1,x.2.1)
def getV(m:List (Key × vV))(k:Key):Option vV:=(m.find? fun x=>decide (k=x.1)).map (·.2)
def putV:List (Key × vV)->Key->vV->List (Key × vV)
 | [],k,v=>[(k,v)]
 | x :: r,k,v=>if k=x.1 then (k,v) :: r else x :: putV r k v
def delV:List (Key × vV)->Key->List (Key × vV)
 | [],_=>[]
 | x :: r,k=>if k=x.1 then r else x :: delV r k
structure MapV(es:List EntK)(ck:Nat)(m:List (Key × Value)):Prop where
 same:es.map kvE=m
 born:(es.map (·.2.2)).Nodup
 lt:∀ x∈es,x.2.2 < ck
 keys:(m.map (·.1)).Nodup
theorem MapV.nil(ck:Nat):MapV [] ck []:=⟨rfl,by simp,by simp,by simp⟩
theorem MapV.len{es:List EntK}{ck:Nat}{m:List (Key × vV)}(h:MapV es ck m):es.length=m.length:=by rw[<-h.same];simp
theorem jvf(k:Key):∀ es:List EntK,jaU es k=getV (es.map kvE) k
 | []=>rfl
 | x :: r=>by
  have e:=jvf k r;unfold getV jaU at *;rw[bJ,fS,fS]
  by_cases h:k=x.1
  ·simp[h,kvE]
  ·simp[h,kvE]at e ⊢;exact e
theorem MapV.get{es:List EntK}{ck:Nat}{m:List (Key × vV)}(h:MapV es ck m)(k:Key):jaU es k=getV m k:=by rw[jvf,h.same]
theorem jsi(k:Key)(v:vV)(n:Nat):∀ es:List EntK,(jbk es k v n).map kvE=putV (es.map kvE) k v
 | []=>rfl
 | x :: r=>by
  unfold jbk;rw[bJ,putV]
  by_cases h:k=x.1
  ·rw[if_pos h,if_pos (show k=(kvE x).1 from h),bJ];rfl
  ·rw[if_neg h,if_neg (show ¬ k=(kvE x).1 from h),bJ,jsi k v n r]
theorem ju9(k:Key):∀ es:List EntK,(jcC es k).map kvE=delV (es.map kvE) k
 | []=>rfl
 | x :: r=>by
  unfold jcC;rw[bJ,delV]
  by_cases h:k=x.1
  ·rw[if_pos h,if_pos (show k=(kvE x).1 from h)]
  ·rw[if_neg h,if_neg (show ¬ k=(kvE x).1 from h),bJ,ju9 k r]
theorem jll(x:EntK)(r:List EntK)(k:Key):jaU (x :: r) k=if k=x.1 then some x.2.1 else jaU r k:=by
 by_cases h:k=x.1 <;> simp[jaU,h]
theorem jlT(k:Key)(v:vV)(n:Nat):∀ es:List EntK,(jbk es k v n).map (·.2.2)=if (jaU es k).isSome then es.map (·.2.2)else es.map (·.2.2)++[n]
 | []=>rfl
 | x :: r=>by
  unfold jbk;rw[jll]
  by_cases h:k=x.1
  ·rw[if_pos h,if_pos h];simp
  ·rw[if_neg h,if_neg h,bJ,jlT k v n r]
   cases (jaU r k).isSome <;> simp
theorem jlV(k:Key)(v:vV):∀ m:List (Key × vV),(putV m k v).map (·.1)=if k∈m.map (·.1)then m.map (·.1)else m.map (·.1)++[k]
 | []=>rfl
 | x :: r=>by
  rw[putV]
  by_cases h:k=x.1
  ·rw[if_pos h,if_pos (by simp[h])];simp[h]
  ·rw[if_neg h,bJ,jlV k v r]
   by_cases h2:k∈r.map (·.1)
   ·rw[if_pos h2,if_pos (by rw[bJ];exact bD _ h2)];rfl
   ·rw[if_neg h2,if_neg (by rw[bJ,bK];exact fun e=>e.elim h h2)];rfl
theorem MapV.put{es:List EntK}{ck:Nat}{m:List (Key × vV)}(h:MapV es ck m)(k:Key)(v:vV):MapV (jbk es k v ck) (if (jaU es k).isSome then ck else ck+1) (putV m k v):=by
 have hb:=jlT k v ck es
 refine⟨by rw[jsi,h.same],?_,?_,?_⟩
 ·rw[hb]
  split
  ·exact h.born
  ·rw[dO]
   refine⟨h.born,by simp,fun a q b hb e=>?_⟩
   obtain⟨x,z,H⟩:=bC.1 q
   have:=h.lt x z
   simp at hb;omega
 ·intro x z
  have o:x.2.2∈(jbk es k v ck).map (·.2.2):=bC.2 ⟨x,z,rfl⟩;rw[hb]at o;split at o
  ·rename_i hs
   rw[if_pos hs]
   obtain⟨y,E,e⟩:=bC.1 o
   rw[<-e];exact h.lt y E
  ·rename_i hs
   rw[if_neg hs];rcases bO.1 o with o | o
   ·obtain⟨y,E,e⟩:=bC.1 o
    have:=h.lt y E;omega
   ·simp at o;omega
 ·rw[jlV]
  split
  ·exact h.keys
  ·rename_i hn
   rw[dO]
   exact⟨h.keys,by simp,fun a q b hb e=>by simp at hb;subst hb;subst e;exact hn q⟩
theorem jnB(k:Key):∀ es:List EntK,(jcC es k).Sublist es
 | []=>List.Sublist.refl _
 | x :: r=>by
  unfold jcC;split
  ·exact iQ _ _
  ·exact (jnB k r).cons_cons _
theorem jnD(k:Key):∀ m:List (Key × vV),(delV m k).Sublist m
 | []=>List.Sublist.refl _
 | x :: r=>by
  unfold delV;split
  ·exact iQ _ _
  ·exact (jnD k r).cons_cons _
theorem MapV.del{es:List EntK}{ck:Nat}{m:List (Key × vV)}(h:MapV es ck m)(k:Key):MapV (jcC es k) ck (delV m k):=by
 have e:=jnB k es
 exact⟨by rw[ju9,h.same],h.born.sublist (e.map _),fun x o=>h.lt x (e.subset o),h.keys.sublist ((jnD k m).map _)⟩
structure It where
 text:vB
 refs:vM
 used:Int
 held:Int
abbrev Nd5:=Key × Nat × It
abbrev vT:=List Nd5
theorem Tryz.uMapIt:Tryz.prog.underlying 73=some (.map 9 81):=vY
theorem Tryz.zeroIt(w:vW):(zeroValue 81).run Tryz.prog w=.ok (.pointer none) w:=vY
structure jeJ(W:World)(b:Nat)(it:It):Prop where
 cells:∃ rv,Blk W b (.cells #[.string it.text,rv,.int .i64 it.used,.int .i64 it.held] 83)/\W.ownsRow 0 9 1 rv it.refs.length (it.refs.map Value.string)
def jhn(W:vW)(F:BSet):Prop:=∀ b cur fz,F b->¬ Blk W b (.cells cur 9 fz)
theorem jhn.none(W:vW):jhn W (fun _=>False):=fun _ _ _ h=>h.elim
theorem jcP{W W':vW}{F:BSet}{v:vV}{n:Nat}{xs:List vV}(h:W.ownsRow 0 9 1 v n xs)(k:jad F W W')(hF:jhn W F):W'.ownsRow 0 9 1 v n xs:=by
 refine jaY h k fun b hb z=>?_
 obtain⟨_,⟨o,_⟩ |⟨g,E,q,o,_,H,_⟩⟩:=h
 ·rw[o]at hb;cases hb
 ·rw[o]at hb
  have e:some g=some b:=hb;obtain rfl:=bV e;exact hF g q (0,0) z H
theorem jeJ.keeps{W W':vW}{F:BSet}{b:Nat}{it:It}(h:jeJ W b it)(k:jad F W W')(hb:¬ F b)(hF:jhn W F):jeJ W' b it:=by
 obtain⟨e,o,q⟩:=h.cells
 exact⟨e,o.keeps k hb,jcP q k hF⟩
theorem jeJ.lt{W:vW}{b:Nat}{it:It}(h:jeJ W b it):b < W.heap.size:=by obtain⟨o,e,_⟩:=h.cells;exact e.lt
def kvN(x:Nd5):Key × vV:=(x.1,.pointer (some ⟨x.2.1,0,none⟩))
structure jcG(W:World)(bm:Nat)(L:vT):Prop where
 mp:∃ es ck,Blk W bm (.map (Tryz.ES.arr es) ck)/\MapV es ck (L.map kvN)
 blks:(L.map (·.2.1)).Nodup
 items:∀ x∈L,jeJ W x.2.1 x.2.2
theorem jcG.keeps{W W':vW}{F:BSet}{bm:Nat}{L:vT}(h:jcG W bm L)(k:jad F W W')(hm:¬ F bm)(hL:∀ x∈L,¬ F x.2.1)(hF:jhn W F):jcG W' bm L:=by
 obtain⟨o,q,z,E⟩:=h.mp
 exact⟨⟨o,q,z.keeps k hm,E⟩,h.blks,fun x e=>(h.items x e).keeps k (hL x e) hF⟩
theorem jcG.ext{W W':vW}{bm:Nat}{L:vT}(h:jcG W bm L)(k:Ext W W'):jcG W' bm L:=h.keeps k (fun h=>h) (fun _ _ h=>h) (jhn.none W)
def atL(L:vT)(k:Key):Option Nd5:=L.find? fun x=>decide (k=x.1)
theorem jq8(k:Key):∀ L:vT,getV (L.map kvN) k=(atL L k).map fun x=>.pointer (some ⟨x.2.1,0,none⟩)
 | []=>rfl
 | x :: r=>by
  have e:=jq8 k r;unfold getV atL at *;rw[bJ,fS,fS]
  by_cases h:k=x.1
  ·simp[h,kvN]
  ·simp[h,kvN]at e ⊢;exact e
theorem jaF{L:vT}{k:Key}{x:Nd5}(h:atL L k=some x):x∈L/\x.1=k:=by
 unfold atL at h;have e:=List.find?_some h
 exact⟨List.mem_of_find?_eq_some h,(of_decide_eq_true e).symm⟩
def ptrO(o:Option Nd5):vV:=match o with | some x=>.pointer (some ⟨x.2.1,0,none⟩) | none=>.pointer none
theorem jcG.look{W:vW}{bm:Nat}{L:vT}(h:jcG W bm L)(k:vB)(ok:Bool) :
  (Instr.lookup 73 (.map (some bm)) (.string k) ok).run Tryz.prog W=.ok (if ok then .tuple #[ptrO (atL L k.data.toList),.bool (atL L k.data.toList).isSome]else ptrO (atL L k.data.toList)) W:=by
 obtain⟨q,z,e,o⟩:=h.mp
 have:=jcl Tryz.ES Tryz.uMapIt e (Tryz.zeroIt W) k.data.toList ok
 rw[o.get,jq8]at this;cases ha:atL L k.data.toList with
 | none=>rw[ha]at this;exact this
 | some x=>rw[ha]at this;exact this
structure jaz(W:World)(s bm:Nat)(room:Int)(L:vT):Prop where
 st:Blk W s (.cells #[.int .i64 room,.map (some bm)] 75)
 mp:jcG W bm L
theorem jaz.ext{W W':vW}{s bm:Nat}{room:Int}{L:vT}(h:jaz W s bm room L)(k:Ext W W'):jaz W' s bm room L:=⟨h.st.keeps k (fun h=>h),h.mp.ext k⟩
theorem jiD(w:vW)(s bm:Nat)(room:Int)(L:vT)(k:vB)(h:jaz w s bm room L):vR 19 #[.pointer (some ⟨s,0,none⟩),.string k] w (optV ((atL L k.data.toList).map (·.2.2.text))):=by
 have E:=h.st.cell (i:=1) (v:=.map (some bm)) vF;have e:=h.mp.look k true;have z:=Hd h.mp.items;simp only[if_true]at e;clear h;cases ha:atL L k.data.toList with
 | none =>
  rw[ha]at e;unfold ptrO at e;simp only[Option.isSome]at e;clear ha;go_enter Tryz.func19,Tryz.ntmps19;go_wp2_with fail
  go_ret2
  exact⟨rfl,ExtR w⟩
 | some x =>
  rw[ha]at e
  obtain⟨H,q,_⟩:=(z.o x (jaF ha).1).cells
  have J:=q.cell (i:=0) (v:=.string x.2.2.text) vF;unfold ptrO at e;simp only[Option.isSome]at e;clear ha q;go_enter Tryz.func19,Tryz.ntmps19;go_wp2_with fail
  go_ret2
  exact⟨rfl,ExtR w⟩
def jik(o:Option Nd5):Int:=match o with | some x=>x.2.2.held | none=>0
def jny(o:Option Nd5):Int:=match o with | some x=>x.2.2.used+x.2.2.held | none=>0
def jga(l:vL):Prop:=∀ p∈l,p.1.size<=9223372036854775807/\p.2.size<=9223372036854775807
theorem jbr(a b:vB):jbH a b=true↔Lt a.data.toList b.data.toList:=by
 unfold jbH;rw[bW,bW]
abbrev Pair.k(p:Pair):vN:=p.1.data.toList
def look(m:vL)(k:vN):Option vB:=(m.find? (fun p=>decide (k=p.k))).map (·.2)
theorem jbc(q:Pair)(r:vL)(k:vN):look (q :: r) k=if k=q.k then some q.2 else look r k:=by
 unfold look
 by_cases h:k=q.k <;> simp[fS,h]
def jmk(l:vL):Prop:=l.Pairwise fun p q=>Lt p.k q.k
theorem jed{k:vN}:∀ {m:vL},k ∉ m.map Pair.k->look m k=none
 | [],_=>rfl
 | q :: r,h=>by
  simp only[bJ,bK,not_or]at h;rw[jbc,if_neg h.1,jed h.2]
theorem jjo:∀ (a b:vN),Lt a b\/a=b\/Lt b a
 | [],[]=>.inr (.inl rfl)
 | [],_ :: _=>.inl joh
 | _ :: _,[]=>.inr (.inr joh)
 | a :: x,b :: y=>by
  rcases Nat.lt_trichotomy a.toNat b.toNat with h | h | h
  ·exact .inl (jbx.2 (.inl (dW.2 h)))
  ·have e:=dP.1 h
   subst e;rcases jjo x y with h | h | h
   ·exact .inl (jbx.2 (.inr ⟨rfl,h⟩))
   ·exact .inr (.inl (by rw[h]))
   ·exact .inr (.inr (jbx.2 (.inr ⟨rfl,h⟩)))
  ·exact .inr (.inr (jbx.2 (.inl (dW.2 h))))
theorem jgu{p q:Pair}(h1:p.k=q.k)(h2:p.2=q.2):p=q:=by
 obtain⟨⟨⟨a⟩⟩,b⟩:=p
 obtain⟨⟨⟨c⟩⟩,d⟩:=q
 simp only[Pair.k]at h1 h2;subst h1;subst h2;rfl
theorem jgz:∀ {a b:vL},jmk a->jmk b->(∀ k,look a k=look b k)->a=b
 | [],[],_,_,_=>rfl
 | [],q :: b,_,_,h=>by have:=h q.k;rw[jbc,if_pos rfl]at this;cases this
 | p :: a,[],_,_,h=>by have:=h p.k;rw[jbc,if_pos rfl]at this;cases this
 | p :: a,q :: b,h1,h2,h=>by
  have E:=cY.1 h1;have H:=cY.1 h2;have out:∀ (x:vN) (y:Pair) (m:vL),(∀ z∈m,Lt y.k z.k)->Lt x y.k->look (y :: m) x=none:=fun x y m J O=>by
   refine jed fun o=>?_;rw[bJ,bK]at o;rcases o with e | o
   ·exact lt_irrefl _ (e ▸ O)
   ·obtain⟨z,K,e⟩:=bC.1 o
    exact lt_irrefl _ (jdK _ _ _ O (e ▸ J z K))
  have Q:p.k=q.k:=by
   rcases jjo p.k q.k with e | e | e
   ·have:=h p.k
    rw[out p.k q b H.1 e,jbc,if_pos rfl]at this;cases this
   ·exact e
   ·have:=h q.k
    rw[out q.k p a E.1 e,jbc,if_pos rfl]at this;cases this
  have hv:p.2=q.2:=by
   have:=h p.k
   rw[jbc,if_pos rfl,jbc,if_pos Q]at this;exact bV this
  have e:=jgu Q hv;subst e
  have:a=b:=jgz E.2 H.2 fun k=>by
   have X:=h k;rw[jbc,jbc]at X
   by_cases e:k=p.k
   ·have Z:∀ m:vL,(∀ z∈m,Lt p.k z.k)->look m k=none:=fun m J=>jed fun o=>by
     obtain⟨z,K,e2⟩:=bC.1 o
     have:=J z K
     rw[e2,e]at this;exact lt_irrefl _ this
    rw[Z a E.1,Z b H.1]
   ·rwa [if_neg e,if_neg e]at X
  rw[this]
end Go.Proofs.YtmobgkphhbmhbaaGreatDoor
