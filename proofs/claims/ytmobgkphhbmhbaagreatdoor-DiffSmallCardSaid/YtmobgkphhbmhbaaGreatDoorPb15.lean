/- Lemmas; each is under no condition but those that it states. -/
import Derived.Test.YtmobgkphhbmhbaaGreatDoorPb14
namespace Go.Proofs.YtmobgkphhbmhbaaGreatDoor
set_option linter.unusedSimpArgs false
set_option linter.unusedVariables false
set_option maxRecDepth 100000
set_option maxHeartbeats 16000000
open Go Go.RowKit
section
attribute [local go_sem] Oper.semAt_some
theorem jf2:∀ (l:vM) (i:Nat),((jaE i l).filterMap fun x=>jcA x.2)=l.filterMap jcA
 | [],_=>rfl
 | x :: l,i=>by
  unfold jaE
  by_cases h:x.size=0
  ·rw[if_pos h,jf2 l,fX,jbp h,jeW]
  ·rw[if_neg h,fX,fX,jf2 l]
def jcn(n:jae)(k:Nat):vM:=(n.refsL.take k).filterMap fun x=>jcA x.2
theorem jrb(n:jae):jcn n n.refsL.length=jaF n:=by
 unfold jcn;rw[cG];exact jf2 _ _
theorem jpt(n:jae){k:Nat}(hk:k < n.refsL.length):jcn n (k+1)=jcn n k++(jcA (n.rr k)).toList:=by
 unfold jcn;rw[cR hk,List.filterMap_append]
 congr 1
 have:n.rr k=(n.refsL[k]).2:=by simp[jae.rr,bG,hk]
 rw[this,fX];cases jcA (n.refsL[k]).2 <;> rfl
theorem jrc(n:jae)(k:Nat):(jcn n k).length<=n.refs.length:=by
 have o:∀ (l:vM) (i:Nat),(jaE i l).length<=l.length:=by
  intro l;induction l with
  | nil=>intro i;simp[jaE]
  | cons x r ih=>intro i;unfold jaE;split <;> simp <;> have:=ih (i+1) <;> omega
 have q:=o n.refs 0;unfold jcn;have e:=iI (fun x:Nat × vB=>jcA x.2) (n.refsL.take k);rw[fB]at e
 have:n.refsL=jaE 0 n.refs:=rfl
 rw[this]at e ⊢;omega
theorem jok{x:vB}{l:vM}(h:x∈l):x.size<=(jb4 l).size:=bK (jhs l x h) (jki l)
theorem joi{d:Nat}{r:vB}(h:MayP (InlD d) r)(hs:r.size < 32):jcA r=none:=by
 rcases h with h |⟨m,h⟩
 ·have:=h.size;omega
 ·exact jdE (inlP d) h
theorem jmi{d:Nat}{n:jae}(h:jck (InlD d) n)(hs:(jaU n).size < 32):jaF n=[]:=by
 unfold jaF;cases h with
 | none=>exact jd7 16
 | leaf p v h1 h2 h3=>exact jd7 16
 | ext p r h1 h2 h3 =>
  show (r :: jat 15).filterMap jcA=[];have o:r.size < 32:=by
   have e:jaU ⟨2,p,⟨#[]⟩,r :: jat 15⟩=jb4 [jaC (putB p false),r]:=rfl
   have:=jok (x:=r) (l:=[jaC (putB p false),r]) (by simp)
   rw[e]at hs;omega
  rw[fX,jd7,joi (h3.imp id fun ⟨m,h,_⟩=>⟨m,h⟩) o]
 | branch v rs h1 h2 h3 h4 =>
  show rs.filterMap jcA=[];rw[List.filterMap_eq_nil_iff];intro r o
  by_cases h0:r.size=0
  ·rw[jbp h0,jeW]
  ·have e:jaU ⟨3,⟨#[]⟩,v,rs⟩=jb4 (jbG rs v):=by
    show jb4 (jbN _)=_;rw[jfk _ h1]
   have q:r∈jbG rs v:=by
    unfold jbG;refine bR.2 (.inl (bH.2 ⟨r,o,?_⟩));rw[if_neg h0]
   have:=jok q
   rw[e]at hs;exact joi (h3 r o h0) vO
theorem jxZ{w:vW}{B:Nat}{T:TypeId}{sz:Nat}{ad:Option Addr}{n cp:Nat}{xs:List vV}(h:w.ownsRow B T sz (.slice ad n cp) n xs):n<=cp:=by
 obtain⟨_,⟨e,o⟩ |⟨g,q,z,e,o,A,E,_⟩⟩:=h
 ·omega
 ·obtain⟨_,_,H⟩:=fR e;omega
structure HsS(w:World)(g3 gi m:Nat)(n:jae)(k:Nat)(W:World):Prop where
 ext:Ext w W
 it:Blk W gi (.cells n.cells.toArray 181)
 row:∃ v,Blk W g3 (.cells #[v] 22)/\W.ownsRow 0 9 1 v (jcn n k).length ((jcn n k).map Value.string)/\(∀ b,v.ownBlock=some b->m+2<=b)/\(jcn n k=[]->v=.slice none 0 0)
theorem HsS.st{w:vW}{g3 gi m:Nat}{n:jae}{k:Nat}{W W':vW}(h:HsS w g3 gi m n k W)(e:Ext W W'):HsS w g3 gi m n k W':=
 let ⟨v,h1,h2,h3,h4⟩:=h.row
 ⟨h.ext.trans e,h.it.keeps e (fun h=>h),v,h1.keeps e (fun h=>h),jbl h2 e,h3,h4⟩
theorem HsS.put{w:vW}{g3 gi m:Nat}{n:jae}{k:Nat}{W:vW}(h:HsS w g3 gi m n k W){r:Nat}(hr:w.heap.size<=r)(h1:g3 < r)(h1':gi < r)(h2:r < m+2)(o:Obj):HsS w g3 gi m n k (W.putObj r o):=
 let ⟨v,h3,h4,h5,h6⟩:=h.row
 ⟨h.ext.putObj (.inr hr) _,h.it.put_other vO _,v,h3.put_other vO _,ja4 h4 (jad.onePut W r o) (fun b hb e=>by have:=h5 b hb;omega),h5,h6⟩
def jsS(w:vW)(n:jae)(e:Ending)(w':vW):Prop:=∃ v,e=.returned v/\SRow w w' v (jaF n).length (jaF n)/\(jaF n=[]->v=.slice none 0 0)
theorem jn4{I:vB->jae->Prop}{n:jae}(h:jck I n):∀ r∈n.refs,r.size≠0->MayP I r:=by
 have q:∀ r∈jat 16,r.size≠0->MayP I r:=fun r z e=>by rw[fU z]at e;exact absurd rfl e
 cases h with
 | none=>exact q
 | leaf p v h1 h2 h3=>exact q
 | ext p r h1 h2 h3 =>
  intro x o e;rcases bJ.1 o with rfl | o
  ·exact h3.imp id fun ⟨m,h,_⟩=>⟨m,h⟩
  ·rw[fU o]at e;exact absurd rfl e
 | branch v rs h1 h2 h3 h4=>exact h3
theorem jii(d:Nat)(n:jae)(h:jck (InlD d) n)(ih:∀ r m,InlD d r m->∀ w,vQ 80 #[m.V] w (jsS w m))(w:vW):vQ 80 #[n.V] w (jsS w n):=by
 have hr:=(h.one (inlP d)).refs
 obtain⟨i0,hi,e2,e3,e4⟩:=info_parts Tryz.infoStr
 have HV:=Hd (fun w=>jkN (inlP d) w n h);have HM:=Hd (jn4 h);have e5:=Hd ih;have HQ:=Hd (show ∀ (v:vV) W',jsS w n (.returned v) W'↔(SRow w W' v (jaF n).length (jaF n)/\(jaF n=[]->v=.slice none 0 0))from fun v W'=>⟨fun ⟨_,e,h⟩=>by cases e;exact h,fun h=>⟨v,rfl,h⟩⟩);have a9:=jax (w.alloc (.cells n.cells.toArray 132)) _ n hr (Blk.new w _);clear h ih;unfold jae.V at a9 ⊢;refine (callsIn_wide (n:=0)).1 ?_;refine callsIn_of_wp_marks Tryz.func80 rfl trivial ?_ rfl;simp only[Tryz.ntmps80,dB,bP,dN,Nat.reduceAdd,Nat.reduceSub,dG,dF,dU,dM,cP,cV];gi_wp2_with (refine jbo rfl 132 (.tmp 1) rfl _ _ rfl a9 ?_)
 refine⟨trivial,rfl,CallsIn.mono (callsIn_wide.2 (HV.o _)) ?_⟩
 rintro e w1 ⟨rfl,J⟩;have b0:=(Blk.new w (.cells n.cells.toArray 132)).keeps J (fun h=>h);have b1:=Hd (((ExtR w).alloc _).trans J)
 obtain⟨W2,a3⟩:=vE (w1.alloc (.cells #[.slice none 0 0] 22))
 have c1:=Hd a3;have c2:Blk W2 w.heap.size (.cells n.cells.toArray 132):=by rw[a3];exact b0.alloc _
 have z:=Hd (show Blk W2 w1.heap.size (.cells #[.slice none 0 0] 22) by rw[a3];exact Blk.new w1 _);have c3:=Hd (show Ext w W2 by rw[a3];exact b1.o.alloc _);have a1:=jax W2 _ n hr c2;have e6:=b0.lt;rw[a3]at a1;clear a9 J b0 a3 c2;unfold jae.V at a1;gi_wp2_with (refine jbo rfl 132 (.tmp 1) rfl _ _ rfl a1 ?_)
 rw[<-c1.o]
 refine⟨trivial,rfl,CallsIn.mono (callsIn_wide.2 (joB W2 n)) ?_⟩
 rintro e w3 ⟨rfl,a7,J⟩;have a5:=z.o.lt
 obtain⟨gi,c4⟩:∃ g,g=W2.heap.size:=⟨_,rfl⟩
 obtain⟨E,a2⟩:∃ g,g=w1.heap.size:=⟨_,rfl⟩
 rw[<-a2]at z a5 e6;rw[<-c4]at a7 a5 ⊢;rw[<-a2];have S0:HsS w E gi w3.heap.size n 0 w3:=⟨c3.o.trans J,a7,_,z.o.keeps J (fun h=>h),fM _ _ _ _,(fun b hb=>by cases hb),(fun _=>rfl)⟩;have f8:=a7.lt;have e7:=b1.o.size;have e8:=Hd S0;have a4:=Hd (show w.heap.size<=E by omega);clear a1 a7 J b1 c1 z c3 S0 e7 c4 a2;gi_wp2_with fail
 refine jeo (N:=n.refsL.length) (gf:=163) (lb:=#[.pointer (some ⟨gi,0,none⟩)]) rfl (vX 163) (jkE gi n hr)
  (fun k=>rfl) (HsS w E gi w3.heap.size n) (fun _ _ _=>False) (fun k W W' h e=>h.st e) (fun _ _ _ _ h _=>h) (fun k W h=>h.it)
  (fun k W o h=>h.put (by have:=a4.o;omega) vO vO vO _)
  (fun k W o h=>h.put (by have:=a4.o;omega) vO vO vO _) (fun _ _ _ _ h=>h)
  e8.o (fun k=>{ tmps:=#[.agg n.cells.toArray,.pointer (some ⟨w.heap.size,0,none⟩),.slice none 0 0,.pointer (some ⟨E,0,none⟩),undef,.string (n.rr k),undef,undef,undef,undef,.agg n.cells.toArray,.bool true,.bool false,.agg n.cells.toArray,.func (.func 163) #[] #[.pointer (some ⟨gi,0,none⟩)],.int .i64 (n.ri k:Nat),.string (n.rr k),undef,undef,undef,undef,undef,undef,undef,undef,undef,undef,undef,undef,undef,undef,undef,undef,undef,undef,undef,undef],defers:=[] })
  ?hassign ?hbody ?hdone ?hstop
 case hassign =>
  intro l j W K hK;rw[jus,jq4];simp only[dI,cY];gi_wp2;exact hK
 case hbody =>
  intro l k W hk hS f9;have b2:=juo n hr hk;have a6:=HM.o _ (bI b2.2.1) b2.2.2;have b3:=jpt n hk;have e9:=jrc n k;rw[hr]at e9
  obtain⟨r,c5⟩:=vE (n.rr k)
  rw[<-c5]at a6 b3 ⊢;have HS:=Hd hS;have c6:=Hd b3;have c7:=a4.o;have b4:=Hd c7;clear hS b2 b3 c5 c7;rcases a6 with hh |⟨m,hm⟩
  ·obtain⟨hs,x,q,H,O⟩:=hh.known
   have HX:=Hd (show jcn n (k+1)=jcn n k++[x] by
    rw[c6.o];unfold jcA;rw[H];show _++(jeV r q).toList=_;rw[O];rfl)
   have H3:=Hd H;have H4:=Hd O;clear H O hh;gi_wp2_with fail
   refine⟨trivial,rfl,CallsIn.mono (CallsIn.inRound l (callsIn_wide.2 (jeJ W r q hs H3.o))) ?_⟩
   rintro e w5 ⟨rfl,J⟩;rw[H4.o];have S5:=HS.o.st J
   obtain⟨v,A,Q,H,O⟩:=S5.row
   obtain⟨X,Z,rfl⟩:=jaO Q
   have q4:w5.cell? ⟨E,0,none⟩=some (.slice X (jcn n k).length Z):=A.cell (i:=0) vF;have f4:w5.frozen? ⟨E,0,none⟩=false:=A.frozen;have g0:=J.size;have c8:=Hd S5;have a8:=Hd J;have b5:=Hd A;have b6:=Hd Q;have z:=Hd H;clear S5 A Q H O J;unfold optV;gi_wp2_with (gi_at_builtin;refine jb2 _ rfl (.tmp 23) (.tmp 25) 22 rfl 9 i0 _ 1 16 Tryz.uStrs hi e2 e3 e4 rfl vI (.slice X (jcn n k).length Z) (jcn n k).length _ rfl (jbl b6.o ((ExtR w5).alloc _)) ⟨w5.heap.size,0,none⟩ 1 1 [.string x] rfl rfl (ja5 (Blk.new w5 _)) (by simp[Value.oneCell']) (by unfold maxLen;omega) vO ?_)
   intro v' w6 r1 r2 r3;have K6:jad (fun b=>(Value.slice X (jcn n k).length Z).ownBlock=some b) w5 w6:=((jad.refl _ w5).alloc _).trans r2;have hl:(jcn n (k+1)).length=(jcn n k).length+1:=by rw[HX.o];simp
   have r1:w6.ownsRow 0 9 1 v' (jcn n (k+1)).length ((jcn n (k+1)).map Value.string):=by
    rw[hl,HX.o,bY];exact r1
   have nb:∀ b,b < w3.heap.size+2->¬(Value.slice X (jcn n k).length Z).ownBlock=some b:=fun b hb e=>by have:=z.o b e;omega
   obtain⟨c9,d0,rfl⟩:=jaO r1
   have d1:∀ b,(Value.slice c9 (jcn n (k+1)).length d0).ownBlock=some b->w3.heap.size+2<=b:=fun b hb=>by
    rcases r3 with r3 | r3
    ·exact z.o b (r3 ▸ hb)
    ·have:=r3 b hb;first | omega |(simp at this;omega)
   have B4:=b5.o.keeps K6 (nb _ vO);have g1:w6.cell? ⟨E,0,none⟩=some (.slice X (jcn n k).length Z):=B4.cell (i:=0) vF;have g2:w6.frozen? ⟨E,0,none⟩=false:=B4.frozen;have b7:=Hd K6;have b8:=Hd B4;have R1:=Hd r1;have d2:=Hd d1;have NB:=Hd nb;clear K6 r1 r2 r3 d1 B4 nb q4 f4 hl;gi_wp2;have k7:jad (fun b=>b=E) w6 (w6.setCell ⟨E,0,none⟩ (.slice c9 (jcn n (k+1)).length d0)):=jad.oneSet w6 ⟨E,0,none⟩ _
   refine⟨((a8.o.mono (fun _ _ h=>h.elim)).trans (b7.o.mono (fun x _ e=>?_))).trans' k7 (fun x _ e=>?_),?_⟩
   ·have:=z.o x e;show x≠_/\x≠_;omega
   ·have e:x=_:=e;show x≠_/\x≠_;omega
   ·refine⟨(c8.o.ext.trans' b7.o (fun x hx e=>by have:=z.o x e;have:=b4.o;omega)).trans' k7 (fun x hx e=>by have e:x=_:=e;have:=b4.o;omega),
     (c8.o.it.keeps b7.o (NB.o _ vO)).keeps k7 (fun e=>by omega),
     _,b8.o.set_same (i:=0) _,ja4 R1.o k7 (fun b hb e=>by have:=d2.o b hb;omega),d2.o,fun h0=>?_⟩
    rw[HX.o]at h0;simp at h0
  ·have hs:=(inlP d).small r m hm
   obtain⟨q,H,O⟩:=(inlP d).nohash r m hm
   have HX:=Hd (show jcn n (k+1)=jcn n k by
    rw[c6.o,jdE (inlP d) hm];simp)
   have HC:=Hd ((inlP d).inl r m hm);have b9:=Hd ((inlP d).refs r m hm);have H3:=Hd H;have H4:=Hd O;have f0:=Hd (show ∀ W,vQ 80 #[m.V] W fun e W'=>e=.returned (.slice none 0 0)/\Ext W W' from fun W=>by
    have f1:jaF m=[]:=by
     cases d with
     | zero=>exact hm.elim
     | succ d=>exact jmi hm.1 (by rw[<-hm.2.1];exact hm.2.2.1)
    refine (e5.o r m hm W).mono ?_;rintro e W' ⟨v,rfl,A,Q⟩;rw[Q f1];exact⟨rfl,A.ext⟩)
   clear H O hm;gi_wp2_with fail
   refine⟨trivial,rfl,CallsIn.mono (CallsIn.inRound l (callsIn_wide.2 (jeJ W r q vO H3.o))) ?_⟩
   rintro e w5 ⟨rfl,J⟩;rw[H4.o];have a8:=Hd J;clear J;unfold optV;gi_wp2_with fail
   refine⟨trivial,rfl,CallsIn.mono (CallsIn.inRound l (callsIn_wide.2 (HC.o w5))) ?_⟩
   rintro e w6 ⟨rfl,J⟩;have d3:=Hd (a8.o.trans J);clear J a8;unfold jae.V;gi_wp2_with (refine jmt Tryz.allocNode rfl rfl ?_;intro W7 d4 d5;refine jkQ (vs:=m.cells) rfl rfl rfl rfl d4 (by rw[m.cells_len b9.o];rfl) (by rw[m.cells_len b9.o];exact Tryz.szNode) m.one ?_;intro W8 d6 d7)
   have c0:Ext w6 W8:=d5.trans' d7 (fun x hx e=>by have e:x=w6.heap.size:=e;omega);have S8:=HS.o.st (d3.o.trans c0)
   obtain⟨v,A,Q,H,O⟩:=S8.row
   obtain⟨X,Z,rfl⟩:=jaO Q
   have d8:=jxZ Q;have f2:=Hd S8;have f3:=Hd d6;have H1:=Hd A;have f5:=Hd c0;have f6:=Hd d8;clear d4 d5 d7 d6 c0 S8 A Q H O d8;gi_wp2_with fail
   refine jhg [0,1,2,3,4] [4] Ext ExtR ExtT vY vY vY vY ?_;refine qL ⟨E,0,none⟩ _ rfl (fun w1 A=>jac Tryz.uStrs rfl (jaa (by exact H1.o.cell (i:=0) (v:=.slice X (jcn n k).length Z) vF) ((jam _).trans A))) ?_;refine vS ?_;refine qL ⟨w6.heap.size,0,none⟩ _ rfl (fun w1 A=>jax w1 _ m b9.o (f3.o.keeps ((jam _).trans A) (fun h=>h))) ?_;refine vS ?_;refine jc3 _ 80 #[m.V] (.slice none 0 0) rfl vY rfl (fun w1=>jaB (vX 80) vY) (fun w1 A=>f0.o w1) ?_;refine vS ?_;refine qA _ (.slice X (jcn n k).length Z) rfl (fun w1=>jdD (jch Tryz.uStrs hi X (jcn n k).length Z f6.o 0 w1) vY) ?_;refine vS ?_;refine qH _ rfl (fun w1 he K hK=>?_);have S9:=f2.o.st ((jam _).trans he);have d9:Ext W w1:=(d3.o.trans f5.o).trans ((jam _).trans he)
   obtain⟨v,A,Q,H,O⟩:=S9.row
   have a0:w1.cell? ⟨E,0,none⟩=some (.slice X (jcn n k).length Z):=jaa (H1.o.cell (i:=0) (v:=.slice X (jcn n k).length Z) vF) ((jam _).trans he);have e0:v=.slice X (jcn n k).length Z:=by
    have:=A.cell (i:=0) (v:=v) vF
    rw[a0]at this;exact (bV this).symm
   rw[e0]at A Q H O;have q4:=a0;have f4:w1.frozen? ⟨E,0,none⟩=false:=A.frozen;have e1:=Hd S9;have b5:=Hd A;have b6:=Hd Q;have z:=Hd H;have b8:=Hd O;have f7:=Hd d9;clear S9 a0 e0 A Q H O he d9;go_simp;refine hK _ _ ?_;clear hK K q4 f4;refine qE (fun w2 he=>?_);have k7:jad (fun b=>b=E) w1 (w1.setCell ⟨E,0,none⟩ (.slice X (jcn n k).length Z)):=jad.oneSet w1 ⟨E,0,none⟩ _;have k8:jad (fun b=>b=E) w1 w2:=k7.trans (he.mono (fun _ _ h=>h.elim))
   refine⟨(f7.o.mono (fun _ _ h=>h.elim)).trans' k8 (fun x _ e=>?_),?_⟩
   ·have e:x=_:=e;show x≠_/\x≠_;omega
   ·refine⟨e1.o.ext.trans' k8 (fun x hx e=>by have e:x=_:=e;have:=b4.o;omega),e1.o.it.keeps k8 (fun e=>by omega),.slice X (jcn n k).length Z,(b5.o.set_same (i:=0) _).keeps he (fun h=>h),?_⟩
    rw[HX.o]
    exact⟨ja4 b6.o k8 (fun b hb e=>by have:=z.o b hb;omega),z.o,b8.o⟩
 case hdone =>
  intro W hS hd
  obtain⟨v,A,Q,H,O⟩:=hS.row
  rw[jrb]at Q O
  obtain⟨X,Z,rfl⟩:=jaO Q
  have q4:W.cell? ⟨E,0,none⟩=some (.slice X (jaF n).length Z):=A.cell (i:=0) vF;have HS:=Hd hS;have HR:=Hd (show ORow 9 1 w W (.slice X (jaF n).length Z) (jaF n).length ((jaF n).map Value.string)from⟨⟨_,_,rfl⟩,Q,hS.ext,fun b hb=>by have:=H b hb;have:=a4.o;omega⟩);have H3:=Hd H;have H4:=Hd O;have HD:=Hd hd;clear hS A Q H O hd;gi_wp2
  refine⟨by simp,.inl ⟨_,_,rfl,run_takeDeferred HD.o,?_⟩⟩
  refine⟨.slice X (jaF n).length Z,by simp[results,Tryz.results80,go_sem],(HQ.o _ _).2 ⟨HR.o.keeps (jad.onePut W w3.heap.size (.deferred none)) (fun b hb e=>by have:=H3.o b hb;omega) (fun b hb e=>by have:=a4.o;omega),H4.o⟩⟩
 case hstop=>intro c k W _ _ h;exact h.elim
theorem jkd:∀ (d:Nat) (n:jae),jck (InlD d) n->∀ w,vQ 80 #[n.V] w (jsS w n)
 | 0,n,h,w=>jii 0 n h (fun _ _ e=>e.elim) w
 | d+1,n,h,w=>jii (d+1) n h (fun r m e w=>jkd d m e.1 w) w
end
section
open Classical in
noncomputable def nodeOf(t:vB):jae:=if h:∃ n,jbi t n then h.choose else jaV
theorem jdd{t:vB}{n:jae}(h:jbi t n):jbi t (nodeOf t):=by
 unfold nodeOf;have e:∃ n,jbi t n:=⟨n,h⟩;rw[dif_pos e];exact e.choose_spec
theorem jih{t:vB}{n:jae}(h:jbi t n):(jaF n).length<=16:=by
 obtain⟨_,g,e⟩:=h
 have:=(e.one (inlP g)).refs
 unfold jaF;have o:=iI jcA n.refs;omega
theorem jpI{L:vM}(h:L.Nodup){i:Nat}{t:vB}(ht:L[i]?=some t):t ∉ L.take i:=fun o=>by
 obtain⟨k,A,e⟩:=List.mem_take_iff_getElem.1 o
 obtain⟨q,z⟩:=bU.1 ht
 exact gO.1 h k i vO q vO (e.trans z.symm)
theorem jf6{P:Program}{t T:TypeId}{sz by':Nat}(I:jeq P t T sz by'){ops:Array Oper}{rest:List Oper}{d:Option Tmp}{ty:TypeId}{pos:String}{af:Array Edge}{a:Act}{w:vW}{Q:Exit->Act->vW->Prop}{s x:Operand}{base:Option Addr}{n c c2:Nat}
  (hs:a.eval s=.slice base n c) (hx:a.eval x=.slice none 0 c2) (hle:n<=c) (h:wpList P ops Q rest (a.put d (.slice base n c)) w) :
  wpList P ops Q (⟨d,.call { callee:=.builtin .append,args:=#[s,x],argTypes:=#[t,t] },ty,pos,af,none⟩ :: rest) a w:=by
 obtain⟨i,z,e,_⟩:=I.hi
 exact wpList_plain rfl fun K o=>jcr (jdD (jch I.ht e base n c hle c2 w) (by simp[hs,hx])) (o _ _ h)
end
theorem jlU(w:vW)(v:vV)(l:vL)(hv:RdP w v l)(hn:l.length<=9223372036854775807)(hs:∀ p∈l,p.1.size<=9223372036854775807/\p.2.size<=9223372036854775807)(h:jap l≠0):vR 30 #[v] w (.tuple #[.slice none 0 0,.int .i64 (jap l)]):=by
 have q:=jgS w v l hv hn hs
 obtain⟨a,c,rfl⟩:=hv.sl
 obtain⟨x,z⟩:=vE (jap l)
 rw[<-z]at h q ⊢;have E:(x == 0)=false:=by simpa using h
 have H:=Hd q;clear q hv z hs;refine (callsIn_wide (n:=0)).1 ?_;refine callsIn_of_wp_marks Tryz.func30 rfl trivial ?_ rfl;simp only[Tryz.ntmps30,dB,bP,dN,Nat.reduceAdd,Nat.reduceSub,dG,dF,dU,dM,cP,cV];gi_wp2_with fail
 refine⟨trivial,rfl,CallsIn.mono (callsIn_wide.2 H.o) ?_⟩
 rintro e w1 ⟨rfl,A⟩;have J:=Hd A;clear A;gi_wp2_with fail
 refine⟨_,results_tmp2 rfl _ _ _,?_⟩
 exact⟨rfl,J.o⟩
def jfe(p:Pair):Bool:=decide (p.1.size<=20) && decide (p.2.size<=100)
def fewB(l:vL):Bool:=l.all jfe && decide (l.length<=45)
def jyl(w:vW)(l:vL)(i:vV)(wr:vW):Prop:=∃ k:Nat,k<=l.length/\k<=46/\i=.int .i64 k/\Ext w wr/\(l.take k).all jfe=true
theorem jsZ{l:vL}{k:Nat}{p:Pair}(h:l[k]?=some p):(l.take (k+1)).all jfe=((l.take k).all jfe && jfe p):=by
 rw[cE,h,List.all_append];simp
theorem jqf{l:vL}{k:Nat}{p:Pair}(h:l[k]?=some p)(hb:jfe p=false):fewB l=false:=by
 unfold fewB
 have:l.all jfe=false:=by
  rw[gA];intro e
  have:=dS.1 e p (bI h)
  rw[hb]at this;cases this
 rw[this];rfl
theorem juX(w:vW)(v:vV)(l:vL)(hv:RdP w v l)(hn:l.length<=9223372036854775807)(hs:∀ p∈l,p.1.size<=9223372036854775807/\p.2.size<=9223372036854775807) :
  vR 54 #[v] w (.bool (fewB l)):=by
 have HV:=Hd hv;have HS:=Hd hs
 obtain⟨a,c,rfl⟩:=hv.sl;clear hv hs
 obtain⟨R,K⟩:=vE (fewB l)
 rw[<-K];have H:=Hd K;clear K;go_enter Tryz.func54,Tryz.ntmps54;go_wp2_with fail
 go_loopw [3] (fun i wr=>jyl w l i wr) (fun i _=>l.length - (intOf i).toNat)
 case atStart=>exact⟨0,by omega,by omega,rfl,ExtR w,rfl⟩
 case round =>
  obtain⟨k,hk,a0,rfl,hE,e⟩:=hrel
  have z:=Hd hE;have A:=Hd e;clear hE e
  by_cases hlt:k < l.length
  ·have b1:(k:Int) < (l.length:Int):=vO
   by_cases h45:k<=45
   ·have O:(k:Int)<=45:=vO
    obtain⟨p,J⟩:∃ p,l[k]?=some p:=⟨_,bA hlt⟩
    rcases HV.o with⟨_,_,_,h0⟩ |⟨b,o,c1,hh,hb,hc,hcell⟩
    ·rw[h0]at hlt;cases hlt
    cases hh
    obtain⟨Q,X⟩:=hcell k p J
    have Q:=jaa Q z.o;have X:=jaa X z.o;have Z:=HS.o p (bI J);have HP:=Hd J
    obtain⟨x,y⟩:=p
    simp only at Q X Z;clear hcell hb hc J
    by_cases hx:20 < x.size
    ·have b3:(20:Int) < (x.size:Int):=vO
     have q:=Hd (show R=false by rw[H.o];exact jqf HP.o (by unfold jfe;simp;omega));clear hx;go_wp2_with fail
     go_ret
     exact⟨by rw[q.o];rfl,z.o⟩
    ·have b3:¬(20:Int) < (x.size:Int):=vO
     by_cases hy:100 < y.size
     ·have b4:(100:Int) < (y.size:Int):=vO
      have q:=Hd (show R=false by rw[H.o];exact jqf HP.o (by unfold jfe;simp;omega));clear hx hy;go_wp2_with fail
      go_ret
      exact⟨by rw[q.o];rfl,z.o⟩
     ·have b4:¬(100:Int) < (y.size:Int):=vO
      have HG:=Hd (show (l.take (k+1)).all jfe=true by rw[jsZ HP.o,A.o];unfold jfe;simp;omega);clear hx hy;go_wp2_with fail
      go_roundw
      case rel=>exact⟨k+1,by omega,by omega,by go_num,z.o,HG.o⟩
      case measure=>exact vJ
   ·have O:¬(k:Int)<=45:=vO
    have b3:¬(l.length:Int)<=45:=vO
    have q:=Hd (show R=false by rw[H.o];unfold fewB;simp;omega);clear h45;go_wp2_with fail
    go_ret
    exact⟨by rw[q.o];rfl,z.o⟩
  ·have E:k=l.length:=vO
   have b1:¬(k:Int) < (l.length:Int):=vO
   have e:=A.o;rw[E,cG]at e
   by_cases h45:l.length<=45
   ·have O:(l.length:Int)<=45:=vO
    have q:=Hd (show R=true by rw[H.o];unfold fewB;rw[e];simp;omega);clear E e h45;go_wp2_with fail
    go_ret
    exact⟨by rw[q.o];rfl,z.o⟩
   ·have O:¬(l.length:Int)<=45:=vO
    have q:=Hd (show R=false by rw[H.o];unfold fewB;simp;omega);clear E e h45;go_wp2_with fail
    go_ret
    exact⟨by rw[q.o];rfl,z.o⟩
abbrev Key:=vN
abbrev EntK:=Ent Key
def kvE(x:EntK):Key × vV:=(x.1,x.2.1)
def getV(m:List (Key × vV))(k:Key):Option vV:=(m.find? fun x=>decide (k=x.1)).map (·.2)
def putV:List (Key × vV)->Key->vV->List (Key × vV)
 | [],k,v=>[(k,v)]
 | x :: r,k,v=>if k=x.1 then (k,v) :: r else x :: putV r k v
structure MapV(es:List EntK)(ck:Nat)(m:List (Key × Value)):Prop where
 same:es.map kvE=m
 born:(es.map (·.2.2)).Nodup
 lt:∀ x∈es,x.2.2 < ck
 keys:(m.map (·.1)).Nodup
theorem MapV.nil(ck:Nat):MapV [] ck []:=⟨rfl,by simp,by simp,by simp⟩
theorem MapV.len{es:List EntK}{ck:Nat}{m:List (Key × vV)}(h:MapV es ck m):es.length=m.length:=by rw[<-h.same];simp
theorem juY(k:Key):∀ es:List EntK,jaS es k=getV (es.map kvE) k
 | []=>rfl
 | x :: r=>by
  have e:=juY k r;unfold getV jaS at *;rw[bL,fS,fS]
  by_cases h:k=x.1
  ·simp[h,kvE]
  ·simp[h,kvE]at e ⊢;exact e
theorem MapV.get{es:List EntK}{ck:Nat}{m:List (Key × vV)}(h:MapV es ck m)(k:Key):jaS es k=getV m k:=by rw[juY,h.same]
theorem jr9(k:Key)(v:vV)(n:Nat):∀ es:List EntK,(jbj es k v n).map kvE=putV (es.map kvE) k v
 | []=>rfl
 | x :: r=>by
  unfold jbj;rw[bL,putV]
  by_cases h:k=x.1
  ·rw[if_pos h,if_pos (show k=(kvE x).1 from h),bL];rfl
  ·rw[if_neg h,if_neg (show ¬ k=(kvE x).1 from h),bL,jr9 k v n r]
theorem jlw(x:EntK)(r:List EntK)(k:Key):jaS (x :: r) k=if k=x.1 then some x.2.1 else jaS r k:=by
 by_cases h:k=x.1 <;> simp[jaS,h]
theorem jl4(k:Key)(v:vV)(n:Nat):∀ es:List EntK,(jbj es k v n).map (·.2.2)=if (jaS es k).isSome then es.map (·.2.2)else es.map (·.2.2)++[n]
 | []=>rfl
 | x :: r=>by
  unfold jbj;rw[jlw]
  by_cases h:k=x.1
  ·rw[if_pos h,if_pos h];simp
  ·rw[if_neg h,if_neg h,bL,jl4 k v n r]
   cases (jaS r k).isSome <;> simp
theorem jl6(k:Key)(v:vV):∀ m:List (Key × vV),(putV m k v).map (·.1)=if k∈m.map (·.1)then m.map (·.1)else m.map (·.1)++[k]
 | []=>rfl
 | x :: r=>by
  rw[putV]
  by_cases h:k=x.1
  ·rw[if_pos h,if_pos (by simp[h])];simp[h]
  ·rw[if_neg h,bL,jl6 k v r]
   by_cases h2:k∈r.map (·.1)
   ·rw[if_pos h2,if_pos (by rw[bL];exact bC _ h2)];rfl
   ·rw[if_neg h2,if_neg (by rw[bL,bJ];exact fun e=>e.elim h h2)];rfl
theorem MapV.put{es:List EntK}{ck:Nat}{m:List (Key × vV)}(h:MapV es ck m)(k:Key)(v:vV):MapV (jbj es k v ck) (if (jaS es k).isSome then ck else ck+1) (putV m k v):=by
 have hb:=jl4 k v ck es
 refine⟨by rw[jr9,h.same],?_,?_,?_⟩
 ·rw[hb]
  split
  ·exact h.born
  ·rw[dY]
   refine⟨h.born,by simp,fun a q b hb e=>?_⟩
   obtain⟨x,z,E⟩:=bH.1 q
   have:=h.lt x z
   simp at hb;omega
 ·intro x z
  have o:x.2.2∈(jbj es k v ck).map (·.2.2):=bH.2 ⟨x,z,rfl⟩;rw[hb]at o;split at o
  ·rename_i hs
   rw[if_pos hs]
   obtain⟨y,A,e⟩:=bH.1 o
   rw[<-e];exact h.lt y A
  ·rename_i hs
   rw[if_neg hs];rcases bR.1 o with o | o
   ·obtain⟨y,A,e⟩:=bH.1 o
    have:=h.lt y A;omega
   ·simp at o;omega
 ·rw[jl6]
  split
  ·exact h.keys
  ·rename_i hn
   rw[dY]
   exact⟨h.keys,by simp,fun a q b hb e=>by simp at hb;subst hb;subst e;exact hn q⟩
structure It where
 text:vB
 refs:vM
 used:Int
 held:Int
abbrev Nd5:=Key × Nat × It
abbrev vT:=List Nd5
theorem Tryz.uMapIt:Tryz.prog.underlying 73=some (.map 9 81):=vY
theorem Tryz.zeroIt(w:vW):(zeroValue 81).run Tryz.prog w=.ok (.pointer none) w:=vY
structure jeI(W:World)(b:Nat)(it:It):Prop where
 cells:∃ rv,Blk W b (.cells #[.string it.text,rv,.int .i64 it.used,.int .i64 it.held] 83)/\W.ownsRow 0 9 1 rv it.refs.length (it.refs.map Value.string)
def jiL(W:vW)(F:BSet):Prop:=∀ b cur fz,F b->¬ Blk W b (.cells cur 9 fz)
theorem jiL.none(W:vW):jiL W (fun _=>False):=fun _ _ _ h=>h.elim
theorem jgB{W W':vW}{F:BSet}{v:vV}{n:Nat}{xs:List vV}(h:W.ownsRow 0 9 1 v n xs)(k:jad F W W')(hF:jiL W F):W'.ownsRow 0 9 1 v n xs:=by
 refine ja4 h k fun b hb z=>?_
 obtain⟨_,⟨o,_⟩ |⟨g,A,q,o,_,E,_⟩⟩:=h
 ·rw[o]at hb;cases hb
 ·rw[o]at hb
  have e:some g=some b:=hb;obtain rfl:=bV e;exact hF g q (0,0) z E
theorem jeI.keeps{W W':vW}{F:BSet}{b:Nat}{it:It}(h:jeI W b it)(k:jad F W W')(hb:¬ F b)(hF:jiL W F):jeI W' b it:=by
 obtain⟨e,o,q⟩:=h.cells
 exact⟨e,o.keeps k hb,jgB q k hF⟩
theorem jeI.lt{W:vW}{b:Nat}{it:It}(h:jeI W b it):b < W.heap.size:=by obtain⟨o,e,_⟩:=h.cells;exact e.lt
def kvN(x:Nd5):Key × vV:=(x.1,.pointer (some ⟨x.2.1,0,none⟩))
structure jdg(W:World)(bm:Nat)(L:vT):Prop where
 mp:∃ es ck,Blk W bm (.map (Tryz.ES.arr es) ck)/\MapV es ck (L.map kvN)
 blks:(L.map (·.2.1)).Nodup
 items:∀ x∈L,jeI W x.2.1 x.2.2
theorem jdg.keeps{W W':vW}{F:BSet}{bm:Nat}{L:vT}(h:jdg W bm L)(k:jad F W W')(hm:¬ F bm)(hL:∀ x∈L,¬ F x.2.1)(hF:jiL W F):jdg W' bm L:=by
 obtain⟨o,q,z,A⟩:=h.mp
 exact⟨⟨o,q,z.keeps k hm,A⟩,h.blks,fun x e=>(h.items x e).keeps k (hL x e) hF⟩
theorem jdg.ext{W W':vW}{bm:Nat}{L:vT}(h:jdg W bm L)(k:Ext W W'):jdg W' bm L:=h.keeps k (fun h=>h) (fun _ _ h=>h) (jiL.none W)
def atL(L:vT)(k:Key):Option Nd5:=L.find? fun x=>decide (k=x.1)
theorem jq7(k:Key):∀ L:vT,getV (L.map kvN) k=(atL L k).map fun x=>.pointer (some ⟨x.2.1,0,none⟩)
 | []=>rfl
 | x :: r=>by
  have e:=jq7 k r;unfold getV atL at *;rw[bL,fS,fS]
  by_cases h:k=x.1
  ·simp[h,kvN]
  ·simp[h,kvN]at e ⊢;exact e
theorem ja6{L:vT}{k:Key}{x:Nd5}(h:atL L k=some x):x∈L/\x.1=k:=by
 unfold atL at h;have e:=List.find?_some h
 exact⟨List.mem_of_find?_eq_some h,(of_decide_eq_true e).symm⟩
def ptrO(o:Option Nd5):vV:=match o with | some x=>.pointer (some ⟨x.2.1,0,none⟩) | none=>.pointer none
theorem jdg.look{W:vW}{bm:Nat}{L:vT}(h:jdg W bm L)(k:vB)(ok:Bool) :
  (Instr.lookup 73 (.map (some bm)) (.string k) ok).run Tryz.prog W=.ok (if ok then .tuple #[ptrO (atL L k.data.toList),.bool (atL L k.data.toList).isSome]else ptrO (atL L k.data.toList)) W:=by
 obtain⟨q,z,e,o⟩:=h.mp
 have:=jcq Tryz.ES Tryz.uMapIt e (Tryz.zeroIt W) k.data.toList ok
 rw[o.get,jq7]at this;cases ha:atL L k.data.toList with
 | none=>rw[ha]at this;exact this
 | some x=>rw[ha]at this;exact this
structure jaL(W:World)(s bm:Nat)(room:Int)(L:vT):Prop where
 st:Blk W s (.cells #[.int .i64 room,.map (some bm)] 75)
 mp:jdg W bm L
theorem jaL.ext{W W':vW}{s bm:Nat}{room:Int}{L:vT}(h:jaL W s bm room L)(k:Ext W W'):jaL W' s bm room L:=⟨h.st.keeps k (fun h=>h),h.mp.ext k⟩
theorem jiB(w:vW)(s bm:Nat)(room:Int)(L:vT)(k:vB)(h:jaL w s bm room L):vR 19 #[.pointer (some ⟨s,0,none⟩),.string k] w (optV ((atL L k.data.toList).map (·.2.2.text))):=by
 have A:=h.st.cell (i:=1) (v:=.map (some bm)) vF;have e:=h.mp.look k true;have z:=Hd h.mp.items;simp only[if_true]at e;clear h;cases ha:atL L k.data.toList with
 | none =>
  rw[ha]at e;unfold ptrO at e;simp only[Option.isSome]at e;clear ha;go_enter Tryz.func19,Tryz.ntmps19;go_wp2_with fail
  go_ret2
  exact⟨rfl,ExtR w⟩
 | some x =>
  rw[ha]at e
  obtain⟨E,q,_⟩:=(z.o x (ja6 ha).1).cells
  have H:=q.cell (i:=0) (v:=.string x.2.2.text) vF;unfold ptrO at e;simp only[Option.isSome]at e;clear ha q;go_enter Tryz.func19,Tryz.ntmps19;go_wp2_with fail
  go_ret2
  exact⟨rfl,ExtR w⟩
def jtJ(o:Option Nd5):Int:=match o with | some x=>x.2.2.held | none=>0
def jeN(l:vL):Prop:=∀ p∈l,p.1.size<=9223372036854775807/\p.2.size<=9223372036854775807
theorem jbC(a b:vB):jbH a b=true↔Lt a.data.toList b.data.toList:=by
 unfold jbH;rw[bX,bX]
abbrev Pair.k(p:Pair):vN:=p.1.data.toList
def look(m:vL)(k:vN):Option vB:=(m.find? (fun p=>decide (k=p.k))).map (·.2)
theorem jhC(k:vN):look [] k=none:=rfl
theorem jaT(q:Pair)(r:vL)(k:vN):look (q :: r) k=if k=q.k then some q.2 else look r k:=by
 unfold look
 by_cases h:k=q.k <;> simp[fS,h]
def jkX(l:vL):Prop:=l.Pairwise fun p q=>Lt p.k q.k
theorem jdb{k:vN}:∀ {m:vL},k ∉ m.map Pair.k->look m k=none
 | [],_=>rfl
 | q :: r,h=>by
  simp only[bL,bJ,not_or]at h;rw[jaT,if_neg h.1,jdb h.2]
theorem jjp:∀ (a b:vN),Lt a b\/a=b\/Lt b a
 | [],[]=>.inr (.inl rfl)
 | [],_ :: _=>.inl jon
 | _ :: _,[]=>.inr (.inr jon)
 | a :: x,b :: y=>by
  rcases Nat.lt_trichotomy a.toNat b.toNat with h | h | h
  ·exact .inl (jbu.2 (.inl (dW.2 h)))
  ·have e:=dR.1 h
   subst e;rcases jjp x y with h | h | h
   ·exact .inl (jbu.2 (.inr ⟨rfl,h⟩))
   ·exact .inr (.inl (by rw[h]))
   ·exact .inr (.inr (jbu.2 (.inr ⟨rfl,h⟩)))
  ·exact .inr (.inr (jbu.2 (.inl (dW.2 h))))
theorem jgu{p q:Pair}(h1:p.k=q.k)(h2:p.2=q.2):p=q:=by
 obtain⟨⟨⟨a⟩⟩,b⟩:=p
 obtain⟨⟨⟨c⟩⟩,d⟩:=q
 simp only[Pair.k]at h1 h2;subst h1;subst h2;rfl
theorem jgz:∀ {a b:vL},jkX a->jkX b->(∀ k,look a k=look b k)->a=b
 | [],[],_,_,_=>rfl
 | [],q :: b,_,_,h=>by have:=h q.k;rw[jaT,if_pos rfl]at this;cases this
 | p :: a,[],_,_,h=>by have:=h p.k;rw[jaT,if_pos rfl]at this;cases this
 | p :: a,q :: b,h1,h2,h=>by
  have A:=cW.1 h1;have E:=cW.1 h2;have out:∀ (x:vN) (y:Pair) (m:vL),(∀ z∈m,Lt y.k z.k)->Lt x y.k->look (y :: m) x=none:=fun x y m H K=>by
   refine jdb fun o=>?_;rw[bL,bJ]at o;rcases o with e | o
   ·exact lt_irrefl _ (e ▸ K)
   ·obtain⟨z,J,e⟩:=bH.1 o
    exact lt_irrefl _ (jdH _ _ _ K (e ▸ H z J))
  have O:p.k=q.k:=by
   rcases jjp p.k q.k with e | e | e
   ·have:=h p.k
    rw[out p.k q b E.1 e,jaT,if_pos rfl]at this;cases this
   ·exact e
   ·have:=h q.k
    rw[out q.k p a A.1 e,jaT,if_pos rfl]at this;cases this
  have Z:p.2=q.2:=by
   have:=h p.k
   rw[jaT,if_pos rfl,jaT,if_pos O]at this;exact bV this
  have e:=jgu O Z;subst e
  have:a=b:=jgz A.2 E.2 fun k=>by
   have Q:=h k;rw[jaT,jaT]at Q
   by_cases e:k=p.k
   ·have X:∀ m:vL,(∀ z∈m,Lt p.k z.k)->look m k=none:=fun m H=>jdb fun o=>by
     obtain⟨z,J,e2⟩:=bH.1 o
     have:=H z J
     rw[e2,e]at this;exact lt_irrefl _ this
    rw[X a A.1,X b E.1]
   ·rwa [if_neg e,if_neg e]at Q
  rw[this]
end Go.Proofs.YtmobgkphhbmhbaaGreatDoor
