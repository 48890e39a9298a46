/- Lemmas; each is under no condition but those that it states. -/
import Derived.Test.YtepbencaoiompaaGreatDoorPa15
namespace Go.Proofs.YtepbencaoiompaaGreatDoor
set_option linter.unusedSimpArgs false
set_option linter.unusedVariables false
set_option maxRecDepth 100000
set_option maxHeartbeats 16000000
open Go Go.RowKit
section
attribute [local go_sem] Oper.semAt_some
theorem jgo:∀ (l:vM) (i:Nat),((jaA i l).filterMap fun x=>jcH x.2)=l.filterMap jcH
 | [],_=>rfl
 | x :: l,i=>by
  unfold jaA
  by_cases h:x.size=0
  ·rw[if_pos h,jgo l,gB,ja1 h,jfn]
  ·rw[if_neg h,gB,gB,jgo l]
def jcz(n:jad)(k:Nat):vM:=(n.refsL.take k).filterMap fun x=>jcH x.2
theorem jsO(n:jad):jcz n n.refsL.length=jaK n:=by
 unfold jcz;rw[cF];exact jgo _ _
theorem jqU(n:jad){k:Nat}(hk:k < n.refsL.length):jcz n (k+1)=jcz n k++(jcH (n.rr k)).toList:=by
 unfold jcz;rw[cS hk,List.filterMap_append]
 congr 1
 have:n.rr k=(n.refsL[k]).2:=by simp[jad.rr,bE,hk]
 rw[this,gB];cases jcH (n.refsL[k]).2 <;> rfl
theorem jsP(n:jad)(k:Nat):(jcz n k).length<=n.refs.length:=by
 have o:∀ (l:vM) (i:Nat),(jaA i l).length<=l.length:=by
  intro l;induction l with
  | nil=>intro i;simp[jaA]
  | cons x r ih=>intro i;unfold jaA;split <;> simp <;> have:=ih (i+1) <;> omega
 have q:=o n.refs 0;unfold jcz;have e:=iP (fun x:Nat × vB=>jcH x.2) (n.refsL.take k);rw[dM]at e
 have:n.refsL=jaA 0 n.refs:=rfl
 rw[this]at e ⊢;omega
theorem jpA{x:vB}{l:vM}(h:x∈l):x.size<=(jcm l).size:=bH (jh2 l x h) (jk5 l)
theorem jpy{d:Nat}{r:vB}(h:MayP (InlD d) r)(hs:r.size < 32):jcH r=none:=by
 rcases h with h |⟨m,h⟩
 ·have:=h.size;omega
 ·exact jc4 (inlP d) h
theorem jnk{d:Nat}{n:jad}(h:jbd (InlD d) n)(hs:(jaR n).size < 32):jaK n=[]:=by
 unfold jaK;cases h with
 | none=>exact jey 16
 | leaf p v h1 h2 h3=>exact jey 16
 | ext p r h1 h2 h3 =>
  show (r :: jar 15).filterMap jcH=[];have o:r.size < 32:=by
   have e:jaR ⟨2,p,⟨#[]⟩,r :: jar 15⟩=jcm [jaz (putB p false),r]:=rfl
   have:=jpA (x:=r) (l:=[jaz (putB p false),r]) (by simp)
   rw[e]at hs;omega
  rw[gB,jey,jpy (h3.imp id fun ⟨m,h,_⟩=>⟨m,h⟩) o]
 | branch v rs h1 h2 h3 h4 =>
  show rs.filterMap jcH=[];rw[List.filterMap_eq_nil_iff];intro r o
  by_cases h0:r.size=0
  ·rw[ja1 h0,jfn]
  ·have e:jaR ⟨3,⟨#[]⟩,v,rs⟩=jcm (jbZ rs v):=by
    show jcm (jb8 _)=_;rw[jfI _ h1]
   have q:r∈jbZ rs v:=by
    unfold jbZ;refine bT.2 (.inl (bI.2 ⟨r,o,?_⟩));rw[if_neg h0]
   have:=jpA q
   rw[e]at hs;exact jpy (h3 r o h0) vO
theorem jAO{w:vW}{B:Nat}{T:TypeId}{sz:Nat}{ad:Option Addr}{n cp:Nat}{xs:List vV}(h:w.ownsRow B T sz (.slice ad n cp) n xs):n<=cp:=by
 obtain⟨_,⟨e,o⟩ |⟨g,q,z,e,o,A,E,_⟩⟩:=h
 ·omega
 ·obtain⟨_,_,H⟩:=fY e;omega
structure HsS(w:World)(g3 gi m:Nat)(n:jad)(k:Nat)(W:World):Prop where
 ext:Ext w W
 it:Blk W gi (.cells n.cells.toArray 147)
 row:∃ v,Blk W g3 (.cells #[v] 22)/\W.ownsRow 0 9 1 v (jcz n k).length ((jcz n k).map Value.string)/\(∀ b,v.ownBlock=some b->m+2<=b)/\(jcz n k=[]->v=.slice none 0 0)
theorem HsS.st{w:vW}{g3 gi m:Nat}{n:jad}{k:Nat}{W W':vW}(h:HsS w g3 gi m n k W)(e:Ext W W'):HsS w g3 gi m n k W':=
 let ⟨v,h1,h2,h3,h4⟩:=h.row
 ⟨h.ext.trans e,h.it.keeps e (fun h=>h),v,h1.keeps e (fun h=>h),jbm h2 e,h3,h4⟩
theorem HsS.put{w:vW}{g3 gi m:Nat}{n:jad}{k:Nat}{W:vW}(h:HsS w g3 gi m n k W){r:Nat}(hr:w.heap.size<=r)(h1:g3 < r)(h1':gi < r)(h2:r < m+2)(o:Obj):HsS w g3 gi m n k (W.putObj r o):=
 let ⟨v,h3,h4,h5,h6⟩:=h.row
 ⟨h.ext.putObj (.inr hr) _,h.it.put_other vO _,v,h3.put_other vO _,jaY h4 (jag.onePut W r o) (fun b hb e=>by have:=h5 b hb;omega),h5,h6⟩
def juL(w:vW)(n:jad)(e:Ending)(w':vW):Prop:=∃ v,e=.returned v/\SRow w w' v (jaK n).length (jaK n)/\(jaK n=[]->v=.slice none 0 0)
theorem jkV{I:vB->jad->Prop}{n:jad}(h:jbd I n):∀ r∈n.refs,r.size≠0->MayP I r:=by
 have q:∀ r∈jar 16,r.size≠0->MayP I r:=fun r z e=>by rw[fV z]at e;exact absurd rfl e
 cases h with
 | none=>exact q
 | leaf p v h1 h2 h3=>exact q
 | ext p r h1 h2 h3 =>
  intro x o e;rcases bM.1 o with rfl | o
  ·exact h3.imp id fun ⟨m,h,_⟩=>⟨m,h⟩
  ·rw[fV o]at e;exact absurd rfl e
 | branch v rs h1 h2 h3 h4=>exact h3
theorem jiN(d:Nat)(n:jad)(h:jbd (InlD d) n)(ih:∀ r m,InlD d r m->∀ w,vQ 44 #[m.V] w (juL w m))(w:vW):vQ 44 #[n.V] w (juL w n):=by
 have hr:=(h.one (inlP d)).refs
 obtain⟨i0,hi,e2,e3,e4⟩:=info_parts Tryz.infoStr
 have HV:=Hd (fun w=>jih (inlP d) w n h);have HM:=Hd (jkV h);have e5:=Hd ih;have HQ:=Hd (show ∀ (v:vV) W',juL w n (.returned v) W'↔(SRow w W' v (jaK n).length (jaK n)/\(jaK n=[]->v=.slice none 0 0))from fun v W'=>⟨fun ⟨_,e,h⟩=>by cases e;exact h,fun h=>⟨v,rfl,h⟩⟩);have a9:=jas (w.alloc (.cells n.cells.toArray 99)) _ n hr (Blk.new w _);clear h ih;unfold jad.V at a9 ⊢;refine (callsIn_wide (n:=0)).1 ?_;refine callsIn_of_wp_marks Tryz.func44 rfl trivial ?_ rfl;simp only[Tryz.ntmps44,cT,bO,dG,Nat.reduceAdd,Nat.reduceSub,cY,cX,dI,dC,cM,cQ];gi_wp2_with (refine jbg rfl 99 (.tmp 1) rfl _ _ rfl a9 ?_)
 refine⟨trivial,rfl,CallsIn.mono (callsIn_wide.2 (HV.o _)) ?_⟩
 rintro e w1 ⟨rfl,J⟩;have b0:=(Blk.new w (.cells n.cells.toArray 99)).keeps J (fun h=>h);have b1:=Hd (((ExtR w).alloc _).trans J)
 obtain⟨W2,a3⟩:=vE (w1.alloc (.cells #[.slice none 0 0] 22))
 have c1:=Hd a3;have c2:Blk W2 w.heap.size (.cells n.cells.toArray 99):=by rw[a3];exact b0.alloc _
 have z:=Hd (show Blk W2 w1.heap.size (.cells #[.slice none 0 0] 22) by rw[a3];exact Blk.new w1 _);have c3:=Hd (show Ext w W2 by rw[a3];exact b1.o.alloc _);have a1:=jas W2 _ n hr c2;have e6:=b0.lt;rw[a3]at a1;clear a9 J b0 a3 c2;unfold jad.V at a1;gi_wp2_with (refine jbg rfl 99 (.tmp 1) rfl _ _ rfl a1 ?_)
 rw[<-c1.o]
 refine⟨trivial,rfl,CallsIn.mono (callsIn_wide.2 (jnf W2 n)) ?_⟩
 rintro e w3 ⟨rfl,a7,J⟩;have a5:=z.o.lt
 obtain⟨gi,c4⟩:∃ g,g=W2.heap.size:=⟨_,rfl⟩
 obtain⟨E,a2⟩:∃ g,g=w1.heap.size:=⟨_,rfl⟩
 rw[<-a2]at z a5 e6;rw[<-c4]at a7 a5 ⊢;rw[<-a2];have S0:HsS w E gi w3.heap.size n 0 w3:=⟨c3.o.trans J,a7,_,z.o.keeps J (fun h=>h),fL _ _ _ _,(fun b hb=>by cases hb),(fun _=>rfl)⟩;have f8:=a7.lt;have e7:=b1.o.size;have e8:=Hd S0;have a4:=Hd (show w.heap.size<=E by omega);clear a1 a7 J b1 c1 z c3 S0 e7 c4 a2;gi_wp2_with fail
 refine jd9 (N:=n.refsL.length) (gf:=117) (lb:=#[.pointer (some ⟨gi,0,none⟩)]) rfl (vX 117) (ji6 gi n hr)
  (fun k=>rfl) (HsS w E gi w3.heap.size n) (fun _ _ _=>False) (fun k W W' h e=>h.st e) (fun _ _ _ _ h _=>h) (fun k W h=>h.it)
  (fun k W o h=>h.put (by have:=a4.o;omega) vO vO vO _)
  (fun k W o h=>h.put (by have:=a4.o;omega) vO vO vO _) (fun _ _ _ _ h=>h)
  e8.o (fun k=>{ tmps:=#[.agg n.cells.toArray,.pointer (some ⟨w.heap.size,0,none⟩),.slice none 0 0,.pointer (some ⟨E,0,none⟩),undef,.string (n.rr k),undef,undef,undef,undef,.agg n.cells.toArray,.bool true,.bool false,.agg n.cells.toArray,.func (.func 117) #[] #[.pointer (some ⟨gi,0,none⟩)],.int .i64 (n.ri k:Nat),.string (n.rr k),undef,undef,undef,undef,undef,undef,undef,undef,undef,undef,undef,undef,undef,undef,undef,undef,undef,undef,undef,undef],defers:=[] })
  ?hassign ?hbody ?hdone ?hstop
 case hassign =>
  intro l j W K hK;rw[jub,jn1];simp only[dJ,dB];gi_wp2;exact hK
 case hbody =>
  intro l k W hk hS f9;have b2:=jt4 n hr hk;have a6:=HM.o _ (bJ b2.2.1) b2.2.2;have b3:=jqU n hk;have e9:=jsP n k;rw[hr]at e9
  obtain⟨r,c5⟩:=vE (n.rr k)
  rw[<-c5]at a6 b3 ⊢;have HS:=Hd hS;have c6:=Hd b3;have c7:=a4.o;have b4:=Hd c7;clear hS b2 b3 c5 c7;rcases a6 with hh |⟨m,hm⟩
  ·obtain⟨hs,x,q,H,O⟩:=hh.known
   have HX:=Hd (show jcz n (k+1)=jcz n k++[x] by
    rw[c6.o];unfold jcH;rw[H];show _++(jfm r q).toList=_;rw[O];rfl)
   have H3:=Hd H;have H4:=Hd O;clear H O hh;gi_wp2_with fail
   refine⟨trivial,rfl,CallsIn.mono (CallsIn.inRound l (callsIn_wide.2 (jdE W r q hs H3.o))) ?_⟩
   rintro e w5 ⟨rfl,J⟩;rw[H4.o];have S5:=HS.o.st J
   obtain⟨v,A,Q,H,O⟩:=S5.row
   obtain⟨X,Z,rfl⟩:=jaL Q
   have q4:w5.cell? ⟨E,0,none⟩=some (.slice X (jcz n k).length Z):=A.cell (i:=0) vF;have f4:w5.frozen? ⟨E,0,none⟩=false:=A.frozen;have g0:=J.size;have c8:=Hd S5;have a8:=Hd J;have b5:=Hd A;have b6:=Hd Q;have z:=Hd H;clear S5 A Q H O J;unfold optV;gi_wp2_with (gi_at_builtin;refine jbU _ rfl (.tmp 23) (.tmp 25) 22 rfl 9 i0 _ 1 16 Tryz.uStrs hi e2 e3 e4 rfl vI (.slice X (jcz n k).length Z) (jcz n k).length _ rfl (jbm b6.o ((ExtR w5).alloc _)) ⟨w5.heap.size,0,none⟩ 1 1 [.string x] rfl rfl (ja3 (Blk.new w5 _)) (by simp[Value.oneCell']) (by unfold maxLen;omega) vO ?_)
   intro v' w6 r1 r2 r3;have K6:jag (fun b=>(Value.slice X (jcz n k).length Z).ownBlock=some b) w5 w6:=((jag.refl _ w5).alloc _).trans r2;have hl:(jcz n (k+1)).length=(jcz n k).length+1:=by rw[HX.o];simp
   have r1:w6.ownsRow 0 9 1 v' (jcz n (k+1)).length ((jcz n (k+1)).map Value.string):=by
    rw[hl,HX.o,bZ];exact r1
   have nb:∀ b,b < w3.heap.size+2->¬(Value.slice X (jcz n k).length Z).ownBlock=some b:=fun b hb e=>by have:=z.o b e;omega
   obtain⟨c9,d0,rfl⟩:=jaL r1
   have d1:∀ b,(Value.slice c9 (jcz n (k+1)).length d0).ownBlock=some b->w3.heap.size+2<=b:=fun b hb=>by
    rcases r3 with r3 | r3
    ·exact z.o b (r3 ▸ hb)
    ·have:=r3 b hb;first | omega |(simp at this;omega)
   have B4:=b5.o.keeps K6 (nb _ vO);have g1:w6.cell? ⟨E,0,none⟩=some (.slice X (jcz n k).length Z):=B4.cell (i:=0) vF;have g2:w6.frozen? ⟨E,0,none⟩=false:=B4.frozen;have b7:=Hd K6;have b8:=Hd B4;have R1:=Hd r1;have d2:=Hd d1;have NB:=Hd nb;clear K6 r1 r2 r3 d1 B4 nb q4 f4 hl;gi_wp2;have k7:jag (fun b=>b=E) w6 (w6.setCell ⟨E,0,none⟩ (.slice c9 (jcz n (k+1)).length d0)):=jag.oneSet w6 ⟨E,0,none⟩ _
   refine⟨((a8.o.mono (fun _ _ h=>h.elim)).trans (b7.o.mono (fun x _ e=>?_))).trans' k7 (fun x _ e=>?_),?_⟩
   ·have:=z.o x e;show x≠_/\x≠_;omega
   ·have e:x=_:=e;show x≠_/\x≠_;omega
   ·refine⟨(c8.o.ext.trans' b7.o (fun x hx e=>by have:=z.o x e;have:=b4.o;omega)).trans' k7 (fun x hx e=>by have e:x=_:=e;have:=b4.o;omega),
     (c8.o.it.keeps b7.o (NB.o _ vO)).keeps k7 (fun e=>by omega),
     _,b8.o.set_same (i:=0) _,jaY R1.o k7 (fun b hb e=>by have:=d2.o b hb;omega),d2.o,fun h0=>?_⟩
    rw[HX.o]at h0;simp at h0
  ·have hs:=(inlP d).small r m hm
   obtain⟨q,H,O⟩:=(inlP d).nohash r m hm
   have HX:=Hd (show jcz n (k+1)=jcz n k by
    rw[c6.o,jc4 (inlP d) hm];simp)
   have HC:=Hd ((inlP d).inl r m hm);have b9:=Hd ((inlP d).refs r m hm);have H3:=Hd H;have H4:=Hd O;have f0:=Hd (show ∀ W,vQ 44 #[m.V] W fun e W'=>e=.returned (.slice none 0 0)/\Ext W W' from fun W=>by
    have f1:jaK m=[]:=by
     cases d with
     | zero=>exact hm.elim
     | succ d=>exact jnk hm.1 (by rw[<-hm.2.1];exact hm.2.2.1)
    refine (e5.o r m hm W).mono ?_;rintro e W' ⟨v,rfl,A,Q⟩;rw[Q f1];exact⟨rfl,A.ext⟩)
   clear H O hm;gi_wp2_with fail
   refine⟨trivial,rfl,CallsIn.mono (CallsIn.inRound l (callsIn_wide.2 (jdE W r q vO H3.o))) ?_⟩
   rintro e w5 ⟨rfl,J⟩;rw[H4.o];have a8:=Hd J;clear J;unfold optV;gi_wp2_with fail
   refine⟨trivial,rfl,CallsIn.mono (CallsIn.inRound l (callsIn_wide.2 (HC.o w5))) ?_⟩
   rintro e w6 ⟨rfl,J⟩;have d3:=Hd (a8.o.trans J);clear J a8;unfold jad.V;gi_wp2_with (refine jnv Tryz.allocNode rfl rfl ?_;intro W7 d4 d5;refine jlN (vs:=m.cells) rfl rfl rfl rfl d4 (by rw[m.cells_len b9.o];rfl) (by rw[m.cells_len b9.o];exact Tryz.szNode) m.one ?_;intro W8 d6 d7)
   have c0:Ext w6 W8:=d5.trans' d7 (fun x hx e=>by have e:x=w6.heap.size:=e;omega);have S8:=HS.o.st (d3.o.trans c0)
   obtain⟨v,A,Q,H,O⟩:=S8.row
   obtain⟨X,Z,rfl⟩:=jaL Q
   have d8:=jAO Q;have f2:=Hd S8;have f3:=Hd d6;have H1:=Hd A;have f5:=Hd c0;have f6:=Hd d8;clear d4 d5 d7 d6 c0 S8 A Q H O d8;gi_wp2_with fail
   refine jhL [0,1,2,3,4] [4] Ext ExtR ExtT vY vY vY vY ?_;refine qL ⟨E,0,none⟩ _ rfl (fun w1 A=>jac Tryz.uStrs rfl (jaa (by exact H1.o.cell (i:=0) (v:=.slice X (jcz n k).length Z) vF) ((jaq _).trans A))) ?_;refine vS ?_;refine qL ⟨w6.heap.size,0,none⟩ _ rfl (fun w1 A=>jas w1 _ m b9.o (f3.o.keeps ((jaq _).trans A) (fun h=>h))) ?_;refine vS ?_;refine jc6 _ 44 #[m.V] (.slice none 0 0) rfl vY rfl (fun w1=>jaG (vX 44) vY) (fun w1 A=>f0.o w1) ?_;refine vS ?_;refine qA _ (.slice X (jcz n k).length Z) rfl (fun w1=>jd1 (jct Tryz.uStrs hi X (jcz n k).length Z f6.o 0 w1) vY) ?_;refine vS ?_;refine qH _ rfl (fun w1 he K hK=>?_);have S9:=f2.o.st ((jaq _).trans he);have d9:Ext W w1:=(d3.o.trans f5.o).trans ((jaq _).trans he)
   obtain⟨v,A,Q,H,O⟩:=S9.row
   have a0:w1.cell? ⟨E,0,none⟩=some (.slice X (jcz n k).length Z):=jaa (H1.o.cell (i:=0) (v:=.slice X (jcz n k).length Z) vF) ((jaq _).trans he);have e0:v=.slice X (jcz n k).length Z:=by
    have:=A.cell (i:=0) (v:=v) vF
    rw[a0]at this;exact (bQ this).symm
   rw[e0]at A Q H O;have q4:=a0;have f4:w1.frozen? ⟨E,0,none⟩=false:=A.frozen;have e1:=Hd S9;have b5:=Hd A;have b6:=Hd Q;have z:=Hd H;have b8:=Hd O;have f7:=Hd d9;clear S9 a0 e0 A Q H O he d9;go_simp;refine hK _ _ ?_;clear hK K q4 f4;refine qE (fun w2 he=>?_);have k7:jag (fun b=>b=E) w1 (w1.setCell ⟨E,0,none⟩ (.slice X (jcz n k).length Z)):=jag.oneSet w1 ⟨E,0,none⟩ _;have k8:jag (fun b=>b=E) w1 w2:=k7.trans (he.mono (fun _ _ h=>h.elim))
   refine⟨(f7.o.mono (fun _ _ h=>h.elim)).trans' k8 (fun x _ e=>?_),?_⟩
   ·have e:x=_:=e;show x≠_/\x≠_;omega
   ·refine⟨e1.o.ext.trans' k8 (fun x hx e=>by have e:x=_:=e;have:=b4.o;omega),e1.o.it.keeps k8 (fun e=>by omega),.slice X (jcz n k).length Z,(b5.o.set_same (i:=0) _).keeps he (fun h=>h),?_⟩
    rw[HX.o]
    exact⟨jaY b6.o k8 (fun b hb e=>by have:=z.o b hb;omega),z.o,b8.o⟩
 case hdone =>
  intro W hS hd
  obtain⟨v,A,Q,H,O⟩:=hS.row
  rw[jsO]at Q O
  obtain⟨X,Z,rfl⟩:=jaL Q
  have q4:W.cell? ⟨E,0,none⟩=some (.slice X (jaK n).length Z):=A.cell (i:=0) vF;have HS:=Hd hS;have HR:=Hd (show ORow 9 1 w W (.slice X (jaK n).length Z) (jaK n).length ((jaK n).map Value.string)from⟨⟨_,_,rfl⟩,Q,hS.ext,fun b hb=>by have:=H b hb;have:=a4.o;omega⟩);have H3:=Hd H;have H4:=Hd O;have HD:=Hd hd;clear hS A Q H O hd;gi_wp2
  refine⟨by simp,.inl ⟨_,_,rfl,run_takeDeferred HD.o,?_⟩⟩
  refine⟨.slice X (jaK n).length Z,by simp[results,Tryz.results44,go_sem],(HQ.o _ _).2 ⟨HR.o.keeps (jag.onePut W w3.heap.size (.deferred none)) (fun b hb e=>by have:=H3.o b hb;omega) (fun b hb e=>by have:=a4.o;omega),H4.o⟩⟩
 case hstop=>intro c k W _ _ h;exact h.elim
theorem jkZ:∀ (d:Nat) (n:jad),jbd (InlD d) n->∀ w,vQ 44 #[n.V] w (juL w n)
 | 0,n,h,w=>jiN 0 n h (fun _ _ e=>e.elim) w
 | d+1,n,h,w=>jiN (d+1) n h (fun r m e w=>jkZ d m e.1 w) w
end
section
open Classical in
noncomputable def nodeOf(t:vB):jad:=if h:∃ n,jbc t n then h.choose else jak
theorem jb3{t:vB}{n:jad}(h:jbc t n):jbc t (nodeOf t):=by
 unfold nodeOf;have e:∃ n,jbc t n:=⟨n,h⟩;rw[dif_pos e];exact e.choose_spec
theorem jiM{t:vB}{n:jad}(h:jbc t n):(jaK n).length<=16:=by
 obtain⟨_,g,e⟩:=h
 have:=(e.one (inlP g)).refs
 unfold jaK;have o:=iP jcH n.refs;omega
theorem jq8{L:vM}(h:L.Nodup){i:Nat}{t:vB}(ht:L[i]?=some t):t ∉ L.take i:=fun o=>by
 obtain⟨k,A,e⟩:=List.mem_take_iff_getElem.1 o
 obtain⟨q,z⟩:=bW.1 ht
 exact gP.1 h k i vO q vO (e.trans z.symm)
theorem jjl{P:Program}{t T:TypeId}{sz by':Nat}(I:jeN P t T sz by'){ops:Array Oper}{rest:List Oper}{d:Option Tmp}{ty:TypeId}{pos:String}{af:Array Edge}{a:Act}{w:vW}{Q:Exit->Act->vW->Prop}{s x:Operand}{base:Option Addr}{n c c2:Nat}
  (hs:a.eval s=.slice base n c) (hx:a.eval x=.slice none 0 c2) (hle:n<=c) (h:wpList P ops Q rest (a.put d (.slice base n c)) w) :
  wpList P ops Q (⟨d,.call { callee:=.builtin .append,args:=#[s,x],argTypes:=#[t,t] },ty,pos,af,none⟩ :: rest) a w:=by
 obtain⟨i,z,e,_⟩:=I.hi
 exact wpList_plain rfl fun K o=>jcD (jd1 (jct I.ht e base n c hle c2 w) (by simp[hs,hx])) (o _ _ h)
end
end Go.Proofs.YtepbencaoiompaaGreatDoor
