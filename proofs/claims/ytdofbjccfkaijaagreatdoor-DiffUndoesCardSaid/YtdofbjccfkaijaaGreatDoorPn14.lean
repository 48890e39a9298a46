/- Lemmas; each is under no condition but those that it states. -/
import Derived.Test.YtdofbjccfkaijaaGreatDoorPn13
namespace Go.Proofs.YtdofbjccfkaijaaGreatDoor
set_option linter.unusedSimpArgs false
set_option linter.unusedVariables false
set_option maxRecDepth 100000
set_option maxHeartbeats 16000000
open Go Go.RowKit
section
attribute [local go_sem] Oper.semAt_some
theorem jgh:∀ (l:vM) (i:Nat),((jay i l).filterMap fun x=>jcM x.2)=l.filterMap jcM
 | [],_=>rfl
 | x :: l,i=>by
  unfold jay
  by_cases h:x.size=0
  ·rw[if_pos h,jgh l,gC,jbq h,jfd]
  ·rw[if_neg h,gC,gC,jgh l]
def jct(n:jad)(k:Nat):vM:=(n.refsL.take k).filterMap fun x=>jcM x.2
theorem jsq(n:jad):jct n n.refsL.length=jaM n:=by
 unfold jct;rw[cJ];exact jgh _ _
theorem jqz(n:jad){k:Nat}(hk:k < n.refsL.length):jct n (k+1)=jct n k++(jcM (n.rr k)).toList:=by
 unfold jct;rw[cT hk,List.filterMap_append]
 congr 1
 have:n.rr k=(n.refsL[k]).2:=by simp[jad.rr,bG,hk]
 rw[this,gC];cases jcM (n.refsL[k]).2 <;> rfl
theorem jsr(n:jad)(k:Nat):(jct n k).length<=n.refs.length:=by
 have o:∀ (l:vM) (i:Nat),(jay i l).length<=l.length:=by
  intro l;induction l with
  | nil=>intro i;simp[jay]
  | cons x r ih=>intro i;unfold jay;split <;> simp <;> have:=ih (i+1) <;> omega
 have z:=o n.refs 0;unfold jct;have e:=iR (fun x:Nat × vB=>jcM x.2) (n.refsL.take k);rw[cQ]at e
 have:n.refsL=jay 0 n.refs:=rfl
 rw[this]at e ⊢;omega
theorem jpj{x:vB}{l:vM}(h:x∈l):x.size<=(jbb l).size:=bK (jhV l x h) (jkJ l)
theorem jph{d:Nat}{r:vB}(h:MayP (InlD d) r)(hs:r.size < 32):jcM r=none:=by
 rcases h with h |⟨m,h⟩
 ·have:=h.size;omega
 ·exact jdT (inlP d) h
theorem jmX{d:Nat}{n:jad}(h:jbT (InlD d) n)(hs:(jaP n).size < 32):jaM n=[]:=by
 unfold jaM;cases h with
 | none=>exact jer 16
 | leaf p v h1 h2 h3=>exact jer 16
 | ext p r h1 h2 h3 =>
  show (r :: jam 15).filterMap jcM=[];have o:r.size < 32:=by
   have e:jaP ⟨2,p,⟨#[]⟩,r :: jam 15⟩=jbb [jan (putB p false),r]:=rfl
   have:=jpj (x:=r) (l:=[jan (putB p false),r]) (by simp)
   rw[e]at hs;omega
  rw[gC,jer,jph (h3.imp id fun ⟨m,h,_⟩=>⟨m,h⟩) o]
 | branch v rs h1 h2 h3 h4 =>
  show rs.filterMap jcM=[];rw[List.filterMap_eq_nil_iff];intro r o
  by_cases h0:r.size=0
  ·rw[jbq h0,jfd]
  ·have e:jaP ⟨3,⟨#[]⟩,v,rs⟩=jbb (ja7 rs v):=by
    show jbb (jbP _)=_;rw[jdF _ h1]
   have z:r∈ja7 rs v:=by
    unfold ja7;refine bT.2 (.inl (bJ.2 ⟨r,o,?_⟩));rw[if_neg h0]
   have:=jpj z
   rw[e]at hs;exact jph (h3 r o h0) vO
theorem jAp{w:vW}{B:Nat}{T:TypeId}{sz:Nat}{ad:Option Addr}{n cp:Nat}{xs:List vV}(h:w.ownsRow B T sz (.slice ad n cp) n xs):n<=cp:=by
 obtain⟨_,⟨e,o⟩ |⟨g,z,A,e,o,E,H,_⟩⟩:=h
 ·omega
 ·obtain⟨_,_,J⟩:=cW e;omega
structure HsS(w:World)(g3 gi m:Nat)(n:jad)(k:Nat)(W:World):Prop where
 ext:Ext w W
 it:Blk W gi (.cells n.cells.toArray 154)
 row:∃ v,Blk W g3 (.cells #[v] 28)/\W.ownsRow 0 9 1 v (jct n k).length ((jct n k).map Value.string)/\(∀ b,v.ownBlock=some b->m+2<=b)/\(jct n k=[]->v=.slice none 0 0)
theorem HsS.st{w:vW}{g3 gi m:Nat}{n:jad}{k:Nat}{W W':vW}(h:HsS w g3 gi m n k W)(e:Ext W W'):HsS w g3 gi m n k W':=
 let ⟨v,h1,h2,h3,h4⟩:=h.row
 ⟨h.ext.trans e,h.it.keeps e (fun h=>h),v,h1.keeps e (fun h=>h),jbo h2 e,h3,h4⟩
theorem HsS.put{w:vW}{g3 gi m:Nat}{n:jad}{k:Nat}{W:vW}(h:HsS w g3 gi m n k W){r:Nat}(hr:w.heap.size<=r)(h1:g3 < r)(h1':gi < r)(h2:r < m+2)(o:Obj):HsS w g3 gi m n k (W.putObj r o):=
 let ⟨v,h3,h4,h5,h6⟩:=h.row
 ⟨h.ext.putObj (.inr hr) _,h.it.put_other vO _,v,h3.put_other vO _,jbc h4 (jaf.onePut W r o) (fun b hb e=>by have:=h5 b hb;omega),h5,h6⟩
def juu(w:vW)(n:jad)(e:Ending)(w':vW):Prop:=∃ v,e=.returned v/\SRow w w' v (jaM n).length (jaM n)/\(jaM n=[]->v=.slice none 0 0)
theorem jo0{I:vB->jad->Prop}{n:jad}(h:jbT I n):∀ r∈n.refs,r.size≠0->MayP I r:=by
 have z:∀ r∈jam 16,r.size≠0->MayP I r:=fun r A e=>by rw[fZ A]at e;exact absurd rfl e
 cases h with
 | none=>exact z
 | leaf p v h1 h2 h3=>exact z
 | ext p r h1 h2 h3 =>
  intro x o e;rcases bM.1 o with rfl | o
  ·exact h3.imp id fun ⟨m,h,_⟩=>⟨m,h⟩
  ·rw[fZ o]at e;exact absurd rfl e
 | branch v rs h1 h2 h3 h4=>exact h3
theorem jiH(d:Nat)(n:jad)(h:jbT (InlD d) n)(ih:∀ r m,InlD d r m->∀ w,vQ 84 #[m.V] w (juu w m))(w:vW):vQ 84 #[n.V] w (juu w n):=by
 have hr:=(h.one (inlP d)).refs
 obtain⟨i0,hi,e2,e3,e4⟩:=info_parts Tryz.infoStr
 have HV:=Hd (fun w=>jlm (inlP d) w n h);have HM:=Hd (jo0 h);have e5:=Hd ih;have HQ:=Hd (show ∀ (v:vV) W',juu w n (.returned v) W'↔(SRow w W' v (jaM n).length (jaM n)/\(jaM n=[]->v=.slice none 0 0))from fun v W'=>⟨fun ⟨_,e,h⟩=>by cases e;exact h,fun h=>⟨v,rfl,h⟩⟩);have a9:=jao (w.alloc (.cells n.cells.toArray 94)) _ n hr (Blk.new w _);clear h ih;unfold jad.V at a9 ⊢;refine (callsIn_wide (n:=0)).1 ?_;refine callsIn_of_wp_marks Tryz.func84 rfl trivial ?_ rfl;simp only[Tryz.ntmps84,dL,bF,cF,Nat.reduceAdd,Nat.reduceSub,dO,dN,fC,dS,cP,cZ];gi_wp2_with (refine jbx rfl 94 (.tmp 1) rfl _ _ rfl a9 ?_)
 refine⟨trivial,rfl,CallsIn.mono (callsIn_wide.2 (HV.o _)) ?_⟩
 rintro e w1 ⟨rfl,J⟩;have b0:=(Blk.new w (.cells n.cells.toArray 94)).keeps J (fun h=>h);have b1:=Hd (((ExtR w).alloc _).trans J)
 obtain⟨W2,a3⟩:=vE (w1.alloc (.cells #[.slice none 0 0] 28))
 have c1:=Hd a3;have c2:Blk W2 w.heap.size (.cells n.cells.toArray 94):=by rw[a3];exact b0.alloc _
 have z:=Hd (show Blk W2 w1.heap.size (.cells #[.slice none 0 0] 28) by rw[a3];exact Blk.new w1 _);have c3:=Hd (show Ext w W2 by rw[a3];exact b1.o.alloc _);have a1:=jao W2 _ n hr c2;have e6:=b0.lt;rw[a3]at a1;clear a9 J b0 a3 c2;unfold jad.V at a1;gi_wp2_with (refine jbx rfl 94 (.tmp 1) rfl _ _ rfl a1 ?_)
 rw[<-c1.o]
 refine⟨trivial,rfl,CallsIn.mono (callsIn_wide.2 (jpE W2 n)) ?_⟩
 rintro e w3 ⟨rfl,a7,J⟩;have a5:=z.o.lt
 obtain⟨gi,c4⟩:∃ g,g=W2.heap.size:=⟨_,rfl⟩
 obtain⟨E,a2⟩:∃ g,g=w1.heap.size:=⟨_,rfl⟩
 rw[<-a2]at z a5 e6;rw[<-c4]at a7 a5 ⊢;rw[<-a2];have S0:HsS w E gi w3.heap.size n 0 w3:=⟨c3.o.trans J,a7,_,z.o.keeps J (fun h=>h),gA _ _ _ _,(fun b hb=>by cases hb),(fun _=>rfl)⟩;have f8:=a7.lt;have e7:=b1.o.size;have e8:=Hd S0;have a4:=Hd (show w.heap.size<=E by omega);clear a1 a7 J b1 c1 z c3 S0 e7 c4 a2;gi_wp2_with fail
 refine jeD (N:=n.refsL.length) (gf:=145) (lb:=#[.pointer (some ⟨gi,0,none⟩)]) rfl (vX 145) (jk7 gi n hr)
  (fun k=>rfl) (HsS w E gi w3.heap.size n) (fun _ _ _=>False) (fun k W W' h e=>h.st e) (fun _ _ _ _ h _=>h) (fun k W h=>h.it)
  (fun k W o h=>h.put (by have:=a4.o;omega) vO vO vO _)
  (fun k W o h=>h.put (by have:=a4.o;omega) vO vO vO _) (fun _ _ _ _ h=>h)
  e8.o (fun k=>{ tmps:=#[.agg n.cells.toArray,.pointer (some ⟨w.heap.size,0,none⟩),.slice none 0 0,.pointer (some ⟨E,0,none⟩),undef,.string (n.rr k),undef,undef,undef,undef,.agg n.cells.toArray,.bool true,.bool false,.agg n.cells.toArray,.func (.func 145) #[] #[.pointer (some ⟨gi,0,none⟩)],.int .i64 (n.ri k:Nat),.string (n.rr k),undef,undef,undef,undef,undef,undef,undef,undef,undef,undef,undef,undef,undef,undef,undef,undef,undef,undef,undef,undef],defers:=[] })
  ?hassign ?hbody ?hdone ?hstop
 case hassign =>
  intro l j W K hK;rw[jwj,jsi];simp only[dM,dF];gi_wp2;exact hK
 case hbody =>
  intro l k W hk hS f9;have b2:=jwd n hr hk;have a6:=HM.o _ (bI b2.2.1) b2.2.2;have b3:=jqz n hk;have e9:=jsr n k;rw[hr]at e9
  obtain⟨r,c5⟩:=vE (n.rr k)
  rw[<-c5]at a6 b3 ⊢;have HS:=Hd hS;have c6:=Hd b3;have c7:=a4.o;have b4:=Hd c7;clear hS b2 b3 c5 c7;rcases a6 with hh |⟨m,hm⟩
  ·obtain⟨hs,x,q,H,O⟩:=hh.known
   have HX:=Hd (show jct n (k+1)=jct n k++[x] by
    rw[c6.o];unfold jcM;rw[H];show _++(jfc r q).toList=_;rw[O];rfl)
   have H3:=Hd H;have H4:=Hd O;clear H O hh;gi_wp2_with fail
   refine⟨trivial,rfl,CallsIn.mono (CallsIn.inRound l (callsIn_wide.2 (je1 W r q hs H3.o))) ?_⟩
   rintro e w5 ⟨rfl,J⟩;rw[H4.o];have S5:=HS.o.st J
   obtain⟨v,A,Q,H,O⟩:=S5.row
   obtain⟨X,Z,rfl⟩:=jaU Q
   have q4:w5.cell? ⟨E,0,none⟩=some (.slice X (jct n k).length Z):=A.cell (i:=0) vF;have f4:w5.frozen? ⟨E,0,none⟩=false:=A.frozen;have g0:=J.size;have c8:=Hd S5;have a8:=Hd J;have b5:=Hd A;have b6:=Hd Q;have z:=Hd H;clear S5 A Q H O J;unfold optV;gi_wp2_with (gi_at_builtin;refine jb3 _ rfl (.tmp 23) (.tmp 25) 28 rfl 9 i0 _ 1 16 Tryz.uStrs hi e2 e3 e4 rfl vI (.slice X (jct n k).length Z) (jct n k).length _ rfl (jbo b6.o ((ExtR w5).alloc _)) ⟨w5.heap.size,0,none⟩ 1 1 [.string x] rfl rfl (jaI (Blk.new w5 _)) (by simp[Value.oneCell']) (by unfold maxLen;omega) vO ?_)
   intro v' w6 r1 r2 r3;have K6:jaf (fun b=>(Value.slice X (jct n k).length Z).ownBlock=some b) w5 w6:=((jaf.refl _ w5).alloc _).trans r2;have hl:(jct n (k+1)).length=(jct n k).length+1:=by rw[HX.o];simp
   have r1:w6.ownsRow 0 9 1 v' (jct n (k+1)).length ((jct n (k+1)).map Value.string):=by
    rw[hl,HX.o,cB];exact r1
   have nb:∀ b,b < w3.heap.size+2->¬(Value.slice X (jct n k).length Z).ownBlock=some b:=fun b hb e=>by have:=z.o b e;omega
   obtain⟨c9,d0,rfl⟩:=jaU r1
   have d1:∀ b,(Value.slice c9 (jct n (k+1)).length d0).ownBlock=some b->w3.heap.size+2<=b:=fun b hb=>by
    rcases r3 with r3 | r3
    ·exact z.o b (r3 ▸ hb)
    ·have:=r3 b hb;first | omega |(simp at this;omega)
   have B4:=b5.o.keeps K6 (nb _ vO);have g1:w6.cell? ⟨E,0,none⟩=some (.slice X (jct n k).length Z):=B4.cell (i:=0) vF;have g2:w6.frozen? ⟨E,0,none⟩=false:=B4.frozen;have b7:=Hd K6;have b8:=Hd B4;have R1:=Hd r1;have d2:=Hd d1;have NB:=Hd nb;clear K6 r1 r2 r3 d1 B4 nb q4 f4 hl;gi_wp2;have k7:jaf (fun b=>b=E) w6 (w6.setCell ⟨E,0,none⟩ (.slice c9 (jct n (k+1)).length d0)):=jaf.oneSet w6 ⟨E,0,none⟩ _
   refine⟨((a8.o.mono (fun _ _ h=>h.elim)).trans (b7.o.mono (fun x _ e=>?_))).trans' k7 (fun x _ e=>?_),?_⟩
   ·have:=z.o x e;show x≠_/\x≠_;omega
   ·have e:x=_:=e;show x≠_/\x≠_;omega
   ·refine⟨(c8.o.ext.trans' b7.o (fun x hx e=>by have:=z.o x e;have:=b4.o;omega)).trans' k7 (fun x hx e=>by have e:x=_:=e;have:=b4.o;omega),
     (c8.o.it.keeps b7.o (NB.o _ vO)).keeps k7 (fun e=>by omega),
     _,b8.o.set_same (i:=0) _,jbc R1.o k7 (fun b hb e=>by have:=d2.o b hb;omega),d2.o,fun h0=>?_⟩
    rw[HX.o]at h0;simp at h0
  ·have hs:=(inlP d).small r m hm
   obtain⟨q,H,O⟩:=(inlP d).nohash r m hm
   have HX:=Hd (show jct n (k+1)=jct n k by
    rw[c6.o,jdT (inlP d) hm];simp)
   have HC:=Hd ((inlP d).inl r m hm);have b9:=Hd ((inlP d).refs r m hm);have H3:=Hd H;have H4:=Hd O;have f0:=Hd (show ∀ W,vQ 84 #[m.V] W fun e W'=>e=.returned (.slice none 0 0)/\Ext W W' from fun W=>by
    have f1:jaM m=[]:=by
     cases d with
     | zero=>exact hm.elim
     | succ d=>exact jmX hm.1 (by rw[<-hm.2.1];exact hm.2.2.1)
    refine (e5.o r m hm W).mono ?_;rintro e W' ⟨v,rfl,A,Q⟩;rw[Q f1];exact⟨rfl,A.ext⟩)
   clear H O hm;gi_wp2_with fail
   refine⟨trivial,rfl,CallsIn.mono (CallsIn.inRound l (callsIn_wide.2 (je1 W r q vO H3.o))) ?_⟩
   rintro e w5 ⟨rfl,J⟩;rw[H4.o];have a8:=Hd J;clear J;unfold optV;gi_wp2_with fail
   refine⟨trivial,rfl,CallsIn.mono (CallsIn.inRound l (callsIn_wide.2 (HC.o w5))) ?_⟩
   rintro e w6 ⟨rfl,J⟩;have d3:=Hd (a8.o.trans J);clear J a8;unfold jad.V;gi_wp2_with (refine jm8 Tryz.allocNode rfl rfl ?_;intro W7 d4 d5;refine jlp (vs:=m.cells) rfl rfl rfl rfl d4 (by rw[m.cells_len b9.o];rfl) (by rw[m.cells_len b9.o];exact Tryz.szNode) m.one ?_;intro W8 d6 d7)
   have c0:Ext w6 W8:=d5.trans' d7 (fun x hx e=>by have e:x=w6.heap.size:=e;omega);have S8:=HS.o.st (d3.o.trans c0)
   obtain⟨v,A,Q,H,O⟩:=S8.row
   obtain⟨X,Z,rfl⟩:=jaU Q
   have d8:=jAp Q;have f2:=Hd S8;have f3:=Hd d6;have H1:=Hd A;have f5:=Hd c0;have f6:=Hd d8;clear d4 d5 d7 d6 c0 S8 A Q H O d8;gi_wp2_with fail
   refine jhF [0,1,2,3,4] [4] Ext ExtR ExtT vY vY vY vY ?_;refine qL ⟨E,0,none⟩ _ rfl (fun w1 A=>jab Tryz.uStrs rfl (jaa (by exact H1.o.cell (i:=0) (v:=.slice X (jct n k).length Z) vF) ((jah _).trans A))) ?_;refine vS ?_;refine qL ⟨w6.heap.size,0,none⟩ _ rfl (fun w1 A=>jao w1 _ m b9.o (f3.o.keeps ((jah _).trans A) (fun h=>h))) ?_;refine vS ?_;refine jc9 _ 84 #[m.V] (.slice none 0 0) rfl vY rfl (fun w1=>jaq (vX 84) vY) (fun w1 A=>f0.o w1) ?_;refine vS ?_;refine qA _ (.slice X (jct n k).length Z) rfl (fun w1=>jdR (jcn Tryz.uStrs hi X (jct n k).length Z f6.o 0 w1) vY) ?_;refine vS ?_;refine qH _ rfl (fun w1 he K hK=>?_);have S9:=f2.o.st ((jah _).trans he);have d9:Ext W w1:=(d3.o.trans f5.o).trans ((jah _).trans he)
   obtain⟨v,A,Q,H,O⟩:=S9.row
   have a0:w1.cell? ⟨E,0,none⟩=some (.slice X (jct n k).length Z):=jaa (H1.o.cell (i:=0) (v:=.slice X (jct n k).length Z) vF) ((jah _).trans he);have e0:v=.slice X (jct n k).length Z:=by
    have:=A.cell (i:=0) (v:=v) vF
    rw[a0]at this;exact (bS this).symm
   rw[e0]at A Q H O;have q4:=a0;have f4:w1.frozen? ⟨E,0,none⟩=false:=A.frozen;have e1:=Hd S9;have b5:=Hd A;have b6:=Hd Q;have z:=Hd H;have b8:=Hd O;have f7:=Hd d9;clear S9 a0 e0 A Q H O he d9;go_simp;refine hK _ _ ?_;clear hK K q4 f4;refine qE (fun w2 he=>?_);have k7:jaf (fun b=>b=E) w1 (w1.setCell ⟨E,0,none⟩ (.slice X (jct n k).length Z)):=jaf.oneSet w1 ⟨E,0,none⟩ _;have k8:jaf (fun b=>b=E) w1 w2:=k7.trans (he.mono (fun _ _ h=>h.elim))
   refine⟨(f7.o.mono (fun _ _ h=>h.elim)).trans' k8 (fun x _ e=>?_),?_⟩
   ·have e:x=_:=e;show x≠_/\x≠_;omega
   ·refine⟨e1.o.ext.trans' k8 (fun x hx e=>by have e:x=_:=e;have:=b4.o;omega),e1.o.it.keeps k8 (fun e=>by omega),.slice X (jct n k).length Z,(b5.o.set_same (i:=0) _).keeps he (fun h=>h),?_⟩
    rw[HX.o]
    exact⟨jbc b6.o k8 (fun b hb e=>by have:=z.o b hb;omega),z.o,b8.o⟩
 case hdone =>
  intro W hS hd
  obtain⟨v,A,Q,H,O⟩:=hS.row
  rw[jsq]at Q O
  obtain⟨X,Z,rfl⟩:=jaU Q
  have q4:W.cell? ⟨E,0,none⟩=some (.slice X (jaM n).length Z):=A.cell (i:=0) vF;have HS:=Hd hS;have HR:=Hd (show ORow 9 1 w W (.slice X (jaM n).length Z) (jaM n).length ((jaM n).map Value.string)from⟨⟨_,_,rfl⟩,Q,hS.ext,fun b hb=>by have:=H b hb;have:=a4.o;omega⟩);have H3:=Hd H;have H4:=Hd O;have HD:=Hd hd;clear hS A Q H O hd;gi_wp2
  refine⟨by simp,.inl ⟨_,_,rfl,run_takeDeferred HD.o,?_⟩⟩
  refine⟨.slice X (jaM n).length Z,by simp[results,Tryz.results84,go_sem],(HQ.o _ _).2 ⟨HR.o.keeps (jaf.onePut W w3.heap.size (.deferred none)) (fun b hb e=>by have:=H3.o b hb;omega) (fun b hb e=>by have:=a4.o;omega),H4.o⟩⟩
 case hstop=>intro c k W _ _ h;exact h.elim
theorem jkF:∀ (d:Nat) (n:jad),jbT (InlD d) n->∀ w,vQ 84 #[n.V] w (juu w n)
 | 0,n,h,w=>jiH 0 n h (fun _ _ e=>e.elim) w
 | d+1,n,h,w=>jiH (d+1) n h (fun r m e w=>jkF d m e.1 w) w
end
section
open Classical in
noncomputable def nodeOf(t:vB):jad:=if h:∃ n,jbr t n then h.choose else jaG
theorem jdm{t:vB}{n:jad}(h:jbr t n):jbr t (nodeOf t):=by
 unfold nodeOf;have e:∃ n,jbr t n:=⟨n,h⟩;rw[dif_pos e];exact e.choose_spec
theorem jiG{t:vB}{n:jad}(h:jbr t n):(jaM n).length<=16:=by
 obtain⟨_,g,e⟩:=h
 have:=(e.one (inlP g)).refs
 unfold jaM;have o:=iR jcM n.refs;omega
theorem jqP{L:vM}(h:L.Nodup){i:Nat}{t:vB}(ht:L[i]?=some t):t ∉ L.take i:=fun o=>by
 obtain⟨k,E,e⟩:=List.mem_take_iff_getElem.1 o
 obtain⟨z,A⟩:=bP.1 ht
 exact gU.1 h k i vO z vO (e.trans A.symm)
theorem jgn{P:Program}{t T:TypeId}{sz by':Nat}(I:jd0 P t T sz by'){ops:Array Oper}{rest:List Oper}{d:Option Tmp}{ty:TypeId}{pos:String}{af:Array Edge}{a:Act}{w:vW}{Q:Exit->Act->vW->Prop}{s x:Operand}{base:Option Addr}{n c c2:Nat}
  (hs:a.eval s=.slice base n c) (hx:a.eval x=.slice none 0 c2) (hle:n<=c) (h:wpList P ops Q rest (a.put d (.slice base n c)) w) :
  wpList P ops Q (⟨d,.call { callee:=.builtin .append,args:=#[s,x],argTypes:=#[t,t] },ty,pos,af,none⟩ :: rest) a w:=by
 obtain⟨i,z,e,_⟩:=I.hi
 exact wpList_plain rfl fun K o=>jcb (jdR (jcn I.ht e base n c hle c2 w) (by simp[hs,hx])) (o _ _ h)
end
theorem jmr(w:vW)(v:vV)(l:vL)(hv:RdP w v l)(hn:l.length<=9223372036854775807)(hs:∀ p∈l,p.1.size<=9223372036854775807/\p.2.size<=9223372036854775807)(h:jaw l≠0):vR 6 #[v] w (.tuple #[.slice none 0 0,.int .i64 (jaw l)]):=by
 have z:=jhc w v l hv hn hs
 obtain⟨a,c,rfl⟩:=hv.sl
 obtain⟨x,A⟩:=vE (jaw l)
 rw[<-A]at h z ⊢;have H:(x == 0)=false:=by simpa using h
 have J:=Hd z;clear z hv A hs;refine (callsIn_wide (n:=0)).1 ?_;refine callsIn_of_wp_marks Tryz.func6 rfl trivial ?_ rfl;simp only[Tryz.ntmps6,dL,bF,cF,Nat.reduceAdd,Nat.reduceSub,dO,dN,fC,dS,cP,cZ];gi_wp2_with fail
 refine⟨trivial,rfl,CallsIn.mono (callsIn_wide.2 J.o) ?_⟩
 rintro e w1 ⟨rfl,E⟩;have K:=Hd E;clear E;gi_wp2_with fail
 refine⟨_,results_tmp2 rfl _ _ _,?_⟩
 exact⟨rfl,K.o⟩
def jfq(p:Pair):Bool:=decide (p.1.size<=20) && decide (p.2.size<=100)
def fewB(l:vL):Bool:=l.all jfq && decide (l.length<=45)
def jAY(w:vW)(l:vL)(i:vV)(wr:vW):Prop:=∃ k:Nat,k<=l.length/\k<=46/\i=.int .i64 k/\Ext w wr/\(l.take k).all jfq=true
theorem juC{l:vL}{k:Nat}{p:Pair}(h:l[k]?=some p):(l.take (k+1)).all jfq=((l.take k).all jfq && jfq p):=by
 rw[bY,h,jB];simp
theorem jrr{l:vL}{k:Nat}{p:Pair}(h:l[k]?=some p)(hb:jfq p=false):fewB l=false:=by
 unfold fewB
 have:l.all jfq=false:=by
  rw[fP];intro e
  have:=fB.1 e p (bI h)
  rw[hb]at this;cases this
 rw[this];rfl
theorem jwP(w:vW)(v:vV)(l:vL)(hv:RdP w v l)(hn:l.length<=9223372036854775807)(hs:∀ p∈l,p.1.size<=9223372036854775807/\p.2.size<=9223372036854775807) :
  vR 28 #[v] w (.bool (fewB l)):=by
 have HV:=Hd hv;have HS:=Hd hs
 obtain⟨a,c,rfl⟩:=hv.sl;clear hv hs
 obtain⟨R,O⟩:=vE (fewB l)
 rw[<-O];have J:=Hd O;clear O;go_enter Tryz.func28,Tryz.ntmps28;go_wp2_with fail
 go_loopw [3] (fun i wr=>jAY w l i wr) (fun i _=>l.length - (intOf i).toNat)
 case atStart=>exact⟨0,by omega,by omega,rfl,ExtR w,rfl⟩
 case round =>
  obtain⟨k,hk,a1,rfl,hE,e⟩:=hrel
  have A:=Hd hE;have E:=Hd e;clear hE e
  by_cases hlt:k < l.length
  ·have b1:(k:Int) < (l.length:Int):=vO
   by_cases h45:k<=45
   ·have Q:(k:Int)<=45:=vO
    obtain⟨p,K⟩:∃ p,l[k]?=some p:=⟨_,bA hlt⟩
    rcases HV.o with⟨_,_,_,h0⟩ |⟨b,o,c1,hh,hb,hc,hcell⟩
    ·rw[h0]at hlt;cases hlt
    cases hh
    obtain⟨X,Z⟩:=hcell k p K
    have X:=jaa X A.o;have Z:=jaa Z A.o;have a0:=HS.o p (bI K);have HP:=Hd K
    obtain⟨x,y⟩:=p
    simp only at X Z a0;clear hcell hb hc K
    by_cases hx:20 < x.size
    ·have b3:(20:Int) < (x.size:Int):=vO
     have z:=Hd (show R=false by rw[J.o];exact jrr HP.o (by unfold jfq;simp;omega));clear hx;go_wp2_with fail
     go_ret
     exact⟨by rw[z.o];rfl,A.o⟩
    ·have b3:¬(20:Int) < (x.size:Int):=vO
     by_cases hy:100 < y.size
     ·have b4:(100:Int) < (y.size:Int):=vO
      have z:=Hd (show R=false by rw[J.o];exact jrr HP.o (by unfold jfq;simp;omega));clear hx hy;go_wp2_with fail
      go_ret
      exact⟨by rw[z.o];rfl,A.o⟩
     ·have b4:¬(100:Int) < (y.size:Int):=vO
      have HG:=Hd (show (l.take (k+1)).all jfq=true by rw[juC HP.o,E.o];unfold jfq;simp;omega);clear hx hy;go_wp2_with fail
      go_roundw
      case rel=>exact⟨k+1,by omega,by omega,by go_num,A.o,HG.o⟩
      case measure=>exact vJ
   ·have Q:¬(k:Int)<=45:=vO
    have b3:¬(l.length:Int)<=45:=vO
    have z:=Hd (show R=false by rw[J.o];unfold fewB;simp;omega);clear h45;go_wp2_with fail
    go_ret
    exact⟨by rw[z.o];rfl,A.o⟩
  ·have H:k=l.length:=vO
   have b1:¬(k:Int) < (l.length:Int):=vO
   have e:=E.o;rw[H,cJ]at e
   by_cases h45:l.length<=45
   ·have Q:(l.length:Int)<=45:=vO
    have z:=Hd (show R=true by rw[J.o];unfold fewB;rw[e];simp;omega);clear H e h45;go_wp2_with fail
    go_ret
    exact⟨by rw[z.o];rfl,A.o⟩
   ·have Q:¬(l.length:Int)<=45:=vO
    have z:=Hd (show R=false by rw[J.o];unfold fewB;simp;omega);clear H e h45;go_wp2_with fail
    go_ret
    exact⟨by rw[z.o];rfl,A.o⟩
abbrev Key:=vN
abbrev EntK:=Ent Key
def kvE(x:EntK):Key × vV:=(x.1,x.2.1)
def getV(m:List (Key × vV))(k:Key):Option vV:=(m.find? fun x=>decide (k=x.1)).map (·.2)
def putV:List (Key × vV)->Key->vV->List (Key × vV)
 | [],k,v=>[(k,v)]
 | x :: r,k,v=>if k=x.1 then (k,v) :: r else x :: putV r k v
structure MapV(es:List EntK)(ck:Nat)(m:List (Key × Value)):Prop where
 same:es.map kvE=m
 born:(es.map (·.2.2)).Nodup
 lt:∀ x∈es,x.2.2 < ck
 keys:(m.map (·.1)).Nodup
theorem MapV.nil(ck:Nat):MapV [] ck []:=⟨rfl,by simp,by simp,by simp⟩
theorem MapV.len{es:List EntK}{ck:Nat}{m:List (Key × vV)}(h:MapV es ck m):es.length=m.length:=by rw[<-h.same];simp
theorem jwR(k:Key):∀ es:List EntK,jaZ es k=getV (es.map kvE) k
 | []=>rfl
 | x :: r=>by
  have e:=jwR k r;unfold getV jaZ at *;rw[bV,fX,fX]
  by_cases h:k=x.1
  ·simp[h,kvE]
  ·simp[h,kvE]at e ⊢;exact e
theorem MapV.get{es:List EntK}{ck:Nat}{m:List (Key × vV)}(h:MapV es ck m)(k:Key):jaZ es k=getV m k:=by rw[jwR,h.same]
theorem jtu(k:Key)(v:vV)(n:Nat):∀ es:List EntK,(jbs es k v n).map kvE=putV (es.map kvE) k v
 | []=>rfl
 | x :: r=>by
  unfold jbs;rw[bV,putV]
  by_cases h:k=x.1
  ·rw[if_pos h,if_pos (show k=(kvE x).1 from h),bV];rfl
  ·rw[if_neg h,if_neg (show ¬ k=(kvE x).1 from h),bV,jtu k v n r]
theorem jl3(x:EntK)(r:List EntK)(k:Key):jaZ (x :: r) k=if k=x.1 then some x.2.1 else jaZ r k:=by
 by_cases h:k=x.1 <;> simp[jaZ,h]
theorem jmz(k:Key)(v:vV)(n:Nat):∀ es:List EntK,(jbs es k v n).map (·.2.2)=if (jaZ es k).isSome then es.map (·.2.2)else es.map (·.2.2)++[n]
 | []=>rfl
 | x :: r=>by
  unfold jbs;rw[jl3]
  by_cases h:k=x.1
  ·rw[if_pos h,if_pos h];simp
  ·rw[if_neg h,if_neg h,bV,jmz k v n r]
   cases (jaZ r k).isSome <;> simp
theorem jmB(k:Key)(v:vV):∀ m:List (Key × vV),(putV m k v).map (·.1)=if k∈m.map (·.1)then m.map (·.1)else m.map (·.1)++[k]
 | []=>rfl
 | x :: r=>by
  rw[putV]
  by_cases h:k=x.1
  ·rw[if_pos h,if_pos (by simp[h])];simp[h]
  ·rw[if_neg h,bV,jmB k v r]
   by_cases h2:k∈r.map (·.1)
   ·rw[if_pos h2,if_pos (by rw[bV];exact bE _ h2)];rfl
   ·rw[if_neg h2,if_neg (by rw[bV,bM];exact fun e=>e.elim h h2)];rfl
theorem MapV.put{es:List EntK}{ck:Nat}{m:List (Key × vV)}(h:MapV es ck m)(k:Key)(v:vV):MapV (jbs es k v ck) (if (jaZ es k).isSome then ck else ck+1) (putV m k v):=by
 have hb:=jmz k v ck es
 refine⟨by rw[jtu,h.same],?_,?_,?_⟩
 ·rw[hb]
  split
  ·exact h.born
  ·rw[fD]
   refine⟨h.born,by simp,fun a z b hb e=>?_⟩
   obtain⟨x,A,H⟩:=bJ.1 z
   have:=h.lt x A
   simp at hb;omega
 ·intro x A
  have o:x.2.2∈(jbs es k v ck).map (·.2.2):=bJ.2 ⟨x,A,rfl⟩;rw[hb]at o;split at o
  ·rename_i hs
   rw[if_pos hs]
   obtain⟨y,E,e⟩:=bJ.1 o
   rw[<-e];exact h.lt y E
  ·rename_i hs
   rw[if_neg hs];rcases bT.1 o with o | o
   ·obtain⟨y,E,e⟩:=bJ.1 o
    have:=h.lt y E;omega
   ·simp at o;omega
 ·rw[jmB]
  split
  ·exact h.keys
  ·rename_i hn
   rw[fD]
   exact⟨h.keys,by simp,fun a z b hb e=>by simp at hb;subst hb;subst e;exact hn z⟩
structure It where
 text:vB
 refs:vM
 used:Int
 held:Int
abbrev Nd5:=Key × Nat × It
abbrev vT:=List Nd5
theorem Tryz.uMapIt:Tryz.prog.underlying 70=some (.map 9 108):=vY
theorem Tryz.zeroIt(w:vW):(zeroValue 108).run Tryz.prog w=.ok (.pointer none) w:=vY
structure jeY(W:World)(b:Nat)(it:It):Prop where
 cells:∃ rv,Blk W b (.cells #[.string it.text,rv,.int .i64 it.used,.int .i64 it.held] 110)/\W.ownsRow 0 9 1 rv it.refs.length (it.refs.map Value.string)
def jjk(W:vW)(F:BSet):Prop:=∀ b cur fz,F b->¬ Blk W b (.cells cur 9 fz)
theorem jjk.none(W:vW):jjk W (fun _=>False):=fun _ _ _ h=>h.elim
theorem jgW{W W':vW}{F:BSet}{v:vV}{n:Nat}{xs:List vV}(h:W.ownsRow 0 9 1 v n xs)(k:jaf F W W')(hF:jjk W F):W'.ownsRow 0 9 1 v n xs:=by
 refine jbc h k fun b hb A=>?_
 obtain⟨_,⟨o,_⟩ |⟨g,E,z,o,_,H,_⟩⟩:=h
 ·rw[o]at hb;cases hb
 ·rw[o]at hb
  have e:some g=some b:=hb;obtain rfl:=bS e;exact hF g z (0,0) A H
theorem jeY.keeps{W W':vW}{F:BSet}{b:Nat}{it:It}(h:jeY W b it)(k:jaf F W W')(hb:¬ F b)(hF:jjk W F):jeY W' b it:=by
 obtain⟨e,o,z⟩:=h.cells
 exact⟨e,o.keeps k hb,jgW z k hF⟩
theorem jeY.lt{W:vW}{b:Nat}{it:It}(h:jeY W b it):b < W.heap.size:=by obtain⟨o,e,_⟩:=h.cells;exact e.lt
def kvN(x:Nd5):Key × vV:=(x.1,.pointer (some ⟨x.2.1,0,none⟩))
structure jdr(W:World)(bm:Nat)(L:vT):Prop where
 mp:∃ es ck,Blk W bm (.map (Tryz.ES.arr es) ck)/\MapV es ck (L.map kvN)
 blks:(L.map (·.2.1)).Nodup
 items:∀ x∈L,jeY W x.2.1 x.2.2
theorem jdr.keeps{W W':vW}{F:BSet}{bm:Nat}{L:vT}(h:jdr W bm L)(k:jaf F W W')(hm:¬ F bm)(hL:∀ x∈L,¬ F x.2.1)(hF:jjk W F):jdr W' bm L:=by
 obtain⟨o,z,A,E⟩:=h.mp
 exact⟨⟨o,z,A.keeps k hm,E⟩,h.blks,fun x e=>(h.items x e).keeps k (hL x e) hF⟩
theorem jdr.ext{W W':vW}{bm:Nat}{L:vT}(h:jdr W bm L)(k:Ext W W'):jdr W' bm L:=h.keeps k (fun h=>h) (fun _ _ h=>h) (jjk.none W)
def atL(L:vT)(k:Key):Option Nd5:=L.find? fun x=>decide (k=x.1)
theorem jsm(k:Key):∀ L:vT,getV (L.map kvN) k=(atL L k).map fun x=>.pointer (some ⟨x.2.1,0,none⟩)
 | []=>rfl
 | x :: r=>by
  have e:=jsm k r;unfold getV atL at *;rw[bV,fX,fX]
  by_cases h:k=x.1
  ·simp[h,kvN]
  ·simp[h,kvN]at e ⊢;exact e
theorem jbd{L:vT}{k:Key}{x:Nd5}(h:atL L k=some x):x∈L/\x.1=k:=by
 unfold atL at h;have e:=List.find?_some h
 exact⟨List.mem_of_find?_eq_some h,(of_decide_eq_true e).symm⟩
def ptrO(o:Option Nd5):vV:=match o with | some x=>.pointer (some ⟨x.2.1,0,none⟩) | none=>.pointer none
theorem jdr.look{W:vW}{bm:Nat}{L:vT}(h:jdr W bm L)(k:vB)(ok:Bool) :
  (Instr.lookup 70 (.map (some bm)) (.string k) ok).run Tryz.prog W=.ok (if ok then .tuple #[ptrO (atL L k.data.toList),.bool (atL L k.data.toList).isSome]else ptrO (atL L k.data.toList)) W:=by
 obtain⟨z,A,e,o⟩:=h.mp
 have:=jcw Tryz.ES Tryz.uMapIt e (Tryz.zeroIt W) k.data.toList ok
 rw[o.get,jsm]at this;cases ha:atL L k.data.toList with
 | none=>rw[ha]at this;exact this
 | some x=>rw[ha]at this;exact this
structure jaS(W:World)(s bm:Nat)(room:Int)(L:vT):Prop where
 st:Blk W s (.cells #[.int .i64 room,.map (some bm)] 72)
 mp:jdr W bm L
theorem jaS.ext{W W':vW}{s bm:Nat}{room:Int}{L:vT}(h:jaS W s bm room L)(k:Ext W W'):jaS W' s bm room L:=⟨h.st.keeps k (fun h=>h),h.mp.ext k⟩
theorem jjd(w:vW)(s bm:Nat)(room:Int)(L:vT)(k:vB)(h:jaS w s bm room L):vR 63 #[.pointer (some ⟨s,0,none⟩),.string k] w (optV ((atL L k.data.toList).map (·.2.2.text))):=by
 have E:=h.st.cell (i:=1) (v:=.map (some bm)) vF;have e:=h.mp.look k true;have A:=Hd h.mp.items;simp only[if_true]at e;clear h;cases ha:atL L k.data.toList with
 | none =>
  rw[ha]at e;unfold ptrO at e;simp only[Option.isSome]at e;clear ha;unfold vR vQ;go_in;go_wp2_with fail
  go_ret2
  exact⟨rfl,ExtR w⟩
 | some x =>
  rw[ha]at e
  obtain⟨H,z,_⟩:=(A.o x (jbd ha).1).cells
  have J:=z.cell (i:=0) (v:=.string x.2.2.text) vF;unfold ptrO at e;simp only[Option.isSome]at e;clear ha z;unfold vR vQ;go_in;go_wp2_with fail
  go_ret2
  exact⟨rfl,ExtR w⟩
def jvr(o:Option Nd5):Int:=match o with | some x=>x.2.2.held | none=>0
def jb7(l:vL):Prop:=∀ p∈l,p.1.size<=9223372036854775807/\p.2.size<=9223372036854775807
theorem jbm(a b:vB):jbh a b=true↔Lt a.data.toList b.data.toList:=by
 unfold jbh;rw[bO,bO]
abbrev Pair.k(p:Pair):vN:=p.1.data.toList
def look(m:vL)(k:vN):Option vB:=(m.find? (fun p=>decide (k=p.k))).map (·.2)
theorem jgH(k:vN):look [] k=none:=rfl
theorem jaO(q:Pair)(r:vL)(k:vN):look (q :: r) k=if k=q.k then some q.2 else look r k:=by
 unfold look
 by_cases h:k=q.k <;> simp[fX,h]
def jf1(l:vL):Prop:=l.Pairwise fun p q=>Lt p.k q.k
theorem jdj{k:vN}:∀ {m:vL},k ∉ m.map Pair.k->look m k=none
 | [],_=>rfl
 | q :: r,h=>by
  simp only[bV,bM,not_or]at h;rw[jaO,if_neg h.1,jdj h.2]
theorem jhK:∀ (a b:vN),Lt a b\/a=b\/Lt b a
 | [],[]=>.inr (.inl rfl)
 | [],_ :: _=>.inl jpm
 | _ :: _,[]=>.inr (.inr jpm)
 | a :: x,b :: y=>by
  rcases Nat.lt_trichotomy a.toNat b.toNat with h | h | h
  ·exact .inl (jbG.2 (.inl (dD.2 h)))
  ·have e:=dP.1 h
   subst e;rcases jhK x y with h | h | h
   ·exact .inl (jbG.2 (.inr ⟨rfl,h⟩))
   ·exact .inr (.inl (by rw[h]))
   ·exact .inr (.inr (jbG.2 (.inr ⟨rfl,h⟩)))
  ·exact .inr (.inr (jbG.2 (.inl (dD.2 h))))
theorem jgN{p q:Pair}(h1:p.k=q.k)(h2:p.2=q.2):p=q:=by
 obtain⟨⟨⟨a⟩⟩,b⟩:=p
 obtain⟨⟨⟨c⟩⟩,d⟩:=q
 simp only[Pair.k]at h1 h2;subst h1;subst h2;rfl
theorem jgU:∀ {a b:vL},jf1 a->jf1 b->(∀ k,look a k=look b k)->a=b
 | [],[],_,_,_=>rfl
 | [],q :: b,_,_,h=>by have:=h q.k;rw[jaO,if_pos rfl]at this;cases this
 | p :: a,[],_,_,h=>by have:=h p.k;rw[jaO,if_pos rfl]at this;cases this
 | p :: a,q :: b,h1,h2,h=>by
  have A:=cS.1 h1;have E:=cS.1 h2;have out:∀ (x:vN) (y:Pair) (m:vL),(∀ z∈m,Lt y.k z.k)->Lt x y.k->look (y :: m) x=none:=fun x y m H K=>by
   refine jdj fun o=>?_;rw[bV,bM]at o;rcases o with e | o
   ·exact lt_irrefl _ (e ▸ K)
   ·obtain⟨z,J,e⟩:=bJ.1 o
    exact lt_irrefl _ (jdk _ _ _ K (e ▸ H z J))
  have O:p.k=q.k:=by
   rcases jhK p.k q.k with e | e | e
   ·have:=h p.k
    rw[out p.k q b E.1 e,jaO,if_pos rfl]at this;cases this
   ·exact e
   ·have:=h q.k
    rw[out q.k p a A.1 e,jaO,if_pos rfl]at this;cases this
  have Z:p.2=q.2:=by
   have:=h p.k
   rw[jaO,if_pos rfl,jaO,if_pos O]at this;exact bS this
  have e:=jgN O Z;subst e
  have:a=b:=jgU A.2 E.2 fun k=>by
   have Q:=h k;rw[jaO,jaO]at Q
   by_cases e:k=p.k
   ·have X:∀ m:vL,(∀ z∈m,Lt p.k z.k)->look m k=none:=fun m H=>jdj fun o=>by
     obtain⟨z,J,e2⟩:=bJ.1 o
     have:=H z J
     rw[e2,e]at this;exact lt_irrefl _ this
    rw[X a A.1,X b E.1]
   ·rwa [if_neg e,if_neg e]at Q
  rw[this]
