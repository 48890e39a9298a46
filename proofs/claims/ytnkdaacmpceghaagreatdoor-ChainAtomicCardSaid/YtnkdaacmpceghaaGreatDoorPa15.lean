/- Lemmas; each is under no condition but those that it states. -/
import Derived.Test.YtnkdaacmpceghaaGreatDoorPa14
namespace Go.Proofs.YtnkdaacmpceghaaGreatDoor
set_option linter.unusedSimpArgs false
set_option linter.unusedVariables false
set_option maxRecDepth 100000
set_option maxHeartbeats 16000000
open Go Go.RowKit
variable {k r B sz g3 gi m i by' d:Nat}{x s:Operand}{ad base:Option Addr}{n:jae}{t:vB}{l L:vM}{w W W':vW}
section
attribute [local go_sem] Oper.semAt_some
theorem jfj:∀ (l:vM) (i:Nat),((jav i l).filterMap fun x=>jcM x.2)=l.filterMap jcM
 | [],_=>rfl
 | x :: l,i=>by
  unfold jav
  by_cases h:x.size=0
  ·rw[if_pos h,jfj l,gG,ja5 h,jet]
  ·rw[if_neg h,gG,gG,jfj l]
def jb1(n:jae)(k:Nat):vM:=(n.refsL.take k).filterMap fun x=>jcM x.2
theorem jqk(n:jae):jb1 n n.refsL.length=jaP n:=by
 unfold jb1;rw[cG];exact jfj _ _
theorem jn9(n:jae)(hk:k < n.refsL.length):jb1 n (k+1)=jb1 n k++(jcM (n.rr k)).toList:=by
 unfold jb1;rw[cS hk,List.filterMap_append]
 congr 1
 have:n.rr k=(n.refsL[k]).2:=by simp[jae.rr,bJ,hk]
 rw[this,gG];cases jcM (n.refsL[k]).2 <;> rfl
theorem jql(n:jae)(k:Nat):(jb1 n k).length<=n.refs.length:=by
 have q:∀ (l:vM) (i:Nat),(jav i l).length<=l.length:=by
  intro l;induction l with
  | nil=>intro i;simp[jav]
  | cons x r ih=>intro i;unfold jav;split <;> simp <;> have:=ih (i+1) <;> omega
 have A:=q n.refs 0;unfold jb1;have e:=List.length_filterMap_le (fun x:Nat × vB=>jcM x.2) (n.refsL.take k);rw[cQ]at e
 have:n.refsL=jav 0 n.refs:=rfl
 rw[this]at e ⊢;omega
theorem jmU{x:vB}(h:x∈l):x.size<=(ja6 l).size:=bE (jgU l x h) (jg2 l)
theorem jmS{r:vB}(h:MayP (InlD d) r)(hs:r.size < 32):jcM r=none:=by
 rcases h with h |⟨m,h⟩
 ·have:=h.size;omega
 ·exact jes (inlP d) h
theorem jk1(h:jaW (InlD d) n)(hs:(jaV n).size < 32):jaP n=[]:=by
 unfold jaP;cases h with
 | none=>exact jhy 16
 | leaf p v h1 h2 h3=>exact jhy 16
 | ext p r h1 h2 h3 =>
  show (r :: jaw 15).filterMap jcM=[];have q:r.size < 32:=by
   have e:jaV ⟨2,p,⟨#[]⟩,r :: jaw 15⟩=ja6 [jam (putB p false),r]:=rfl
   have:=jmU (x:=r) (l:=[jam (putB p false),r]) (by simp)
   rw[e]at hs;omega
  rw[gG,jhy,jmS (h3.imp id fun ⟨m,h,_⟩=>⟨m,h⟩) q]
 | branch v rs h1 h2 h3 h4 =>
  show rs.filterMap jcM=[];rw[iF];intro r q
  by_cases h0:r.size=0
  ·rw[ja5 h0,jet]
  ·have e:jaV ⟨3,⟨#[]⟩,v,rs⟩=ja6 (jbJ rs v):=by
    show ja6 (jbB _)=_;rw[jf3 _ h1]
   have A:r∈jbJ rs v:=by
    unfold jbJ;refine bQ.2 (.inl (bD.2 ⟨r,q,?_⟩));rw[if_neg h0]
   have:=jmU A
   rw[e]at hs;exact jmS (h3 r q h0) vO
theorem jyk{T:TypeId}{n cp:Nat}{xs:List vV}(h:w.ownsRow B T sz (.slice ad n cp) n xs):n<=cp:=by
 obtain⟨_,⟨e,q⟩ |⟨g,A,H,e,q,J,K,_⟩⟩:=h
 ·omega
 ·obtain⟨_,_,O⟩:=dC e;omega
structure HsS(w:World)(g3 gi m:Nat)(n:jae)(k:Nat)(W:World):Prop where
 ext:Ext w W
 it:Blk W gi (.cells n.cells.toArray 298)
 row:∃ v,Blk W g3 (.cells #[v] 34)/\W.ownsRow 0 9 1 v (jb1 n k).length ((jb1 n k).map Value.string)/\(∀ b,v.ownBlock=some b->m+2<=b)/\(jb1 n k=[]->v=.slice none 0 0)
theorem HsS.st(h:HsS w g3 gi m n k W)(e:Ext W W'):HsS w g3 gi m n k W':=
 let ⟨v,h1,h2,h3,h4⟩:=h.row
 ⟨h.ext.trans e,h.it.keeps e (fun h=>h),v,h1.keeps e (fun h=>h),jaZ h2 e,h3,h4⟩
theorem HsS.put(h:HsS w g3 gi m n k W)(hr:w.heap.size<=r)(h1:g3 < r)(h1':gi < r)(h2:r < m+2)(o:Obj):HsS w g3 gi m n k (W.putObj r o):=
 let ⟨v,h3,h4,h5,h6⟩:=h.row
 ⟨h.ext.putObj (.inr hr) _,h.it.put_other vO _,v,h3.put_other vO _,jaL h4 (jac.onePut W r o) (fun b hb e=>by have:=h5 b hb;omega),h5,h6⟩
def jr4(w:vW)(n:jae)(e:Ending)(w':vW):Prop:=∃ v,e=.returned v/\SRow w w' v (jaP n).length (jaP n)/\(jaP n=[]->v=.slice none 0 0)
theorem jtc{I:vB->jae->Prop}(h:jaW I n):∀ r∈n.refs,r.size≠0->MayP I r:=by
 have A:∀ r∈jaw 16,r.size≠0->MayP I r:=fun r H e=>by rw[fD H]at e;exact absurd rfl e
 cases h with
 | none=>exact A
 | leaf p v h1 h2 h3=>exact A
 | ext p r h1 h2 h3 =>
  intro x q e;rcases bZ.1 q with rfl | q
  ·exact h3.imp id fun ⟨m,h,_⟩=>⟨m,h⟩
  ·rw[fD q]at e;exact absurd rfl e
 | branch v rs h1 h2 h3 h4=>exact h3
theorem jhz(d:Nat)(n:jae)(h:jaW (InlD d) n)(ih:∀ r m,InlD d r m->∀ w,vQ 109 #[m.V] w (jr4 w m))(w:vW):vQ 109 #[n.V] w (jr4 w n):=by
 have hr:=(h.one (inlP d)).refs
 obtain⟨i0,hi,e4,e5,e6⟩:=info_parts Tryz.infoStr
 have HV:=Hd (fun w=>jjM (inlP d) w n h);have HM:=Hd (jtc h);have e7:=Hd ih;have HQ:=Hd (show ∀ (v:vV) W',jr4 w n (.returned v) W'↔(SRow w W' v (jaP n).length (jaP n)/\(jaP n=[]->v=.slice none 0 0))from fun v W'=>⟨fun ⟨_,e,h⟩=>by cases e;exact h,fun h=>⟨v,rfl,h⟩⟩);have b0:=jap (w.alloc (.cells n.cells.toArray 206)) _ n hr (Blk.new w _);clear h ih;unfold jae.V at b0 ⊢;refine (callsIn_wide (n:=0)).1 ?_;refine callsIn_of_wp_marks Tryz.func109 rfl trivial ?_ rfl;simp only[Tryz.ntmps109,cT,bU,dA,Nat.reduceAdd,Nat.reduceSub,cV,cU,dE,cZ,cN,cY];gi_wp2_with (refine jaI rfl 206 (.tmp 1) rfl _ _ rfl b0 ?_)
 refine⟨trivial,rfl,CallsIn.mono (callsIn_wide.2 (HV.o _)) ?_⟩
 rintro e w1 ⟨rfl,O⟩;have b1:=(Blk.new w (.cells n.cells.toArray 206)).keeps O (fun h=>h);have b2:=Hd (((ExtR w).alloc _).trans O)
 obtain⟨W2,a3⟩:=vE (w1.alloc (.cells #[.slice none 0 0] 34))
 have c2:=Hd a3;have c3:Blk W2 w.heap.size (.cells n.cells.toArray 206):=by rw[a3];exact b1.alloc _
 have A:=Hd (show Blk W2 w1.heap.size (.cells #[.slice none 0 0] 34) by rw[a3];exact Blk.new w1 _);have c4:=Hd (show Ext w W2 by rw[a3];exact b2.o.alloc _);have a1:=jap W2 _ n hr c3;have e8:=b1.lt;rw[a3]at a1;clear b0 O b1 a3 c3;unfold jae.V at a1;gi_wp2_with (refine jaI rfl 206 (.tmp 1) rfl _ _ rfl a1 ?_)
 rw[<-c2.o]
 refine⟨trivial,rfl,CallsIn.mono (callsIn_wide.2 (jkU W2 n)) ?_⟩
 rintro e w3 ⟨rfl,a7,O⟩;have a4:=A.o.lt
 obtain⟨gi,c5⟩:∃ g,g=W2.heap.size:=⟨_,rfl⟩
 obtain⟨X,a2⟩:∃ g,g=w1.heap.size:=⟨_,rfl⟩
 rw[<-a2]at A a4 e8;rw[<-c5]at a7 a4 ⊢;rw[<-a2];have S0:HsS w X gi w3.heap.size n 0 w3:=⟨c4.o.trans O,a7,_,A.o.keeps O (fun h=>h),fE _ _ _ _,(fun b hb=>by cases hb),(fun _=>rfl)⟩;have g0:=a7.lt;have e9:=b2.o.size;have f0:=Hd S0;have a8:=Hd (show w.heap.size<=X by omega);clear a1 a7 O b2 c2 A c4 S0 e9 c5 a2;gi_wp2_with fail
 refine' jdm (N:=n.refsL.length) (gf:=205) (lb:=#[.pointer (some ⟨gi,0,none⟩)]) rfl (vX 205) (jhP gi n hr)
  (fun k=>rfl) (HsS w X gi w3.heap.size n) (fun _ _ _=>False) (fun k W W' h e=>h.st e) (fun _ _ _ _ h _=>h) (fun k W h=>h.it)
  (fun k W o h=>h.put (by have:=a8.o;omega) vO vO vO _) (fun _ _ _ _ h=>h)
  f0.o _
  ?hassign ?hbody ?hdone ?hstop
 case hassign =>
  intro l j W K _ hK;rw[jry,jkm];simp only[dG,dB];gi_wp2;exact hK
 case hbody =>
  intro l k W hk hS g2;have b3:=jrs n hr hk;have a5:=HM.o _ (bG b3.2.1) b3.2.2;have b4:=jn9 n hk;have f1:=jql n k;rw[hr]at f1
  obtain⟨r,c7⟩:=vE (n.rr k)
  rw[<-c7]at a5 b4 ⊢;have HS:=Hd hS;have c8:=Hd b4;have c9:=a8.o;have b5:=Hd c9;clear hS b3 b4 c7 c9;rcases a5 with hh |⟨m,hm⟩
  ·obtain⟨hs,x,q,J,Z⟩:=hh.known
   have HX:=Hd (show jb1 n (k+1)=jb1 n k++[x] by
    rw[c8.o];unfold jcM;rw[J];show _++(jfA r q).toList=_;rw[Z];rfl)
   have H3:=Hd J;have H4:=Hd Z;clear J Z hh;gi_wp2_with fail
   refine⟨trivial,rfl,CallsIn.mono (CallsIn.inRound l (callsIn_wide.2 (jfB W r q hs H3.o))) ?_⟩
   rintro e w5 ⟨rfl,O⟩;rw[H4.o];have S5:=HS.o.st O
   obtain⟨v,H,h2,J,Z⟩:=S5.row
   obtain⟨ad,cp,rfl⟩:=jaD h2
   have q4:w5.cell? ⟨X,0,none⟩=some (.slice ad (jb1 n k).length cp):=H.cell (i:=0) vF;have f4:w5.frozen? ⟨X,0,none⟩=false:=H.frozen;have g4:=O.size;have d0:=Hd S5;have a9:=Hd O;have b6:=Hd H;have b7:=Hd h2;have A:=Hd J;clear S5 H h2 J Z O;unfold optV;gi_wp2_with (gi_at_builtin;refine jbK _ rfl (.tmp 23) (.tmp 25) 34 rfl 9 i0 _ 1 16 Tryz.uStrs hi e4 e5 e6 rfl vI (.slice ad (jb1 n k).length cp) (jb1 n k).length _ rfl (jaZ b7.o ((ExtR w5).alloc _)) ⟨w5.heap.size,0,none⟩ 1 1 [.string x] rfl rfl (jaN (Blk.new w5 _)) (by simp[Value.oneCell']) (by unfold maxLen;omega) vO ?_)
   intro v' w6 r1 r2 r3;have K6:jac (fun b=>(Value.slice ad (jb1 n k).length cp).ownBlock=some b) w5 w6:=((jac.refl _ w5).alloc _).trans r2;have hl:(jb1 n (k+1)).length=(jb1 n k).length+1:=by rw[HX.o];simp
   have r1:w6.ownsRow 0 9 1 v' (jb1 n (k+1)).length ((jb1 n (k+1)).map Value.string):=by
    rw[hl,HX.o,bY];exact r1
   have nb:∀ b,b < w3.heap.size+2->¬(Value.slice ad (jb1 n k).length cp).ownBlock=some b:=fun b hb e=>by have:=A.o b e;omega
   obtain⟨d1,d2,rfl⟩:=jaD r1
   have d3:∀ b,(Value.slice d1 (jb1 n (k+1)).length d2).ownBlock=some b->w3.heap.size+2<=b:=fun b hb=>by
    rcases r3 with r3 | r3
    ·exact A.o b (r3 ▸ hb)
    ·have:=r3 b hb;first | omega |(simp at this;omega)
   have B4:=b6.o.keeps K6 (nb _ vO);have g5:w6.cell? ⟨X,0,none⟩=some (.slice ad (jb1 n k).length cp):=B4.cell (i:=0) vF;have g6:w6.frozen? ⟨X,0,none⟩=false:=B4.frozen;have b8:=Hd K6;have b9:=Hd B4;have R1:=Hd r1;have d4:=Hd d3;have NB:=Hd nb;clear K6 r1 r2 r3 d3 B4 nb q4 f4 hl;gi_wp2;have k7:jac (fun b=>b=X) w6 (w6.setCell ⟨X,0,none⟩ (.slice d1 (jb1 n (k+1)).length d2)):=jac.oneSet w6 ⟨X,0,none⟩ _
   refine⟨((a9.o.mono (fun _ _ h=>h.elim)).trans (b8.o.mono (fun x _ e=>?_))).trans' k7 (fun x _ e=>?_),?_⟩
   ·have:=A.o x e;show x≠_/\x≠_;omega
   ·have e:x=_:=e;show x≠_/\x≠_;omega
   ·refine⟨(d0.o.ext.trans' b8.o (fun x hx e=>by have:=A.o x e;have:=b5.o;omega)).trans' k7 (fun x hx e=>by have e:x=_:=e;have:=b5.o;omega),
     (d0.o.it.keeps b8.o (NB.o _ vO)).keeps k7 (fun e=>by omega),
     _,b9.o.set_same (i:=0) _,jaL R1.o k7 (fun b hb e=>by have:=d4.o b hb;omega),d4.o,fun h0=>?_⟩
    rw[HX.o]at h0;simp at h0
  ·have hs:=(inlP d).small r m hm
   obtain⟨q,J,Z⟩:=(inlP d).nohash r m hm
   have HX:=Hd (show jb1 n (k+1)=jb1 n k by
    rw[c8.o,jes (inlP d) hm];simp)
   have HC:=Hd ((inlP d).inl r m hm);have c0:=Hd ((inlP d).refs r m hm);have H3:=Hd J;have H4:=Hd Z;have f2:=Hd (show ∀ W,vQ 109 #[m.V] W fun e W'=>e=.returned (.slice none 0 0)/\Ext W W' from fun W=>by
    have f3:jaP m=[]:=by
     cases d with
     | zero=>exact hm.elim
     | succ d=>exact jk1 hm.1 (by rw[<-hm.2.1];exact hm.2.2.1)
    refine (e7.o r m hm W).mono ?_;rintro e W' ⟨v,rfl,H,h2⟩;rw[h2 f3];exact⟨rfl,H.ext⟩)
   clear J Z hm;gi_wp2_with fail
   refine⟨trivial,rfl,CallsIn.mono (CallsIn.inRound l (callsIn_wide.2 (jfB W r q vO H3.o))) ?_⟩
   rintro e w5 ⟨rfl,O⟩;rw[H4.o];have a9:=Hd O;clear O;unfold optV;gi_wp2_with fail
   refine⟨trivial,rfl,CallsIn.mono (CallsIn.inRound l (callsIn_wide.2 (HC.o w5))) ?_⟩
   rintro e w6 ⟨rfl,O⟩;have d5:=Hd (a9.o.trans O);clear O a9;unfold jae.V;gi_wp2_with (refine jgH Tryz.allocNode rfl rfl ?_;intro W7 d6 d7;refine jd6 (vs:=m.cells) rfl rfl rfl rfl d6 (by rw[m.cells_len c0.o];rfl) (by rw[m.cells_len c0.o];exact Tryz.szNode) m.one ?_;intro W8 d8 d9)
   have c1:Ext w6 W8:=d7.trans' d9 (fun x hx e=>by have e:x=w6.heap.size:=e;omega);have S8:=HS.o.st (d5.o.trans c1)
   obtain⟨v,H,h2,J,Z⟩:=S8.row
   obtain⟨ad,cp,rfl⟩:=jaD h2
   have e0:=jyk h2;have f5:=Hd S8;have f6:=Hd d8;have H1:=Hd H;have f7:=Hd c1;have f8:=Hd e0;clear d6 d7 d9 d8 c1 S8 H h2 J Z e0;gi_wp2_with fail
   refine jgA [0,1,2,3,4] [4] Ext ExtR ExtT vY vY vY vY ?_;refine qL ⟨X,0,none⟩ _ rfl (fun w1 H=>jab Tryz.uStrs rfl (jaa (by exact H1.o.cell (i:=0) (v:=.slice ad (jb1 n k).length cp) vF) ((jak _).trans H))) ?_;refine vS ?_;refine qL ⟨w6.heap.size,0,none⟩ _ rfl (fun w1 H=>jap w1 _ m c0.o (f6.o.keeps ((jak _).trans H) (fun h=>h))) ?_;refine vS ?_;refine jcC _ 109 #[m.V] (.slice none 0 0) rfl vY rfl (fun w1=>jal (vX 109) vY) (fun w1 H=>f2.o w1) ?_;refine vS ?_;refine qA _ (.slice ad (jb1 n k).length cp) rfl (fun w1=>jde (jbZ Tryz.uStrs hi ad (jb1 n k).length cp f8.o 0 w1) vY) ?_;refine vS ?_;refine qH _ rfl (fun w1 he K hK=>?_);have S9:=f5.o.st ((jak _).trans he);have e1:Ext W w1:=(d5.o.trans f7.o).trans ((jak _).trans he)
   obtain⟨v,H,h2,J,Z⟩:=S9.row
   have a0:w1.cell? ⟨X,0,none⟩=some (.slice ad (jb1 n k).length cp):=jaa (H1.o.cell (i:=0) (v:=.slice ad (jb1 n k).length cp) vF) ((jak _).trans he);have e2:v=.slice ad (jb1 n k).length cp:=by
    have:=H.cell (i:=0) (v:=v) vF
    rw[a0]at this;exact (bP this).symm
   rw[e2]at H h2 J Z;have q4:=a0;have f4:w1.frozen? ⟨X,0,none⟩=false:=H.frozen;have e3:=Hd S9;have b6:=Hd H;have b7:=Hd h2;have A:=Hd J;have b9:=Hd Z;have f9:=Hd e1;clear S9 a0 e2 H h2 J Z he e1;go_simp;refine hK _ _ ?_;clear hK K q4 f4;refine qE (fun w2 he=>?_);have k7:jac (fun b=>b=X) w1 (w1.setCell ⟨X,0,none⟩ (.slice ad (jb1 n k).length cp)):=jac.oneSet w1 ⟨X,0,none⟩ _;have k8:jac (fun b=>b=X) w1 w2:=k7.trans (he.mono (fun _ _ h=>h.elim))
   refine⟨(f9.o.mono (fun _ _ h=>h.elim)).trans' k8 (fun x _ e=>?_),?_⟩
   ·have e:x=_:=e;show x≠_/\x≠_;omega
   ·refine⟨e3.o.ext.trans' k8 (fun x hx e=>by have e:x=_:=e;have:=b5.o;omega),e3.o.it.keeps k8 (fun e=>by omega),.slice ad (jb1 n k).length cp,(b6.o.set_same (i:=0) _).keeps he (fun h=>h),?_⟩
    rw[HX.o]
    exact⟨jaL b7.o k8 (fun b hb e=>by have:=A.o b hb;omega),A.o,b9.o⟩
 case hdone =>
  intro W hS hd
  obtain⟨v,H,h2,J,Z⟩:=hS.row
  rw[jqk]at h2 Z
  obtain⟨ad,cp,rfl⟩:=jaD h2
  have q4:W.cell? ⟨X,0,none⟩=some (.slice ad (jaP n).length cp):=H.cell (i:=0) vF;have HS:=Hd hS;have HR:=Hd (show ORow 9 1 w W (.slice ad (jaP n).length cp) (jaP n).length ((jaP n).map Value.string)from⟨⟨_,_,rfl⟩,h2,hS.ext,fun b hb=>by have:=J b hb;have:=a8.o;omega⟩);have H3:=Hd J;have H4:=Hd Z;have HD:=Hd hd;clear hS H h2 J Z hd;gi_wp2
  refine⟨by simp,.inl ⟨_,_,rfl,run_takeDeferred HD.o,?_⟩⟩
  refine⟨.slice ad (jaP n).length cp,by simp[results,Tryz.results109,go_sem],(HQ.o _ _).2 ⟨HR.o.keeps (jac.onePut W w3.heap.size (.deferred none)) (fun b hb e=>by have:=H3.o b hb;omega) (fun b hb e=>by have:=a8.o;omega),H4.o⟩⟩
 case hstop=>intro c k W _ _ h;exact h.elim
theorem jmF:∀ (d:Nat) (n:jae),jaW (InlD d) n->∀ w,vQ 109 #[n.V] w (jr4 w n)
 | 0,n,h,w=>jhz 0 n h (fun _ _ e=>e.elim) w
 | d+1,n,h,w=>jhz (d+1) n h (fun r m e w=>jmF d m e.1 w) w
end
section
open Classical in
noncomputable def nodeOf(t:vB):jae:=if h:∃ n,jbd t n then h.choose else jas
theorem jcc(h:jbd t n):jbd t (nodeOf t):=by
 unfold nodeOf;have e:∃ n,jbd t n:=⟨n,h⟩;rw[dif_pos e];exact e.choose_spec
theorem jhx(h:jbd t n):(jaP n).length<=16:=by
 obtain⟨_,g,e⟩:=h
 have:=(e.one (inlP g)).refs
 unfold jaP;have q:=List.length_filterMap_le jcM n.refs;omega
theorem joj(h:L.Nodup)(ht:L[i]?=some t):t ∉ L.take i:=fun q=>by
 obtain⟨k,H,e⟩:=List.mem_take_iff_getElem.1 q
 obtain⟨hi,A⟩:=bH.1 ht
 exact gD.1 h k i vO hi vO (e.trans A.symm)
theorem jlU{P:Program}{t T:TypeId}(I:jcw P t T sz by'){ops:Array Oper}{rest:List Oper}{d:Option Tmp}{ty:TypeId}{pos:String}{af:Array Edge}{a:Act}{Q:Exit->Act->vW->Prop}{n c c2:Nat}
  (hs:a.eval s=.slice base n c) (hx:a.eval x=.slice none 0 c2) (hle:n<=c) (h:wpList P ops Q rest (a.put d (.slice base n c)) w) :
  wpList P ops Q (⟨d,.call { callee:=.builtin .append,args:=#[s,x],argTypes:=#[t,t] },ty,pos,af,none⟩ :: rest) a w:=by
 obtain⟨i,z,e,_⟩:=I.hi
 exact wpList_plain rfl fun K q=>jbk (jde (jbZ I.ht e base n c hle c2 w) (by simp[hs,hx])) (q _ _ h)
end
