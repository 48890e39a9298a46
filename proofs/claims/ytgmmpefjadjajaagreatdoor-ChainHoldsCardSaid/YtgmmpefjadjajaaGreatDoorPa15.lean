/- Lemmas. -/
import Derived.Test.YtgmmpefjadjajaaGreatDoorPa0
import Derived.Test.YtgmmpefjadjajaaGreatDoorPa14
namespace Go.Proofs.YtgmmpefjadjajaaGreatDoor
open Go.Proofs.Tryz
set_option linter.unusedSimpArgs false
set_option linter.unusedVariables false
set_option maxRecDepth 100000
set_option maxHeartbeats 16000000
open Go Go.RowKit
variable {k r B sz g3 gi m i by' d:Nat}{x s:Operand}{ad base:Option Addr}{n:Ai}{t:vB}{l L:vM}{w W W':vW}
section
attribute [local go_sem] Oper.semAt_some
theorem TA:∀ (l:vM) (i:Nat),((Gy i l).filterMap λx=>Lf x.2)=l.filterMap Lf
 |[],_=>rfl
 |x::l,i=>by
  unfold Gy
  by_cases h:x.size=0
  ·rw[if_pos h,TA l,fX,Ov h,GH]
  ·rw[if_neg h,fX,fX,TA l]
def Kc(n:Ai)(k:Nat):vM:=(n.z8.take k).filterMap λx=>Lf x.2
theorem q3(n:Ai):Kc n n.z8.length=Gc n:=by
 unfold Kc;rw[cF];exact TA _ _
theorem j1(n:Ai)(hk:k<n.z8.length):Kc n (k+1)=Kc n k++(Lf (n.rr k)).toList:=by
 unfold Kc;rw[cP hk,List.filterMap_append]
 congr 1
 have:n.rr k=(n.z8[k]).2:=by simp[Ai.rr,bL,hk]
 rw[this,fX];cases Lf (n.z8[k]).2<;>rfl
theorem q5(n:Ai)(k:Nat):(Kc n k).length<=n.refs.length:=by
 have q:∀ (l:vM) (i:Nat),(Gy i l).length<=l.length:=by intro l;induction l with| nil=>intro i;simp[Gy]| cons x r ih=>intro i;unfold Gy;split<;>simp<;>have:=ih (i+1)<;>omega
 have A:=q n.refs 0;unfold Kc;have e:=List.length_filterMap_le (λx:Nat × vB=>Lf x.2) (n.z8.take k);rw[cR]at e
 have:n.z8=Gy 0 n.refs:=rfl
 rw[this]at e ⊢;omega
theorem nQ{x:vB}(h:x∈l):x.size<=(Fo l).size:=bH (OL l x h) (ON l)
theorem nN{r:vB}(h:Gj (Bx d) r)(hs:r.size<32):Lf r=none:=by
 rcases h with h|⟨m,h⟩
 ·have:=h.size;omega
 ·exact ED (Bm d) h
theorem Y_(h:Gn (Bx d) n)(hs:(Cu n).size<32):Gc n=[]:=by
 unfold Gc;cases h with
 |none=>exact GJ 16
 |leaf p v h1 h2 h3=>exact GJ 16
 |ext p r h1 h2 h3 =>(show (r::Dd 15).filterMap Lf=[];have q:r.size<32:=by have e:Cu ⟨2,p,⟨#[]⟩,r::Dd 15⟩=Fo [Av (Cl p false),r]:=rfl;have:=nQ (x:=r) (l:=[Av (Cl p false),r]) (by simp);rw[e]at hs;omega);rw[fX,GJ,nN (h3.imp id λ⟨m,h,_⟩=>⟨m,h⟩) q]
 |branch v rs h1 h2 h3 h4 =>show rs.filterMap Lf=[];rw[iU];intro r q;by_cases h0:r.size=0;{rw[Ov h0,GH]};(have e:Cu ⟨3,⟨#[]⟩,v,rs⟩=Fo (Pd rs v):=by show Fo (Nt _)=_;rw[ND _ h1]);(have A:r∈Pd rs v:=by unfold Pd;refine bR.2 (.inl (bC.2 ⟨r,q,?_⟩));rw[if_neg h0]);have:=nQ A;rw[e]at hs;exact nN (h3 r q h0) vO
theorem uT{T:TypeId}{n cp:Nat}{xs:List vV}(h:w.ownsRow B T sz (.slice ad n cp) n xs):n<=cp:=by
 obtain⟨_,⟨e,q⟩|⟨g,A,H,e,q,K,O,_⟩⟩:=h
 ·omega
 ·obtain⟨_,_,X⟩:=dF e;omega
structure CM(w:World)(g3 gi m:Nat)(n:Ai)(k:Nat)(W:World):Prop where
 ext:Af w W
 it:Ae W gi (.cells n.cells.toArray 301)
 row:∃ v,Ae W g3 (.cells #[v] 51)/\W.ownsRow 0 9 1 v (Kc n k).length ((Kc n k).map Value.string)/\(∀ b,v.ownBlock=some b->m+2<=b)/\(Kc n k=[]->v=.slice none 0 0)
theorem CM.st(h:CM w g3 gi m n k W)(e:Af W W'):CM w g3 gi m n k W':=
 let ⟨v,h1,h2,h3,h4⟩:=h.row
 ⟨h.ext.trans e,h.it.Z e kI,v,h1.Z e kI,Kh h2 e,h3,h4⟩
theorem CM.put(h:CM w g3 gi m n k W)(hr:(w:Nat)<=r)(h1:g3<r)(h1':gi<r)(h2:r<m+2)(o:Obj):CM w g3 gi m n k (W.putObj r o):=
 let ⟨v,h3,h4,h5,h6⟩:=h.row
 ⟨h.ext.putObj (.inr hr) _,h.it.z5 vO _,v,h3.z5 vO _,Lb h4 (Ad.z7 W r o) λb hb e=>kL (h5 b hb),h5,h6⟩
def QN(w:vW)(n:Ai)(e:Ending)(w':vW):Prop:=∃ v,e=.returned v/\Cg w w' v (Gc n).length (Gc n)/\(Gc n=[]->v=.slice none 0 0)
theorem G7{I:vB->Ai->Prop}(h:Gn I n):∀ r∈n.refs,r.size≠0->Gj I r:=by
 have A:∀ r∈Dd 16,r.size≠0->Gj I r:=λr H e=>by rw[fG H]at e;exact absurd rfl e
 cases h with
 |none=>exact A
 |leaf p v h1 h2 h3=>exact A
 |ext p r h1 h2 h3 =>(intro x q e;rcases bU.1 q with rfl|q;{exact h3.imp id λ⟨m,h,_⟩=>⟨m,h⟩};rw[fG q]at e;exact absurd rfl e)
 |branch v rs h1 h2 h3 h4=>exact h3
theorem ZV(d:Nat)(n:Ai)(h:Gn (Bx d) n)(ih:∀ r m,Bx d r m->∀ w,vQ 115 #[m.V] w (QN w m))(w:vW):vQ 115 #[n.V] w (QN w n):=by
 have hr:=(h.one (Bm d)).refs
 obtain⟨i0,hi,e4,e5,e6⟩:=info_parts Bn
 have HV:=J (λw=>VR (Bm d) w n h);have HM:=J (G7 h);have e7:=J ih;have HQ:=J (show ∀ (v:vV) W',QN w n (.returned v) W'↔(Cg w W' v (Gc n).length (Gc n)/\(Gc n=[]->v=.slice none 0 0))from λv W'=>⟨λ⟨_,e,h⟩=>by cases e;exact h,λh=>⟨v,rfl,h⟩⟩);have b0:=Ka (w.alloc (.cells n.cells.toArray 215)) _ n hr (Ae.new w _);clear h ih;unfold Ai.V at b0 ⊢;refine (callsIn_wide (n:=0)).1 ?_;refine callsIn_of_wp_marks func115 rfl trivial ?_ rfl;simp only[ntmps115,cQ,bQ,cZ,Nat.reduceAdd,Nat.reduceSub,cV,cU,dC,cY,cL,cS];gi_wp2_with (refine BC rfl 215 (.tmp 1) rfl _ _ rfl b0 ?_)
 refine⟨trivial,rfl,CallsIn.mono (callsIn_wide.2 (HV.o _)) ?_⟩
 rintro e w1 ⟨rfl,X⟩;have b1:=(Ae.new w (.cells n.cells.toArray 215)).Z X kI;have b2:=J (((Aa w).alloc _).trans X)
 obtain⟨W2,a3⟩:=vE (w1.alloc (.cells #[qe] 51))
 have c2:=J a3;have c3:Ae W2 w (.cells n.cells.toArray 215):=by rw[a3];exact b1.alloc _
 have A:=J (show Ae W2 w1 (.cells #[qe] 51) by rw[a3];exact Ae.new w1 _);have c4:=J (show Af w W2 by rw[a3];exact b2.o.alloc _);have a1:=Ka W2 _ n hr c3;have e8:=b1.lt;rw[a3]at a1;clear b0 X b1 a3 c3;unfold Ai.V at a1;gi_wp2_with (refine BC rfl 215 (.tmp 1) rfl _ _ rfl a1 ?_)
 rw[<-c2.o]
 refine⟨trivial,rfl,CallsIn.mono (callsIn_wide.2 (PW W2 n)) ?_⟩
 rintro e w3 ⟨rfl,a7,X⟩;have a4:=A.o.lt
 obtain⟨gi,c5⟩:∃ g,g=(W2:Nat):=⟨_,rfl⟩
 obtain⟨Z,a2⟩:∃ g,g=(w1:Nat):=⟨_,rfl⟩
 rw[<-a2]at A a4 e8;rw[<-c5]at a7 a4 ⊢;rw[<-a2];have S0:CM w Z gi w3 n 0 w3:=⟨c4.o.trans X,a7,_,A.o.Z X kI,fK _ _ _ _,(λb hb=>by cases hb),(λ_=>rfl)⟩;have g0:=a7.lt;have e9:=b2.o.size;have f0:=J S0;have a8:=J (show (w:Nat)<=Z by omega);clear a1 a7 X b2 c2 A c4 S0 e9 c5 a2;gi_wp2_with fail
 refine' EL (N:=n.z8.length) (gf:=210) (lb:=#[gi]) rfl (vX 210) (OU gi n hr) (λk=>rfl) (CM w Z gi w3 n) (λ_ _ _=>False) (λk W W' h e=>h.st e) (λ_ _ _ _ h _=>h) (λk W h=>h.it) (λk W o h=>h.put (kL a8.o) vO vO vO _) (λ_ _ _ _ h=>h) f0.o _ ?hassign ?hbody ?hdone ?hstop
 case hassign =>intro l j W K _ hK;rw[QZ,FG];simp only[dM,dG];gi_wp2;exact hK
 case hbody =>intro l k W hk hS g2;have b3:=RC n hr hk;have a5:=HM.o _ (bD b3.2.1) b3.2.2;have b4:=j1 n hk;have f1:=q5 n k;rw[hr]at f1;obtain⟨r,c7⟩:=vE (n.rr k);rw[<-c7]at a5 b4 ⊢;have HS:=J hS;have c8:=J b4;have c9:=a8.o;have b5:=J c9;clear hS b3 b4 c7 c9;rcases a5 with hh|⟨m,hm⟩;{obtain⟨hs,x,q,O,h4⟩:=hh.known;have HX:=J (show Kc n (k+1)=Kc n k++[x] by rw[c8.o];unfold Lf;rw[O];show _++(Vx r q).toList=_;rw[h4];rfl);(have H3:=J O;have H4:=J h4;clear O h4 hh;gi_wp2_with fail);refine⟨trivial,rfl,CallsIn.mono (CallsIn.inRound l (callsIn_wide.2 (Xc W r q hs H3.o))) ?_⟩;rintro e w5 ⟨rfl,X⟩;rw[H4.o];have S5:=HS.o.st X;obtain⟨v,H,h2,O,h4⟩:=S5.row;obtain⟨ad,cp,rfl⟩:=Ir h2;(have q4:w5.cell? Z=some (.slice ad (Kc n k).length cp):=H.cell (i:=0) vF;have f4:w5.frozen? Z=false:=H.frozen;have g4:=X.size;have d0:=J S5;have a9:=J X;have b6:=J H;have b7:=J h2;have A:=J O;clear S5 H h2 O h4 X;unfold Cw;gi_wp2_with (gi_at_builtin;refine JN _ rfl (.tmp 23) (.tmp 25) 51 rfl 9 i0 _ 1 16 Bg hi e4 e5 e6 rfl vI (.slice ad (Kc n k).length cp) (Kc n k).length _ rfl (Kh b7.o ((Aa w5).alloc _)) w5 1 1 [x] rfl rfl (Jx (Ae.new w5 _)) zc zi vO ?_));(intro v' w6 r1 r2 r3;have K6:Ad (λb=>(Value.slice ad (Kc n k).length cp).ownBlock=some b) w5 w6:=((Ad.refl _ w5).alloc _).trans r2;have hl:(Kc n (k+1)).length=(Kc n k).length+1:=by rw[HX.o];simp);(have r1:w6.ownsRow 0 9 1 v' (Kc n (k+1)).length ((Kc n (k+1)).map Value.string):=by rw[hl,HX.o,bW];exact r1);have nb:∀ b,b<(w3:Nat)+2->¬(Value.slice ad (Kc n k).length cp).ownBlock=some b:=λb hb e=>kL (A.o b e);obtain⟨d1,d2,rfl⟩:=Ir r1;(have d3:∀ b,(Value.slice d1 (Kc n (k+1)).length d2).ownBlock=some b->(w3:Nat)+2<=b:=λb hb=>by rcases r3 with r3|r3;{exact A.o b (r3 ▸ hb)};have:=r3 b hb;first|omega|(simp at this;omega));have B4:=b6.o.Z K6 (nb _ vO);have g5:w6.cell? Z=some (.slice ad (Kc n k).length cp):=B4.cell (i:=0) vF;have g6:w6.frozen? Z=false:=B4.frozen;have b8:=J K6;have b9:=J B4;have R1:=J r1;have d4:=J d3;have NB:=J nb;clear K6 r1 r2 r3 d3 B4 nb q4 f4 hl;gi_wp2;have k7:Ad (λb=>b=Z) w6 (w6.setCell Z (.slice d1 (Kc n (k+1)).length d2)):=Ad.z4 w6 Z _;refine⟨((a9.o.mono kZ).trans (b8.o.mono λx _ e=>?_)).O k7 λx _ e=>?_,?_⟩;{have:=A.o x e;show x≠_/\x≠_;omega};{have e:x=_:=e;show x≠_/\x≠_;omega};refine⟨(d0.o.ext.O b8.o λx hx e=>by have:=A.o x e;have:=b5.o;omega).O k7 λx hx e=>by have e:x=_:=e;have:=b5.o;omega,(d0.o.it.Z b8.o (NB.o _ vO)).Z k7 λe=>by omega,_,b9.o.z2 (i:=0) _,Lb R1.o k7 λb hb e=>kL (d4.o b hb),d4.o,λh0=>?_⟩;rw[HX.o]at h0;simp at h0};have hs:=(Bm d).small r m hm;obtain⟨q,O,h4⟩:=(Bm d).nohash r m hm;have HX:=J (show Kc n (k+1)=Kc n k by rw[c8.o,ED (Bm d) hm];simp);have HC:=J ((Bm d).inl r m hm);have c0:=J ((Bm d).refs r m hm);have H3:=J O;have H4:=J h4;have f2:=J (show ∀ W,vQ 115 #[m.V] W λe W'=>e=.returned qe/\Af W W' from λW=>by(have f3:Gc m=[]:=by cases d with| zero=>exact hm.elim| succ d=>exact Y_ hm.1 (by rw[<-hm.2.1];exact hm.2.2.1));refine (e7.o r m hm W).mono ?_;rintro e W' ⟨v,rfl,H,h2⟩;rw[h2 f3];exact⟨rfl,H.ext⟩);(clear O h4 hm;gi_wp2_with fail);refine⟨trivial,rfl,CallsIn.mono (CallsIn.inRound l (callsIn_wide.2 (Xc W r q vO H3.o))) ?_⟩;(rintro e w5 ⟨rfl,X⟩;rw[H4.o];have a9:=J X;clear X;unfold Cw;gi_wp2_with fail);refine⟨trivial,rfl,CallsIn.mono (CallsIn.inRound l (callsIn_wide.2 (HC.o w5))) ?_⟩;(rintro e w6 ⟨rfl,X⟩;have d5:=J (a9.o.trans X);clear X a9;unfold Ai.V;gi_wp2_with (refine ZN Ac rfl rfl ?_;intro W7 d6 d7;refine SB (vs:=m.cells) rfl rfl rfl rfl d6 (by rw[m.z3 c0.o];rfl) (by rw[m.z3 c0.o];exact Ab) m.one ?_;intro W8 d8 d9));have c1:Af w6 W8:=d7.O d9 kJ;have S8:=HS.o.st (d5.o.trans c1);obtain⟨v,H,h2,O,h4⟩:=S8.row;obtain⟨ad,cp,rfl⟩:=Ir h2;(have e0:=uT h2;have f5:=J S8;have f6:=J d8;have H1:=J H;have f7:=J c1;have f8:=J e0;clear d6 d7 d9 d8 c1 S8 H h2 O h4 e0;gi_wp2_with fail);refine g_ [0,1,2,3,4] [4] Af Aa Ap vY vY vY vY ?_;refine qL Z _ rfl (λw1 H=>Bv Bg rfl (Am (by exact H1.o.cell (i:=0) (v:=.slice ad (Kc n k).length cp) vF) ((Ao _).trans H))) (vS ?_);refine qL w6 _ rfl (λw1 H=>Ka w1 _ m c0.o (f6.o.Z ((Ao _).trans H) kI)) (vS ?_);refine AC _ 115 #[m.V] qe rfl vY rfl (λw1=>Fb (vX 115) vY) (λw1 H=>f2.o w1) (vS ?_);refine qA _ (.slice ad (Kc n k).length cp) rfl (λw1=>JQ (JP Bg hi ad (Kc n k).length cp f8.o 0 w1) vY) (vS ?_);refine qH _ rfl (λw1 he K hK=>?_);have S9:=f5.o.st ((Ao _).trans he);have e1:Af W w1:=(d5.o.trans f7.o).trans ((Ao _).trans he);obtain⟨v,H,h2,O,h4⟩:=S9.row;(have a0:w1.cell? Z=some (.slice ad (Kc n k).length cp):=Am (H1.o.cell (i:=0) (v:=.slice ad (Kc n k).length cp) vF) ((Ao _).trans he);have e2:v=.slice ad (Kc n k).length cp:=by have:=H.cell (i:=0) (v:=v) vF;rw[a0]at this;exact (bV this).symm);rw[e2]at H h2 O h4;have q4:=a0;have f4:w1.frozen? Z=false:=H.frozen;have e3:=J S9;have b6:=J H;have b7:=J h2;have A:=J O;have b9:=J h4;have f9:=J e1;clear S9 a0 e2 H h2 O h4 he e1;go_simp;refine hK _ _ ?_;clear hK K q4 f4;refine qE (λw2 he=>?_);have k7:Ad (λb=>b=Z) w1 (w1.setCell Z (.slice ad (Kc n k).length cp)):=Ad.z4 w1 Z _;have k8:Ad (λb=>b=Z) w1 w2:=k7.trans (he.mono kZ);refine⟨(f9.o.mono kZ).O k8 λx _ e=>?_,?_⟩;{have e:x=_:=e;show x≠_/\x≠_;omega};refine⟨e3.o.ext.O k8 λx hx e=>by have e:x=_:=e;have:=b5.o;omega,e3.o.it.Z k8 λe=>by omega,.slice ad (Kc n k).length cp,(b6.o.z2 (i:=0) _).Z he kI,?_⟩;rw[HX.o];exact⟨Lb b7.o k8 λb hb e=>kL (A.o b hb),A.o,b9.o⟩
 case hdone =>intro W hS hd;obtain⟨v,H,h2,O,h4⟩:=hS.row;rw[q3]at h2 h4;obtain⟨ad,cp,rfl⟩:=Ir h2;have q4:W.cell? Z=some (.slice ad (Gc n).length cp):=H.cell (i:=0) vF;have HR:=J (show Ar 9 1 w W (.slice ad (Gc n).length cp) (Gc n).length ((Gc n).map Value.string)from⟨⟨_,_,rfl⟩,h2,hS.ext,λb hb=>by have:=O b hb;have:=a8.o;omega⟩);have H3:=J O;have H4:=J h4;have HD:=J hd;clear hS H h2 O h4 hd;gi_wp2;refine⟨by simp,.inl ⟨_,_,rfl,run_takeDeferred HD.o,?_⟩⟩;refine⟨.slice ad (Gc n).length cp,by simp[results,results115,go_sem],(HQ.o _ _).2 ⟨HR.o.Z (Ad.z7 W w3 (.deferred none)) (λb hb e=>kL (H3.o b hb)) λb hb e=>kL a8.o,H4.o⟩⟩
 case hstop=>intro c k W _ _ h;exact h.elim
theorem mZ:∀ (d:Nat) (n:Ai),Gn (Bx d) n->∀ w,vQ 115 #[n.V] w (QN w n)
 |0,n,h,w=>ZV 0 n h (λ_ _ e=>e.elim) w
 |d+1,n,h,w=>ZV (d+1) n h (λr m e w=>mZ d m e.1 w) w
end
section
open Classical in
noncomputable def Bq(t:vB):Ai:=if h:∃ n,Hv t n then h.choose else Cv
theorem Vm(h:Hv t n):Hv t (Bq t):=by
 unfold Bq;have e:∃ n,Hv t n:=⟨n,h⟩;rw[dif_pos e];exact e.choose_spec
theorem c0(h:Hv t n):(Gc n).length<=16:=by
 obtain⟨_,g,e⟩:=h
 have:=(e.one (Bm g)).refs
 unfold Gc;have q:=List.length_filterMap_le Lf n.refs;omega
theorem j9(h:L.Nodup)(ht:L[i]?=some t):t ∉ L.take i:=λq=>by
 obtain⟨k,K,e⟩:=List.mem_take_iff_getElem.1 q
 obtain⟨A,H⟩:=bI.1 ht
 exact gD.1 h k i vO A vO (e.trans H.symm)
theorem b7{P:Program}{t T:TypeId}(I:Mn P t T sz by'){ops:Array Oper}{rest:List Oper}{d:Option Tmp}{ty:TypeId}{pos:String}{af:Array Edge}{a:Act}{Q:Exit->Act->vW->Prop}{n c c2:Nat}
  (hs:a.eval s=.slice base n c) (hx:a.eval x=.slice none 0 c2) (hle:n<=c) (h:wpList P ops Q rest (a.put d (.slice base n c)) w) :
  wpList P ops Q (⟨d,.call { callee:=.builtin .append,args:=#[s,x],argTypes:=#[t,t] },ty,pos,af,none⟩::rest) a w:=by
 obtain⟨i,z,e,_⟩:=I.hi
 exact wpList_plain rfl λK q=>Ro (JQ (JP I.ht e base n c hle c2 w) (by simp[hs,hx])) (q _ _ h)
end
