/- Lemmas; each is under no condition but those that it states. -/
import Derived.Test.YtgppadbgofalpaaGreatDoorPa0
import Derived.Test.YtgppadbgofalpaaGreatDoorPa14
namespace Go.Proofs.YtgppadbgofalpaaGreatDoor
set_option linter.unusedSimpArgs false
set_option linter.unusedVariables false
set_option maxRecDepth 100000
set_option maxHeartbeats 16000000
open Go Go.RowKit
variable {k r B sz g3 gi m i by' d:Nat}{x s:Operand}{ad base:Option Addr}{n:Ai}{t:vB}{l L:vM}{w W W':vW}
section
attribute [local go_sem] Oper.semAt_some
theorem SD:∀ (l:vM) (i:Nat),((Gt i l).filterMap fun x=>Kv x.2)=l.filterMap Kv
 | [],_=>rfl
 | x :: l,i=>by
  unfold Gt
  by_cases h:x.size=0
  ·rw[if_pos h,SD l,fQ,Og h,FI]
  ·rw[if_neg h,fQ,fQ,SD l]
def Js(n:Ai)(k:Nat):vM:=(n.refsL.take k).filterMap fun x=>Kv x.2
theorem jsv(n:Ai):Js n n.refsL.length=Gc n:=by
 unfold Js;rw[cD];exact SD _ _
theorem jqd(n:Ai)(hk:k < n.refsL.length):Js n (k+1)=Js n k++(Kv (n.rr k)).toList:=by
 unfold Js;rw[cP hk,List.filterMap_append]
 congr 1
 have:n.rr k=(n.refsL[k]).2:=by simp[Ai.rr,bJ,hk]
 rw[this,fQ];cases Kv (n.refsL[k]).2 <;> rfl
theorem jsw(n:Ai)(k:Nat):(Js n k).length<=n.refs.length:=by
 have q:∀ (l:vM) (i:Nat),(Gt i l).length<=l.length:=by intro l;induction l with| nil=>intro i;simp[Gt]| cons x r ih=>intro i;unfold Gt;split <;> simp <;> have:=ih (i+1) <;> omega
 have A:=q n.refs 0;unfold Js;have e:=List.length_filterMap_le (fun x:Nat × vB=>Kv x.2) (n.refsL.take k);rw[cV]at e
 have:n.refsL=Gt 0 n.refs:=rfl
 rw[this]at e ⊢;omega
theorem mU{x:vB}(h:x∈l):x.size<=(Fj l).size:=bF (NH l x h) (NT l)
theorem mS{r:vB}(h:Gf (Bs d) r)(hs:r.size < 32):Kv r=none:=by
 rcases h with h |⟨m,h⟩
 ·have:=h.size;omega
 ·exact DL (Br d) h
theorem q_(h:Gi (Bs d) n)(hs:(Cr n).size < 32):Gc n=[]:=by
 unfold Gc;cases h with
 | none=>exact FJ 16
 | leaf p v h1 h2 h3=>exact FJ 16
 | ext p r h1 h2 h3 =>(show (r :: Cv 15).filterMap Kv=[];have q:r.size < 32:=by have e:Cr ⟨2,p,⟨#[]⟩,r :: Cv 15⟩=Fj [Ay (Cs p false),r]:=rfl;have:=mU (x:=r) (l:=[Ay (Cs p false),r]) (by simp);rw[e]at hs;omega);rw[fQ,FJ,mS (h3.imp id fun ⟨m,h,_⟩=>⟨m,h⟩) q]
 | branch v rs h1 h2 h3 h4 =>show rs.filterMap Kv=[];rw[iQ];intro r q;by_cases h0:r.size=0;{rw[Og h0,FI]};(have e:Cr ⟨3,⟨#[]⟩,v,rs⟩=Fj (Oq rs v):=by show Fj (Po _)=_;rw[MF _ h1]);(have A:r∈Oq rs v:=by unfold Oq;refine bR.2 (.inl (bC.2 ⟨r,q,?_⟩));rw[if_neg h0]);have:=mU A;rw[e]at hs;exact mS (h3 r q h0) vO
theorem uR{T:TypeId}{n cp:Nat}{xs:List vV}(h:w.ownsRow B T sz (.slice ad n cp) n xs):n<=cp:=by
 obtain⟨_,⟨e,q⟩ |⟨g,A,H,e,q,J,K,_⟩⟩:=h
 ·omega
 ·obtain⟨_,_,O⟩:=dH e;omega
structure BR(w:World)(g3 gi m:Nat)(n:Ai)(k:Nat)(W:World):Prop where
 ext:Af w W
 it:Ae W gi (.cells n.cells.toArray 302)
 row:∃ v,Ae W g3 (.cells #[v] 52)/\W.ownsRow 0 9 1 v (Js n k).length ((Js n k).map Value.string)/\(∀ b,v.ownBlock=some b->m+2<=b)/\(Js n k=[]->v=.slice none 0 0)
theorem BR.st(h:BR w g3 gi m n k W)(e:Af W W'):BR w g3 gi m n k W':=
 let ⟨v,h1,h2,h3,h4⟩:=h.row
 ⟨h.ext.trans e,h.it.keeps e kI,v,h1.keeps e kI,Jy h2 e,h3,h4⟩
theorem BR.put(h:BR w g3 gi m n k W)(hr:w.heap.size<=r)(h1:g3 < r)(h1':gi < r)(h2:r < m+2)(o:Obj):BR w g3 gi m n k (W.putObj r o):=
 let ⟨v,h3,h4,h5,h6⟩:=h.row
 ⟨h.ext.putObj (.inr hr) _,h.it.put_other vO _,v,h3.put_other vO _,Kq h4 (Ad.onePut W r o) (fun b hb e=>kL (h5 b hb)),h5,h6⟩
def PI(w:vW)(n:Ai)(e:Ending)(w':vW):Prop:=∃ v,e=.returned v/\Cd w w' v (Gc n).length (Gc n)/\(Gc n=[]->v=.slice none 0 0)
theorem jvB{I:vB->Ai->Prop}(h:Gi I n):∀ r∈n.refs,r.size≠0->Gf I r:=by
 have A:∀ r∈Cv 16,r.size≠0->Gf I r:=fun r H e=>by rw[fP H]at e;exact absurd rfl e
 cases h with
 | none=>exact A
 | leaf p v h1 h2 h3=>exact A
 | ext p r h1 h2 h3 =>(intro x q e;rcases bT.1 q with rfl | q;{exact h3.imp id fun ⟨m,h,_⟩=>⟨m,h⟩};rw[fP q]at e;exact absurd rfl e)
 | branch v rs h1 h2 h3 h4=>exact h3
theorem YO(d:Nat)(n:Ai)(h:Gi (Bs d) n)(ih:∀ r m,Bs d r m->∀ w,vQ 117 #[m.V] w (PI w m))(w:vW):vQ 117 #[n.V] w (PI w n):=by
 have hr:=(h.one (Br d)).refs
 obtain⟨i0,hi,e4,e5,e6⟩:=info_parts Bl
 have HV:=Hd (fun w=>UY (Br d) w n h);have HM:=Hd (jvB h);have e7:=Hd ih;have HQ:=Hd (show ∀ (v:vV) W',PI w n (.returned v) W'↔(Cd w W' v (Gc n).length (Gc n)/\(Gc n=[]->v=.slice none 0 0))from fun v W'=>⟨fun ⟨_,e,h⟩=>by cases e;exact h,fun h=>⟨v,rfl,h⟩⟩);have b0:=Jq (w.alloc (.cells n.cells.toArray 215)) _ n hr (Ae.new w _);clear h ih;unfold Ai.V at b0 ⊢;refine (callsIn_wide (n:=0)).1 ?_;refine callsIn_of_wp_marks Tryz.func117 rfl trivial ?_ rfl;simp only[Tryz.ntmps117,cQ,bS,cY,Nat.reduceAdd,Nat.reduceSub,cT,cS,dC,cW,cL,cR];gi_wp2_with (refine AJ rfl 215 (.tmp 1) rfl _ _ rfl b0 ?_)
 refine⟨trivial,rfl,CallsIn.mono (callsIn_wide.2 (HV.o _)) ?_⟩
 rintro e w1 ⟨rfl,O⟩;have b1:=(Ae.new w (.cells n.cells.toArray 215)).keeps O kI;have b2:=Hd (((Aa w).alloc _).trans O)
 obtain⟨W2,a3⟩:=vE (w1.alloc (.cells #[.slice none 0 0] 52))
 have c2:=Hd a3;have c3:Ae W2 w (.cells n.cells.toArray 215):=by rw[a3];exact b1.alloc _
 have A:=Hd (show Ae W2 w1 (.cells #[.slice none 0 0] 52) by rw[a3];exact Ae.new w1 _);have c4:=Hd (show Af w W2 by rw[a3];exact b2.o.alloc _);have a1:=Jq W2 _ n hr c3;have e8:=b1.lt;rw[a3]at a1;clear b0 O b1 a3 c3;unfold Ai.V at a1;gi_wp2_with (refine AJ rfl 215 (.tmp 1) rfl _ _ rfl a1 ?_)
 rw[<-c2.o]
 refine⟨trivial,rfl,CallsIn.mono (callsIn_wide.2 (OZ W2 n)) ?_⟩
 rintro e w3 ⟨rfl,a7,O⟩;have a4:=A.o.lt
 obtain⟨gi,c5⟩:∃ g,g=W2.heap.size:=⟨_,rfl⟩
 obtain⟨X,a2⟩:∃ g,g=w1.heap.size:=⟨_,rfl⟩
 rw[<-a2]at A a4 e8;rw[<-c5]at a7 a4 ⊢;rw[<-a2];have S0:BR w X gi w3 n 0 w3:=⟨c4.o.trans O,a7,_,A.o.keeps O kI,fE _ _ _ _,(fun b hb=>by cases hb),(fun _=>rfl)⟩;have g0:=a7.lt;have e9:=b2.o.size;have f0:=Hd S0;have a8:=Hd (show w.heap.size<=X by omega);clear a1 a7 O b2 c2 A c4 S0 e9 c5 a2;gi_wp2_with fail
 refine' DK (N:=n.refsL.length) (gf:=210) (lb:=#[gi]) rfl (vX 210) (OC gi n hr) (fun k=>rfl) (BR w X gi w3 n) (fun _ _ _=>False) (fun k W W' h e=>h.st e) (fun _ _ _ _ h _=>h) (fun k W h=>h.it) (fun k W o h=>h.put (kL a8.o) vO vO vO _) (fun _ _ _ _ h=>h) f0.o _ ?hassign ?hbody ?hdone ?hstop
 case hassign =>intro l j W K _ hK;rw[PP,EL];simp only[dJ,dE];gi_wp2;exact hK
 case hbody =>intro l k W hk hS g2;have b3:=PO n hr hk;have a5:=HM.o _ (bD b3.2.1) b3.2.2;have b4:=jqd n hk;have f1:=jsw n k;rw[hr]at f1;obtain⟨r,c7⟩:=vE (n.rr k);rw[<-c7]at a5 b4 ⊢;have HS:=Hd hS;have c8:=Hd b4;have c9:=a8.o;have b5:=Hd c9;clear hS b3 b4 c7 c9;rcases a5 with hh |⟨m,hm⟩;{obtain⟨hs,x,q,J,Z⟩:=hh.known;have HX:=Hd (show Js n (k+1)=Js n k++[x] by rw[c8.o];unfold Kv;rw[J];show _++(Vg r q).toList=_;rw[Z];rfl);(have H3:=Hd J;have H4:=Hd Z;clear J Z hh;gi_wp2_with fail);refine⟨trivial,rfl,CallsIn.mono (CallsIn.inRound l (callsIn_wide.2 (BE W r q hs H3.o))) ?_⟩;rintro e w5 ⟨rfl,O⟩;rw[H4.o];have S5:=HS.o.st O;obtain⟨v,H,h2,J,Z⟩:=S5.row;obtain⟨ad,cp,rfl⟩:=Ir h2;(have q4:w5.cell? X=some (.slice ad (Js n k).length cp):=H.cell (i:=0) vF;have f4:w5.frozen? X=false:=H.frozen;have g4:=O.size;have d0:=Hd S5;have a9:=Hd O;have b6:=Hd H;have b7:=Hd h2;have A:=Hd J;clear S5 H h2 J Z O;unfold Dg;gi_wp2_with (gi_at_builtin;refine IP _ rfl (.tmp 23) (.tmp 25) 52 rfl 9 i0 _ 1 16 Bd hi e4 e5 e6 rfl vI (.slice ad (Js n k).length cp) (Js n k).length _ rfl (Jy b7.o ((Aa w5).alloc _)) w5 1 1 [x] rfl rfl (Jx (Ae.new w5 _)) (by simp[Value.oneCell']) (by unfold maxLen;omega) vO ?_));(intro v' w6 r1 r2 r3;have K6:Ad (fun b=>(Value.slice ad (Js n k).length cp).ownBlock=some b) w5 w6:=((Ad.refl _ w5).alloc _).trans r2;have hl:(Js n (k+1)).length=(Js n k).length+1:=by rw[HX.o];simp);(have r1:w6.ownsRow 0 9 1 v' (Js n (k+1)).length ((Js n (k+1)).map Value.string):=by rw[hl,HX.o,bW];exact r1);have nb:∀ b,b < w3.heap.size+2->¬(Value.slice ad (Js n k).length cp).ownBlock=some b:=fun b hb e=>kL (A.o b e);obtain⟨d1,d2,rfl⟩:=Ir r1;(have d3:∀ b,(Value.slice d1 (Js n (k+1)).length d2).ownBlock=some b->w3.heap.size+2<=b:=fun b hb=>by rcases r3 with r3 | r3;{exact A.o b (r3 ▸ hb)};have:=r3 b hb;first | omega |(simp at this;omega));have B4:=b6.o.keeps K6 (nb _ vO);have g5:w6.cell? X=some (.slice ad (Js n k).length cp):=B4.cell (i:=0) vF;have g6:w6.frozen? X=false:=B4.frozen;have b8:=Hd K6;have b9:=Hd B4;have R1:=Hd r1;have d4:=Hd d3;have NB:=Hd nb;clear K6 r1 r2 r3 d3 B4 nb q4 f4 hl;gi_wp2;have k7:Ad (fun b=>b=X) w6 (w6.setCell X (.slice d1 (Js n (k+1)).length d2)):=Ad.oneSet w6 X _;refine⟨((a9.o.mono kZ).trans (b8.o.mono (fun x _ e=>?_))).trans' k7 (fun x _ e=>?_),?_⟩;{have:=A.o x e;show x≠_/\x≠_;omega};{have e:x=_:=e;show x≠_/\x≠_;omega};refine⟨(d0.o.ext.trans' b8.o (fun x hx e=>by have:=A.o x e;have:=b5.o;omega)).trans' k7 (fun x hx e=>by have e:x=_:=e;have:=b5.o;omega),(d0.o.it.keeps b8.o (NB.o _ vO)).keeps k7 (fun e=>by omega),_,b9.o.set_same (i:=0) _,Kq R1.o k7 (fun b hb e=>kL (d4.o b hb)),d4.o,fun h0=>?_⟩;rw[HX.o]at h0;simp at h0};have hs:=(Br d).small r m hm;obtain⟨q,J,Z⟩:=(Br d).nohash r m hm;have HX:=Hd (show Js n (k+1)=Js n k by rw[c8.o,DL (Br d) hm];simp);have HC:=Hd ((Br d).inl r m hm);have c0:=Hd ((Br d).refs r m hm);have H3:=Hd J;have H4:=Hd Z;have f2:=Hd (show ∀ W,vQ 117 #[m.V] W fun e W'=>e=.returned (.slice none 0 0)/\Af W W' from fun W=>by(have f3:Gc m=[]:=by cases d with| zero=>exact hm.elim| succ d=>exact q_ hm.1 (by rw[<-hm.2.1];exact hm.2.2.1));refine (e7.o r m hm W).mono ?_;rintro e W' ⟨v,rfl,H,h2⟩;rw[h2 f3];exact⟨rfl,H.ext⟩);(clear J Z hm;gi_wp2_with fail);refine⟨trivial,rfl,CallsIn.mono (CallsIn.inRound l (callsIn_wide.2 (BE W r q vO H3.o))) ?_⟩;(rintro e w5 ⟨rfl,O⟩;rw[H4.o];have a9:=Hd O;clear O;unfold Dg;gi_wp2_with fail);refine⟨trivial,rfl,CallsIn.mono (CallsIn.inRound l (callsIn_wide.2 (HC.o w5))) ?_⟩;(rintro e w6 ⟨rfl,O⟩;have d5:=Hd (a9.o.trans O);clear O a9;unfold Ai.V;gi_wp2_with (refine YH Ac rfl rfl ?_;intro W7 d6 d7;refine RG (vs:=m.cells) rfl rfl rfl rfl d6 (by rw[m.cells_len c0.o];rfl) (by rw[m.cells_len c0.o];exact Ab) m.one ?_;intro W8 d8 d9));have c1:Af w6 W8:=d7.trans' d9 kJ;have S8:=HS.o.st (d5.o.trans c1);obtain⟨v,H,h2,J,Z⟩:=S8.row;obtain⟨ad,cp,rfl⟩:=Ir h2;(have e0:=uR h2;have f5:=Hd S8;have f6:=Hd d8;have H1:=Hd H;have f7:=Hd c1;have f8:=Hd e0;clear d6 d7 d9 d8 c1 S8 H h2 J Z e0;gi_wp2_with fail);refine zA [0,1,2,3,4] [4] Af Aa Aq vY vY vY vY ?_;refine qL X _ rfl (fun w1 H=>Bq Bd rfl (Am (by exact H1.o.cell (i:=0) (v:=.slice ad (Js n k).length cp) vF) ((Ap _).trans H))) (vS ?_);refine qL w6 _ rfl (fun w1 H=>Jq w1 _ m c0.o (f6.o.keeps ((Ap _).trans H) kI)) (vS ?_);refine Zn _ 117 #[m.V] (.slice none 0 0) rfl vY rfl (fun w1=>Ex (vX 117) vY) (fun w1 H=>f2.o w1) (vS ?_);refine qA _ (.slice ad (Js n k).length cp) rfl (fun w1=>IT (IR Bd hi ad (Js n k).length cp f8.o 0 w1) vY) (vS ?_);refine qH _ rfl (fun w1 he K hK=>?_);have S9:=f5.o.st ((Ap _).trans he);have e1:Af W w1:=(d5.o.trans f7.o).trans ((Ap _).trans he);obtain⟨v,H,h2,J,Z⟩:=S9.row;(have a0:w1.cell? X=some (.slice ad (Js n k).length cp):=Am (H1.o.cell (i:=0) (v:=.slice ad (Js n k).length cp) vF) ((Ap _).trans he);have e2:v=.slice ad (Js n k).length cp:=by have:=H.cell (i:=0) (v:=v) vF;rw[a0]at this;exact (bV this).symm);rw[e2]at H h2 J Z;have q4:=a0;have f4:w1.frozen? X=false:=H.frozen;have e3:=Hd S9;have b6:=Hd H;have b7:=Hd h2;have A:=Hd J;have b9:=Hd Z;have f9:=Hd e1;clear S9 a0 e2 H h2 J Z he e1;go_simp;refine hK _ _ ?_;clear hK K q4 f4;refine qE (fun w2 he=>?_);have k7:Ad (fun b=>b=X) w1 (w1.setCell X (.slice ad (Js n k).length cp)):=Ad.oneSet w1 X _;have k8:Ad (fun b=>b=X) w1 w2:=k7.trans (he.mono kZ);refine⟨(f9.o.mono kZ).trans' k8 (fun x _ e=>?_),?_⟩;{have e:x=_:=e;show x≠_/\x≠_;omega};refine⟨e3.o.ext.trans' k8 (fun x hx e=>by have e:x=_:=e;have:=b5.o;omega),e3.o.it.keeps k8 (fun e=>by omega),.slice ad (Js n k).length cp,(b6.o.set_same (i:=0) _).keeps he kI,?_⟩;rw[HX.o];exact⟨Kq b7.o k8 (fun b hb e=>kL (A.o b hb)),A.o,b9.o⟩
 case hdone =>intro W hS hd;obtain⟨v,H,h2,J,Z⟩:=hS.row;rw[jsv]at h2 Z;obtain⟨ad,cp,rfl⟩:=Ir h2;have q4:W.cell? X=some (.slice ad (Gc n).length cp):=H.cell (i:=0) vF;have HR:=Hd (show Av 9 1 w W (.slice ad (Gc n).length cp) (Gc n).length ((Gc n).map Value.string)from⟨⟨_,_,rfl⟩,h2,hS.ext,fun b hb=>by have:=J b hb;have:=a8.o;omega⟩);have H3:=Hd J;have H4:=Hd Z;have HD:=Hd hd;clear hS H h2 J Z hd;gi_wp2;refine⟨by simp,.inl ⟨_,_,rfl,run_takeDeferred HD.o,?_⟩⟩;refine⟨.slice ad (Gc n).length cp,by simp[results,Tryz.results117,go_sem],(HQ.o _ _).2 ⟨HR.o.keeps (Ad.onePut W w3 (.deferred none)) (fun b hb e=>kL (H3.o b hb)) (fun b hb e=>kL a8.o),H4.o⟩⟩
 case hstop=>intro c k W _ _ h;exact h.elim
theorem mE:∀ (d:Nat) (n:Ai),Gi (Bs d) n->∀ w,vQ 117 #[n.V] w (PI w n)
 | 0,n,h,w=>YO 0 n h (fun _ _ e=>e.elim) w
 | d+1,n,h,w=>YO (d+1) n h (fun r m e w=>mE d m e.1 w) w
end
section
open Classical in
noncomputable def Bo(t:vB):Ai:=if h:∃ n,Ht t n then h.choose else Db
theorem Wg(h:Ht t n):Ht t (Bo t):=by
 unfold Bo;have e:∃ n,Ht t n:=⟨n,h⟩;rw[dif_pos e];exact e.choose_spec
theorem M_(h:Ht t n):(Gc n).length<=16:=by
 obtain⟨_,g,e⟩:=h
 have:=(e.one (Br g)).refs
 unfold Gc;have q:=List.length_filterMap_le Kv n.refs;omega
theorem jqq(h:L.Nodup)(ht:L[i]?=some t):t ∉ L.take i:=fun q=>by
 obtain⟨k,J,e⟩:=List.mem_take_iff_getElem.1 q
 obtain⟨A,H⟩:=bI.1 ht
 exact fV.1 h k i vO A vO (e.trans H.symm)
theorem G_{P:Program}{t T:TypeId}(I:Me P t T sz by'){ops:Array Oper}{rest:List Oper}{d:Option Tmp}{ty:TypeId}{pos:String}{af:Array Edge}{a:Act}{Q:Exit->Act->vW->Prop}{n c c2:Nat}
  (hs:a.eval s=.slice base n c) (hx:a.eval x=.slice none 0 c2) (hle:n<=c) (h:wpList P ops Q rest (a.put d (.slice base n c)) w) :
  wpList P ops Q (⟨d,.call { callee:=.builtin .append,args:=#[s,x],argTypes:=#[t,t] },ty,pos,af,none⟩ :: rest) a w:=by
 obtain⟨i,z,e,_⟩:=I.hi
 exact wpList_plain rfl fun K q=>Ra (IT (IR I.ht e base n c hle c2 w) (by simp[hs,hx])) (q _ _ h)
end
