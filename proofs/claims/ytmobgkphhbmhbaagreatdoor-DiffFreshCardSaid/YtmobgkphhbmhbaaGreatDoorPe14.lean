/- Lemmas; each is under no condition but those that it states. -/
import Derived.Test.YtmobgkphhbmhbaaGreatDoorPe13
namespace Go.Proofs.YtmobgkphhbmhbaaGreatDoor
set_option linter.unusedSimpArgs false
set_option linter.unusedVariables false
set_option maxRecDepth 100000
set_option maxHeartbeats 16000000
open Go Go.RowKit
def ksK(B:vL->PT)(l:vL)(k:Nat):List PT:=(List.range k).flatMap fun i=>if (cutL i l).length=0 then []else jbw (B (jag 1 (cutL i l)))
theorem jhF(B:vL->PT)(l:vL)(k:Nat):ksK B l (k+1)=ksK B l k++(if (cutL k l).length=0 then []else jbw (B (jag 1 (cutL k l)))):=by
 unfold ksK;rw[fX,dK];simp
def jxa(w:vW)(bn:Nat)(B:vL->PT)(l:vL)(rs:vM)(i:vV)(wr:vW):Prop:=∃ k:Nat,k<=16/\i=.int .i64 k/\∃ u bs,jdB w wr w.heap.size bn ⟨#[]⟩ (ksK B l k) u bs/\bs.length<=k/\Blk wr bn (.cells (brN rs k).cells.toArray 132)
theorem jbD{P:Program}{o:Oper}{a:Act}{w:vW}{K:Act->vW->Prop}{Q:Exit->Act->vW->Prop}{f:FuncId}{args:Array vV}(hv:(execOp a.eval o).run P w=.ok (.enter f args) w)(h:Calls P f args w (fun e q=>∃ v,e=.returned v/\K (a.put o.dst v) q)):o.wp P a w K Q:=by
 unfold Oper.wp;rw[hv];exact h.mono fun e q ⟨v,z,E⟩=>by subst z;exact E
theorem jkZ(f:Nat)(l:vL)(h2:2<=l.length)(hln:l.length<=1000)(hok:jaq (f+1) l)(hk:¬ 0 < comK l)(HB:∀ i,(cutL i l).length≠0->jhL (jag 1 (cutL i l)) (jab (f+1) (jag 1 (cutL i l)))):jhL l (jab (f+1+1) l):=by
 intro w v hc Z
 obtain⟨a,ha⟩:∃ a,l[0]?=some a:=⟨_,bA vO⟩
 obtain⟨z,hz⟩:∃ z,l[l.length - 1]?=some z:=⟨_,bA vO⟩
 have ga:l.getD 0 pd=a:=by rw[bH,ha];rfl
 have gz:l.getD (l.length - 1) pd=z:=by rw[bH,hz];rfl
 obtain⟨h8,i0,f1,i1,i2⟩:=hok.size a (bI ha)
 obtain⟨i3,i4,f3,i5,i6⟩:=hok.size z (bI hz)
 have J:=(good (f+1) l hok).1;have f4:=Z;rcases Z with⟨_,_,_,h0⟩ |⟨b,o,c,rfl,hb,hcl,hcell⟩
 ·rw[h0]at h2;simp at h2
 obtain⟨q1,a3⟩:=hcell 0 a ha
 rw[Nat.zero_mul,gQ]at q1 a3
 obtain⟨q2,_⟩:=hcell (l.length - 1) z hz
 obtain⟨kk,d1⟩:=vE (comK l)
 have d2:kk=jap a.1 z.1:=by rw[d1];unfold comK;rw[ga,gz]
 obtain⟨x,y⟩:=a
 obtain⟨xb,yb⟩:=z
 simp only at h8 i0 f1 i1 i2 i3 i4 f3 i5 i6 q1 a3 q2 d2
 obtain⟨E,b4⟩:=vE ((List.range 16).map fun i=>if (cutL i l).length=0 then (⟨#[]⟩:vB)else refB (jab (f+1) (jag 1 (cutL i l))).text)
 obtain⟨q,a0⟩:=vE (if x.size=0 then y else (⟨#[]⟩:vB))
 have hn:jak (jab (f+1)) l=⟨3,⟨#[]⟩,q,E⟩:=by unfold jak;rw[if_neg vO,if_neg vO,if_neg hk,ga,b4,a0]
 rw[hn]at J;have ht:jab (f+1+1) l=.mk (jaS ⟨3,⟨#[]⟩,q,E⟩) (ksK (jab (f+1)) l 16):=by
  show PT.mk (jaS (jak _ l)) (jan _ l)=_;rw[hn];unfold jan;rw[if_neg vO,if_neg hk];rfl
 obtain⟨T,hT⟩:=vE (jab (f+1+1) l)
 rw[<-hT]at ht ⊢;have f5:E.length=16:=by rw[b4];simp
 have f6:∀ i,i < 16->E[i]?=some (if (cutL i l).length=0 then (⟨#[]⟩:vB)else refB (jab (f+1) (jag 1 (cutL i l))).text):=fun i hi=>by
  rw[b4,cA,dV hi];rfl
 have a9:∀ i,(cutL i l).length≠0->jvv (jab (f+1) (jag 1 (cutL i l))):=fun i hi =>
  (((good f _ (jdM i hok)).2.1 (fun e=>by have:=jaA 1 (cutL i l);rw[e]at this;simp at this;omega)).kid)
 have d3:∀ p∈l,p.1.size<=1000000:=fun p hp=>by have:=(hok.size p hp).2.1;omega
 have f8:∀ i,∀ p∈cutL i l,1<=p.1.size/\p.1.size<=1000000:=fun i p hp=>by
  obtain⟨hm,a',r',e',_⟩:=jbp hp
  exact⟨by show 1<=p.1.data.toList.length;rw[show p.1.data.toList=a' :: r' from e'];simp,d3 p hm⟩
 have f9:∀ i,(cutL i l).length<=1000:=fun i=>bL (dX _ _) hln;have c0:((l.length:Int) == 0)=false:=by simp;exact fun e=>by rw[e]at h2;simp at h2
 have c1:¬(l.length:Int)=0:=vO
 have c2:((l.length:Int) == 1)=false:=by simp;omega
 have c3:¬(l.length:Int)=1:=vO
 have c4:(0:Int)<=(l.length:Int) - 1:=vO
 have c5:(l.length:Int) - 1 < (l.length:Int):=vO
 have c6:((l.length:Int) - 1).toNat=l.length - 1:=vO
 have c7:(0:Int) < (l.length:Int):=vO
 have d7:0 < l.length:=vO
 rw[<-d1]at hk;have d0:¬ 0 < kk:=hk;have e0:¬(0:Int) < (kk:Int):=vO
 have HT:=Hd ht;have Q1:=Hd q1;have i7:=Hd a3;have Q2:=Hd q2;have i8:=Hd d2;have HG:=Hd J;have i9:=Hd f4;have j0:=Hd d3;have j1:=Hd f8;have g0:=Hd f9;have e8:=Hd a9;have j2:=Hd f6;have a5:=Hd f5;have b0:=Hd a0;have j3:=Hd HB;have HC:=Hd hc;clear hc ha hz ga gz hok J f4 hcell q1 a3 q2 d1 d2 d3 f8 f9 a9 f6 f5 a0 b4 hn ht hT HB f1 f3
 obtain⟨W1,a6⟩:=vE (w.alloc (.cells #[.string ⟨#[]⟩,.slice none 0 0] 170))
 go_enter Tryz.func70,Tryz.ntmps70;go_wp2_with (refine jal Tryz.allocNode rfl rfl ?_;intro W3 g1 d4;refine jah (vs:=jaV.cells) rfl rfl rfl rfl g1 rfl Tryz.szNode (jae.one _) ?_;intro W4 b5 d5;simp only[bN]at b5 d5)
 have b2:Ext W1 W4:=by
  rw[<-a6]at d4;exact d4.trans' d5 (fun x hx e=>by have e:x=w.heap.size+1:=e;rw[a6,bN]at hx;omega)
 have hh:=jtZ w W1 W4 (w.heap.size+1) a6 b2 (by rw[a6,bN]) b5.lt;have g2:=Hd hh;have g3:=Hd b5;have HX:=Hd hh.row.ext;clear d4 d5 g1 a6 b5 b2 hh;refine jai [0,1,2,3,4,5,6,7,8,9,10,11,12,13] Ext ExtR ExtT vY vY vY ?_;iterate 3 refine vK ?_
 refine qKL ⟨b,o,none⟩ _ rfl (fun w1 h1=>jac Tryz.uStr rfl (jaa (jaa (by exact Q1.o) (HX.o.trans (jaj _))) h1)) ?_;refine vS ?_;iterate 6 refine vK ?_
 refine qKL ⟨b,o+(l.length - 1) * 2,none⟩ _ rfl (fun w1 h1=>jac Tryz.uStr rfl (jaa (jaa (by exact Q2.o) (HX.o.trans (jaj _))) h1)) ?_;refine vS ?_;refine qKC _ 110 #[.string x,.string xb] (.int .i64 (kk:Nat)) rfl (fun w1=>jaB (vX 110) vY) (fun w1 h1=>by rw[i8.o];exact (jfn w1 x xb vO vO).mono (fun e w2 ⟨h1,n,h2⟩=>⟨h1,by rw[h2];exact (ExtR w1).drewN n⟩)) ?_;refine vS ?_;iterate 2 refine vK ?_
 refine qKE (fun w5 H=>?_);have b6:=(jaj W4).trans H;have O:=Hd (g2.o.ext b6);have b7:=Hd (g3.o.keeps b6 (fun h=>h));have HX:=Hd (HX.o.trans b6);clear H b6 g2 g3;have q0:=b7.o.cell (i:=0) (v:=.int .i64 0) vF;have f0:w5.frozen? ⟨w.heap.size+1,0,none⟩=false:=b7.o.frozen;have K6:=jad.oneSet w5 ⟨w.heap.size+1,0,none⟩ (.int .i64 3);have b8:=Hd (O.o.other K6);have b9:Hid (Blk (w5.setCell ⟨w.heap.size+1,0,none⟩ (.int .i64 3)) (w.heap.size+1) (.cells (brN E 0).cells.toArray 132)):=Hd (b7.o.set_same (i:=0) (.int .i64 3));clear K6 b7 O HX;go_wp2_with fail
 go_loopw [11] (fun i wr=>jxa w (w.heap.size+1) (jab (f+1)) l E i wr) (fun i _=>16 - (intOf i).toNat)
 case atStart=>exact⟨0,by omega,rfl,_,[],b8.o,by simp,b9.o⟩
 case round =>
  obtain⟨k,e9,rfl,u,bs,hH,k3,X⟩:=hrel
  obtain⟨au,cu,hu⟩:=hH.row.sl
  subst hu;have HH:=Hd hH;have HB:=Hd X;have HX:=Hd hH.row.ext;clear hH X
  by_cases hlt:k < 16
  ·have b1:(k:Int) < 16:=vO
   have k4:=HH.o.ml;have QI:=Hd (show (wr.alloc (.cells #[.int .i64 (k:Int)] 3)).cell? ⟨wr.heap.size,0,none⟩=some (.int .i64 (k:Int))from(Blk.new wr _).cell vF);have g4:=jwz HH.o.row;have k5:w.heap.size < wr.heap.size:=HH.o.blk.lt;have NF:=Hd (show ¬(wr.heap.size=w.heap.size\/wr.heap.size=w.heap.size+1\/(Value.slice au bs.length cu).ownBlock=some wr.heap.size)from fun h=>by
    rcases h with h | h | h
    ·omega
    ·omega
    ·exact g4 h)
   clear g4;go_wp2_with fail
   refine ja4 [0,1,2,3,7,4,5,6,8,9] [4,5,6,9] Ext (jad (fun x=>x=w.heap.size\/x=w.heap.size+1\/(Value.slice au bs.length cu).ownBlock=some x)) ExtR ExtT (fun x y z h k=>jad.trans h k) (fun x y h=>h.mono (fun _ _ h=>h.elim)) vY vY vY ?_;refine qDL ⟨wr.heap.size,0,none⟩ _ rfl (fun w2 h2=>jac Tryz.uInt rfl (jaD (by exact QI.o) h2 (by exact NF.o))) ?_;refine vS ?_;iterate 4 refine vD ?_
   refine qDH _ rfl (fun w1 H K hK=>?_);have d6:=(((ExtR wr).alloc (.cells #[.int .i64 (k:Int)] 3)).trans (jaj _)).trans H;have g5:=jaa (jaa QI.o (jaj _)) H;refine jbD (jaB (vX 113) vY) ((jxT w1 _ wr.heap.size k l (i9.o.ext (HX.o.trans d6)) vO j0.o vO g5).mono ?_);rintro e w2 ⟨v2,n2,rfl,a7⟩;have g6:=Hd a7.rd;have g7:=Hd (d6.trans a7.ext)
   refine⟨_,rfl,hK _ _ (a7.ext.mono (fun _ _ h=>h.elim)) ?_⟩
   obtain⟨a2,c2,j4⟩:=a7.rd.sl
   subst j4;clear hK K H d6 g5 a7;refine vS ?_;refine qDH _ rfl (fun w3 H K hK=>?_);refine jbD (jaB (vX 112) vY) ((jmf w3 _ 1 (cutL k l) (g6.o.ext H) (by have:=g0.o k;omega) (j1.o k)).mono ?_);rintro e w4 ⟨v4,rfl,a8⟩;have g8:=Hd a8.rd;have j5:=Hd ((g7.o.trans H).trans a8.ext)
   refine⟨_,rfl,hK _ _ (a8.ext.mono (fun _ _ h=>h.elim)) ?_⟩
   obtain⟨a4,g9,j6⟩:=a8.rd.sl
   subst j6;clear hK K H a8 g6 g7;refine vS ?_;refine qDH _ rfl (fun d8 H K hK=>?_);have d9:=Hd (j5.o.trans H);have e1:=Hd (g8.o.ext H);have O:=Hd (HH.o.ext d9.o);have e2:=HC.o.ext (HX.o.trans d9.o)
   obtain⟨rk,c8⟩:=vE (if (cutL k l).length=0 then (⟨#[]⟩:vB)else refB (jab (f+1) (jag 1 (cutL k l))).text)
   refine jbD (f:=111) (args:=#[ptrV w.heap.size,.slice a4 (jag 1 (cutL k l)).length g9]) (jaB (vX 111) vY) ((show Calls _ _ _ _ (fun e w'=>∃ u' bs',e=.returned (.string rk)/\jdB w w' w.heap.size (w.heap.size+1) ⟨#[]⟩ (ksK (jab (f+1)) l (k+1)) u' bs'/\bs'.length<=bs.length+1/\Ext w w'/\jad (fun x=>x=w.heap.size\/(Value.slice au bs.length cu).ownBlock=some x) d8 w')from ?hold).mono ?_)
   case hold =>
    rw[jhF]
    by_cases hc0:(cutL k l).length=0
    ·rw[c8,if_pos hc0,if_pos hc0,bR,jaA,hc0]
     refine (jt0 d8 w.heap.size a4 g9).mono ?_;rintro e w6 ⟨rfl,rfl⟩
     exact⟨_,bs,rfl,O.o,by omega,O.o.row.ext,jad.refl _ _⟩
    ·rw[c8,if_neg hc0,if_neg hc0]
     exact jvh e2 O.o vO _ (jag 1 (cutL k l)) e1.o (fun e=>hc0 (by have:=jaA 1 (cutL k l);rw[e]at this;simpa using this.symm)) (by rw[jaA];have:=g0.o k;omega) _ (e8.o k hc0) (j3.o k hc0 d8 _ e2 e1.o)
   rintro e w6 ⟨u6,j7,rfl,h6,k6,j8,e3⟩
   refine⟨_,rfl,hK _ _ (e3.mono (fun x _ h=>h.elim .inl (fun h=>.inr (.inr h)))) ?_⟩
   have h3:=(HB.o.keeps d9.o (fun h=>h)).keeps e3 (fun h=>by
    rcases h with h | h
    ·omega
    ·exact HH.o.mb h)
   have b9:=Hd h3;have b8:=Hd h6;have j9:=Hd ((j2.o k hlt).trans (by rw[<-c8]));clear hK K H h6 j8 e3 h3 e2 c8 g8 e1 O;refine vS ?_
   refine vD ?_
   refine qDH _ rfl (fun w7 H K hK=>?_);have c9:=b9.o.keeps H (fun h=>h)
   obtain⟨old,q7⟩:∃ v,w7.cell? ⟨w.heap.size+1,3+k,none⟩=some v:=⟨_,c9.cellL (bA (by rw[jae.cells_len _ (jqu a5.o e9)];omega))⟩
   have f7:w7.frozen? ⟨w.heap.size+1,3+k,none⟩=false:=c9.frozen;have e4:=c9.set_same (i:=3+k) (.string rk);rw[show (brN E k).cells.toArray.setIfInBounds (3+k) (.string rk)=((brN E k).cells.set (3+k) (.string rk)).toArray by simp,jqv a5.o hlt rk j9.o]at e4;have h4:=Hd e4;have K8:=jad.oneSet w7 ⟨w.heap.size+1,3+k,none⟩ (.string rk);have h5:=Hd ((b8.o.ext H).other K8);have h7:=Hd (K8.mono (G:=fun x=>x=w.heap.size\/x=w.heap.size+1\/(Value.slice au bs.length cu).ownBlock=some x) (fun x _ e=>.inr (.inl e)));clear H c9 e4 K8 b9 b8;go_simp;refine hK _ _ h7.o ?_;clear hK K q7 f7;refine jck vY (fun w9 H=>?_);have k0:=Hd (h5.o.ext H);have k1:=Hd (h4.o.keeps H (fun h=>h));clear H h5 h4 h7;go_wp2_with fail
   go_roundw
   case rel=>exact⟨k+1,by omega,by go_num,u6,j7,k0.o,by omega,k1.o⟩
   case measure=>exact vJ
  ·have b3:k=16:=vO
   subst b3;have e5:brN E 16=⟨3,⟨#[]⟩,⟨#[]⟩,E⟩:=by unfold brN jav;rw[cD (by have:=a5.o;omega)];simp
   have X:=HB.o;rw[e5]at X;have q1:=jaa Q1.o HX.o
   by_cases hx0:x.size=0
   ·have k2:=jbo hx0
    have Z:q=y:=by rw[b0.o,if_pos hx0]
    have a3:=jaa i7.o HX.o;subst k2;have q2:wr.cell? ⟨w.heap.size+1,2,none⟩=some (.string ⟨#[]⟩):=X.cellL vF;have f2:wr.frozen? ⟨w.heap.size+1,2,none⟩=false:=X.frozen;have e6:=X.set_same (i:=2) (.string y);rw[show (jae.cells ⟨3,⟨#[]⟩,⟨#[]⟩,E⟩).toArray.setIfInBounds 2 (.string y)=(jae.cells ⟨3,⟨#[]⟩,y,E⟩).toArray by simp[jae.cells]]at e6;have a1:=Hd (show Blk (wr.setCell ⟨w.heap.size+1,2,none⟩ (.string y)) (w.heap.size+1) (.cells (jae.cells ⟨3,⟨#[]⟩,q,E⟩).toArray 132)from by rw[Z];exact e6);have HH:=Hd (HH.o.other (jad.oneSet wr ⟨w.heap.size+1,2,none⟩ (.string y)));have HV:=Hd Z;clear X e6 e5 Z;go_wp2_with (refine jaf 132 (.tmp 4) rfl rfl _ _ rfl (jax _ _ ⟨3,⟨#[]⟩,q,E⟩ a5.o a1.o) ?_)
    refine vH (jjq (inlP _) _ ⟨3,⟨#[]⟩,q,E⟩ HG.o) fun w9 hE=>?_;have h9:=HH.o.ext hE;have q0:w9.cell? ⟨w.heap.size,0,none⟩=some (.string ⟨#[]⟩):=h9.blk.cell (i:=0) vF;have f0:w9.frozen? ⟨w.heap.size,0,none⟩=false:=h9.blk.frozen;have H9:=Hd (h9.setText (jaS ⟨3,⟨#[]⟩,q,E⟩))
    obtain⟨tx,Q⟩:=vE (jaS ⟨3,⟨#[]⟩,q,E⟩)
    rw[<-Q]at H9 ⊢;have e7:=Hd Q;clear h9 Q;go_wp2_with fail
    go_ret
    exact⟨w.heap.size,rfl,by rw[HT.o, <-e7.o];exact H9.o.part,H9.o.row.ext⟩
   ·have k7:=jbe (s:=x) vO
    have Z:q=⟨#[]⟩:=by rw[b0.o,if_neg hx0]
    rw[<-Z]at X;have a1:=Hd (show Blk wr (w.heap.size+1) (.cells (jae.cells ⟨3,⟨#[]⟩,q,E⟩).toArray 132)from by rw[Z]at X ⊢;exact X);have HV:=Hd Z;clear X e5 Z;go_wp2_with (refine jaf 132 (.tmp 4) rfl rfl _ _ rfl (jax _ _ ⟨3,⟨#[]⟩,q,E⟩ a5.o a1.o) ?_)
    refine vH (jjq (inlP _) _ ⟨3,⟨#[]⟩,q,E⟩ HG.o) fun w9 hE=>?_;have h9:=HH.o.ext hE;have q0:w9.cell? ⟨w.heap.size,0,none⟩=some (.string ⟨#[]⟩):=h9.blk.cell (i:=0) vF;have f0:w9.frozen? ⟨w.heap.size,0,none⟩=false:=h9.blk.frozen;have H9:=Hd (h9.setText (jaS ⟨3,⟨#[]⟩,q,E⟩))
    obtain⟨tx,Q⟩:=vE (jaS ⟨3,⟨#[]⟩,q,E⟩)
    rw[<-Q]at H9 ⊢;have e7:=Hd Q;clear h9 Q;go_wp2_with fail
    go_ret
    exact⟨w.heap.size,rfl,by rw[HT.o, <-e7.o];exact H9.o.part,H9.o.row.ext⟩
theorem jjQ:∀ (f:Nat) (l:vL),jaq f l->l.length<=1000->jhL l (jab (f+1) l)
 | f,l,hok,hln=>by
  by_cases h0:l.length=0
  ·exact jo7 f l h0
  by_cases h1:l.length=1
  ·exact jqx f l h1 hok
  have e:2<=l.length:=vO
  cases f with
  | zero =>
   exfalso
   obtain⟨a,E⟩:∃ a,l[0]?=some a:=⟨_,bA vO⟩
   obtain⟨b,hb⟩:∃ b,l[1]?=some b:=⟨_,bA vO⟩
   have o:=jcy hok.rise vO E hb
   have:=(hok.size b (bI hb)).1
   rw[show b.l=[]from bE (by show b.1.size=0;omega)]at o;exact not_lt_nil _ o
  | succ f =>
   by_cases hk:0 < comK l
   ·exact jqw f l e hln hok hk (jjQ f _ ((jci (comK l) hok (fun p z q H=>((jbq hok e p z).1).trans (jbq hok e q H).1.symm) (fun p z=>(jbq hok e p z).2)).mono vO) (by rw[jaA];exact hln))
   ·exact jkZ f l e hln hok hk (fun i _=>jjQ f _ (jdM i hok) (by rw[jaA];exact bL (dX _ _) hln))
theorem jlG(b:vU):(b >>> 4).toNat=b.toNat / 16:=by
 have:∀ c:Fin 256,(UInt8.ofNat c.1 >>> 4).toNat=c.1 / 16:=by decide
 have h:=this ⟨b.toNat,b.toNat_lt⟩;simpa using h
theorem jlH(b:vU):(b &&& 15).toNat=b.toNat % 16:=by
 have:∀ c:Fin 256,(UInt8.ofNat c.1 &&& 15).toNat=c.1 % 16:=by decide
 have h:=this ⟨b.toNat,b.toNat_lt⟩;simpa using h
theorem jrI:∀ (a b:vN),Lt a b->Lt (jcN a) (jcN b)
 | a,[],h=>absurd h (not_lt_nil _)
 | [],y :: b,_=>rfl
 | x :: a,y :: b,h=>by
  show Lt ((x >>> 4) ::(x &&& 15) :: jcN a) ((y >>> 4) ::(y &&& 15) :: jcN b);have e:=jlG x;have o:=jlG y;have q:=jlH x;have z:=jlH y;rcases jbx.1 h with h |⟨he,h2⟩
  ·have h:=dW.1 h
   by_cases hh:x.toNat / 16 < y.toNat / 16
   ·exact jbx.2 (.inl (dW.2 vO))
   ·refine jbx.2 (.inr ⟨dP.1 vO,jbx.2 (.inl (dW.2 vO))⟩)
  ·subst he;exact jbx.2 (.inr ⟨rfl,jbx.2 (.inr ⟨rfl,jrI a b h2⟩)⟩)
theorem jei(s:vB):jaM (jbA s)=true:=by
 unfold jaM jbA;rw[dU];intro x e;have e:x∈jcN s.data.toList:=e;unfold jcN at e
 obtain⟨b,_,hb⟩:=cI.1 e
 have q:=jlG b;have z:=jlH b;have E:=b.toNat_lt;have o:(15:vU).toNat=15:=rfl;refine decide_eq_true (fT.2 ?_);rcases bK.1 hb with rfl | hb
 ·omega
 ·rw[bS.1 hb];omega
theorem jgw(s:vB):(jbA s).size=2 * s.size:=by
 show (jcN s.data.toList).length=2 * s.data.toList.length;unfold jcN;induction s.data.toList with
 | nil=>rfl
 | cons x r ih=>rw[cE,bG,ih,bQ,bQ,bQ,dM];omega
structure js4(l:vL):Prop where
 size:∀ p∈l,0 < p.1.size/\p.1.size<=6/\0 < p.2.size/\p.2.size<=80
 rise:l.Pairwise fun p q=>Lt p.l q.l
 len:l.length<=40
theorem jdK:∀ (a b c:vN),Lt a b->Lt b c->Lt a c
 | a,b,[],_,h=>absurd h (not_lt_nil _)
 | a,[],z :: c,h,_=>absurd h (not_lt_nil _)
 | [],y :: b,z :: c,_,_=>rfl
 | x :: a,y :: b,z :: c,h1,h2=>by
  rcases jbx.1 h1 with h |⟨rfl,h⟩
  ·rcases jbx.1 h2 with h' |⟨rfl,h'⟩
   ·exact jbx.2 (.inl (UInt8.lt_trans h h'))
   ·exact jbx.2 (.inl h)
  ·rcases jbx.1 h2 with h' |⟨rfl,h'⟩
   ·exact jbx.2 (.inl h')
   ·exact jbx.2 (.inr ⟨rfl,jdK a b c h h'⟩)
theorem jaw{l:vL}(h:jat l=0):js4 l:=by
 unfold jat at h;split at h
 ·cases h
 rename_i hb
 split at h
 ·cases h
 rename_i hl
 have E:∀ i,i < l.length->badN l i=false:=fun i o=>by
  cases hbi:badN l i with
  | false=>rfl
  | true=>exact absurd (fN.2 ⟨i,dQ.2 o,hbi⟩) hb
 refine⟨fun p Q=>?_,?_,by omega⟩
 ·obtain⟨i,o⟩:=iD Q
  have q:=E i (bU.1 o).1;have X:l.getD i (⟨#[]⟩,⟨#[]⟩)=p:=by rw[bH,o];rfl
  unfold badN at q;rw[X]at q;simp only[gP,Bool.not_eq_false']at q;have z:=q.1.1;have J:=q.1.2;unfold jdU at z;unfold jdl at J;simp only[decide_eq_true_eq]at z J
  exact⟨z.1,z.2,J.1,J.2⟩
 ·have H:∀ i,i+1 < l.length->Lt (l.getD i pd).l (l.getD (i+1) pd).l:=fun i o=>by
   have q:=E (i+1) o;unfold badN at q;simp only[gP,Bool.and_eq_false_iff,Bool.not_eq_false']at q;rcases q.2 with z | z
   ·simp at z
   ·rw[Nat.add_sub_cancel]at z
    have:Op.bytesLess (l.getD i pd).1.toList (l.getD (i+1) pd).1.toList=true:=z
    rw[bW,bW]at this;exact this
  rw[gS];intro i j o Z a0;have e:∀ k (O:k < l.length),l.getD k pd=l[k]:=fun k O=>by rw[bH,bA O];rfl
  have K:∀ d,∀ i,i+d+1 < l.length->Lt (l.getD i pd).l (l.getD (i+d+1) pd).l:=by
   intro d;induction d with
   | zero=>exact fun i o=>H i o
   | succ d ih=>exact fun i o=>jdK _ _ _ (ih i vO) (H (i+d+1) o)
  have:=K (j - i - 1) i vO
  rw[show i+(j - i - 1)+1=j by omega,e i o,e j Z]at this;exact this
theorem jbt{l:vL}(h:js4 l):jaq 12 (jaR l):=by
 refine⟨fun p e=>?_,?_⟩
 ·obtain⟨q,o,rfl⟩:=bC.1 e
  obtain⟨H,J,z,E⟩:=h.size q o
  have K:=jgw q.1
  exact⟨by show (jbA q.1).size<=_;omega,by show (jbA q.1).size<=_;omega,jei _,z,E⟩
 ·unfold jaR
  rw[List.pairwise_map];exact h.rise.imp fun {p q} h=>jrI _ _ h
def jau(l:vL):PT:=jab 13 (jaR l)
section
attribute [local go_sem] Oper.semAt_some
inductive AT where
 | mk (b:Nat) (text:vB) (v:vV) (kids:List AT)
def AT.root:AT->Nat | .mk b _ _ _=>b
mutual
def AtIs(A:Nat->Prop):AT->vW->Prop
 | .mk b t v ks,W=>A b/\Blk W b (.cells #[.string t,v] 170)/\RdQ A W v (ks.map AT.root)/\jeo A ks W
def jeo(A:Nat->Prop):List AT->vW->Prop
 | [],_=>True
 | k :: ks,W=>AtIs A k W/\jeo A ks W
end
mutual
def AT.pt:AT->PT
 | .mk _ t _ ks=>.mk t (AT.pts ks)
def AT.pts:List AT->List PT
 | []=>[]
 | k :: ks=>AT.pt k :: AT.pts ks
end
mutual
def jam:PT->vM
 | .mk t ks=>t :: jay ks
def jay:List PT->vM
 | []=>[]
 | k :: ks=>jam k++jay ks
end
mutual
theorem jxO{A:Nat->Prop}{W:vW}:∀ (T:PT) (b:Nat),jbJ A T b W->∃ a:AT,a.root=b/\a.pt=T/\AtIs A a W
 | .mk t ks,b,h=>by
  unfold jbJ at h
  obtain⟨e,v,o,q,z,E⟩:=h
  obtain⟨H,J,K,O⟩:=ju4 ks o E
  exact⟨.mk b t v H,rfl,by unfold AT.pt;rw[K],by unfold AtIs;exact⟨e,q,by rw[J];exact z,O⟩⟩
theorem ju4{A:Nat->Prop}{W:vW}:∀ (ks:List PT) (bs:List Nat),jaT A ks bs W->∃ e:List AT,e.map AT.root=bs/\AT.pts e=ks/\jeo A e W
 | [],bs,h=>by
  unfold jaT at h;subst h
  exact⟨[],rfl,by unfold AT.pts;rfl,by unfold jeo;trivial⟩
 | x :: ks,bs,h=>by
  unfold jaT at h
  obtain⟨b,r,rfl,o,q⟩:=h
  obtain⟨a,z,E,H⟩:=jxO x b o
  obtain⟨e,J,K,O⟩:=ju4 ks r q
  exact⟨a :: e,by rw[bJ,z,J],by unfold AT.pts;rw[E,K],by unfold jeo;exact⟨H,O⟩⟩
end
mutual
theorem AtIs.keeps{A:Nat->Prop}{F:BSet}{W W':vW}(k:jad F W W')(hF:∀ x,A x->¬ F x):∀ (a:AT),AtIs A a W->AtIs A a W'
 | .mk b t v ks,h=>by
  unfold AtIs at *
  obtain⟨e,o,q,z⟩:=h
  exact⟨e,o.keeps k (hF b e),q.keeps k hF,jeo.keeps k hF ks z⟩
theorem jeo.keeps{A:Nat->Prop}{F:BSet}{W W':vW}(k:jad F W W')(hF:∀ x,A x->¬ F x):∀ (ks:List AT),jeo A ks W->jeo A ks W'
 | [],_=>by unfold jeo;trivial
 | x :: ks,h=>by
  unfold jeo at *
  exact⟨AtIs.keeps k hF x h.1,jeo.keeps k hF ks h.2⟩
end
theorem jeo.get{A:Nat->Prop}{W:vW}:∀ (ks:List AT) (j:Nat) (a:AT),jeo A ks W->ks[j]?=some a->AtIs A a W
 | [],j,a,_,h=>by simp at h
 | x :: ks,0,a,h,hj=>by simp at hj;subst hj;unfold jeo at h;exact h.1
 | x :: ks,j+1,a,h,hj=>by unfold jeo at h;exact jeo.get ks j a h.2 (by simpa using hj)
theorem jli:∀ (ks:List AT) (j:Nat) (a:AT),ks[j]?=some a->jay (AT.pts (ks.take (j+1)))=jay (AT.pts (ks.take j))++jam a.pt
 | [],j,a,h=>by simp at h
 | x :: ks,0,a,h=>by
  simp at h;subst h;simp[AT.pts,jay]
 | x :: ks,j+1,a,h=>by
  have:=jli ks j a (by simpa using h)
  simp only[fF,AT.pts,jay,this,bX]
theorem jnO:∀ (ks:List AT) (j:Nat),∃ r,jay (AT.pts ks)=jay (AT.pts (ks.take j))++r
 | ks,0=>⟨jay (AT.pts ks),by simp[AT.pts,jay]⟩
 | [],j+1=>⟨[],by simp[AT.pts,jay]⟩
 | x :: ks,j+1=>by
  obtain⟨r,h⟩:=jnO ks j
  exact⟨r,by simp only[fF,AT.pts,jay,h,bX]⟩
def jd3(L m:vM)(p:Nat):Prop:=∀ j x,m[j]?=some x->L[p+j]?=some x
theorem jd3.left{L m n:vM}{p:Nat}(h:jd3 L (m++n) p):jd3 L m p:=fun j x e=>h j x (by rw[cW (bU.1 e).1];exact e)
theorem jd3.right{L m n:vM}{p:Nat}(h:jd3 L (m++n) p):jd3 L n (p+m.length):=fun j x e=>by
 have:=h (m.length+j) x (by rw[cV vO,Nat.add_sub_cancel_left];exact e)
 rw[Nat.add_assoc];exact this
theorem jd3.le{L m:vM}{p:Nat}(h:jd3 L m p)(hm:m≠[]):p+m.length<=L.length:=by
 have e:0 < m.length:=gD.2 hm
 have:=h (m.length - 1) _ (bA vO)
 have:=(bU.1 this).1
 omega
theorem jtR(T:PT):1<=(jam T).length:=by cases T;unfold jam;simp
theorem jnN:∀ (ks:List AT),ks.length<=(jay (AT.pts ks)).length
 | []=>by simp
 | x :: ks=>by
  have:=jnN ks
  have:=jtR x.pt
  simp only[AT.pts,jay,bG,bQ];omega
def jjL(C Cx:Nat->vW->Prop)(n N:Nat)(e:Ending)(W':vW):Prop:=(e=.returned (.bool true)/\C n W')\/(e=.returned (.bool false)/\∃ q,0 < q/\q<=N/\Cx q W')
def jvF(C:Nat->vW->Prop)(p:Nat)(ks:List AT)(v:vV)(wr:vW):Prop:=∃ j:Nat,j<=ks.length/\v=.int .i64 j/\C (p+1+(jay (AT.pts (ks.take j))).length) wr
theorem jsT(A:Nat->Prop)(l:Nat)(C Cx:Nat->vW->Prop)(hC:∀ k,St (C k))(L:vM)(hLn:L.length<=1000000)
  (hY:∀ j q,j < L.length->C j q->jp4 Tryz.prog l #[.string (L.getD j ⟨#[]⟩)] q (C (j+1)) (Cx (j+1)))
  (b:Nat) (t:vB) (v:vV) (ks:List AT)
  (IHk:∀ a∈ks,∀ (p:Nat) (W:vW),jd3 L (jam a.pt) p->(∀ j q,C j q->AtIs A a q)->C p W ->
   CallsIn Fence.wide 0 Tryz.prog 116 #[ptrV a.root,.func (.yield l) #[] #[]] W (jjL C Cx (p+(jam a.pt).length) L.length))
  (p:Nat) (W:vW) (hL:jd3 L (jam (AT.mk b t v ks).pt) p) (hS:∀ j q,C j q->AtIs A (.mk b t v ks) q) (h0:C p W) :
   CallsIn Fence.wide 0 Tryz.prog 116 #[ptrV b,.func (.yield l) #[] #[]] W (jjL C Cx (p+(jam (AT.mk b t v ks).pt).length) L.length):=by
  have e1:jam (AT.pt (.mk b t v ks))=t :: jay (AT.pts ks):=by unfold AT.pt jam;rfl
  rw[e1]at hL ⊢;have hp:p < L.length:=by have:=hL 0 t rfl;exact (bU.1 this).1
  have hg:L.getD p ⟨#[]⟩=t:=by rw[bH];have:=hL 0 t rfl;rw[gQ]at this;rw[this];rfl
  have H:∀ j q,C j q->Blk q b (.cells #[.string t,v] 170)/\RdQ A q v (ks.map AT.root)/\jeo A ks q:=fun j q h=>by
   have:=hS j q h;unfold AtIs at this;exact this.2
  obtain⟨fn,tm,b4,bd,X,a3⟩:=hY p W hp h0
  rw[hg]at X;have q0:=(H p W h0).1.cell (i:=0) (v:=.string t) vF
  obtain⟨av,cv,hv⟩:=(H p W h0).2.1.sl
  rw[bZ]at hv;subst hv;have b5:ks.length<=1000000:=by
   have h1:=jnN ks;have h2:=hL.le (by simp);simp only[bQ]at h2;omega
  have a4:=Hd a3;have HS:=Hd H;have HY:=Hd hY;have HC:=Hd hC;have a5:=Hd IHk;have HL:=Hd hL;clear H hS a3 hg h0 e1 hL hY hC IHk;unfold ptrV;refine callsIn_of_wp Tryz.func116 rfl trivial ?_ rfl;simp only[Tryz.ntmps116,dE,bQ,dM,Nat.reduceAdd,Nat.reduceSub,dH,dG,dR,dL,cP,cX];gi_wp2_with fail
  refine⟨rfl,a4.o.mono ?_⟩
  rintro e w5 (⟨rfl,C5⟩ |⟨rfl,C5⟩)
  ·have q1:=(HS.o _ _ C5).1.cell (i:=1) (v:=.slice av ks.length cv) vF
   have J:=Hd C5;clear C5 q0 X;gi_wp2_with fail
   gi_loopw [19] (fun v wr=>jvF C p ks v wr) (fun v _=>ks.length - (intOf v).toNat)
   case atStart=>exact⟨0,by omega,rfl,by simpa [AT.pts,jay]using J.o⟩
   case round =>
    obtain⟨j,hj,rfl,z⟩:=hrel
    by_cases hlt:j < ks.length
    ·obtain⟨a6,Z,a7⟩:=HS.o _ _ z
     obtain⟨a,ha⟩:∃ a,ks[j]?=some a:=⟨_,bA hlt⟩
     have K:a∈ks:=bI ha;have a0:=jli ks j a ha
     obtain⟨a2,O⟩:=jnO ks (j+1)
     have Q:jd3 L (jam a.pt) (p+1+(jay (AT.pts (ks.take j))).length):=by
      have h1:jd3 L ([t]++(jay (AT.pts (ks.take j))++(jam a.pt++a2))) p:=by
       have:=HL.o
       rw[O,a0,bX]at this;exact this
      exact (h1.right.right).left
     rcases Z with⟨_,h0⟩ |⟨g,c,hh,_,_,_,_,hcell⟩
     ·rw[List.map_eq_nil_iff]at h0;rw[h0]at hlt;cases hlt
     obtain⟨rfl,a8,a9⟩:=dY hh
     clear a8 a9;have qj:wr.cell? ⟨g,j,none⟩=some (ptrV a.root):=hcell j a.root (by rw[cA,ha];rfl)
     obtain⟨ar,a1⟩:=vE a.root
     rw[<-a1]at qj;have b1:(j:Int) < (ks.length:Int):=vO
     have ih:=a5.o a K _ wr Q (fun j' q h=>jeo.get ks j a (HS.o j' q h).2.2 ha) z;rw[<-a1]at ih;have IH:=Hd ih;have b0:=Hd a0;unfold ptrV at qj;clear a6 a7 hcell hh O Q ih a0 z ha a1 q1 K J;gi_wp2_with fail
     refine⟨trivial,rfl,IH.o.mono ?_⟩
     rintro e w6 (⟨rfl,C6⟩ |⟨rfl,q',Z,b2,C6⟩)
     ·have E:=Hd C6
      clear C6;gi_wp2_with fail
      go_roundw
      case rel=>exact⟨j+1,by omega,by go_num,by rw[b0.o,bG, <-Nat.add_assoc];exact E.o⟩
      case measure=>exact vJ
     ·have E:=Hd C6
      clear C6;gi_wp2_with fail
      go_ret;exact .inr ⟨rfl,q',Z,b2,E.o⟩
    ·have b3:j=ks.length:=vO
     subst b3;rw[cF]at z;have E:=Hd z;clear z;gi_wp2_with fail
     go_ret;exact .inl ⟨rfl,by rw[show p+((jay (AT.pts ks)).length+1)=p+1+(jay (AT.pts ks)).length by omega];exact E.o⟩
  ·have J:=Hd C5
   clear C5 q0 X;gi_wp2_with fail
   go_ret;exact .inr ⟨rfl,p+1,by omega,by omega,J.o⟩
theorem jsS(A:Nat->Prop)(l:Nat)(C Cx:Nat->vW->Prop)(hC:∀ k,St (C k))(L:vM)(hLn:L.length<=1000000)
  (hY:∀ j W',j < L.length->C j W'->jp4 Tryz.prog l #[.string (L.getD j ⟨#[]⟩)] W' (C (j+1)) (Cx (j+1))) :
  ∀ (a:AT) (p:Nat) (W:vW),jd3 L (jam a.pt) p->(∀ j W',C j W'->AtIs A a W')->C p W ->
   CallsIn Fence.wide 0 Tryz.prog 116 #[ptrV a.root,.func (.yield l) #[] #[]] W (jjL C Cx (p+(jam a.pt).length) L.length)
 | .mk b t v ks,p,W,hL,hS,h0=>jsT A l C Cx hC L hLn hY b t v ks (fun a e=>jsS A l C Cx hC L hLn hY a) p W hL hS h0
termination_by a=>SizeOf.sizeOf a
decreasing_by
 have:=List.sizeOf_lt_of_mem e
 simp
 omega
def jqb(L:vM)(k:Nat):Array vV:=#[.string (L.getD k ⟨#[]⟩)]
theorem jxL(A:Nat->Prop)(bx:Nat)(a:AT)(hLn:(jam a.pt).length<=1000000):js3 Tryz.prog 115 #[.pointer (some ⟨bx,0,none⟩)] (jam a.pt).length (jqb (jam a.pt)) (fun W=>Blk W bx (.cells #[ptrV a.root] 122)/\AtIs A a W):=by
 intro l C Cx Z q z W hY E;have hT:=jsS A l C Cx Z (jam a.pt) hLn (fun j H hj hc=>hY j H hj hc) a 0 W (fun j x hx=>by rw[cL];exact hx) (fun j H h=>(z j H h).2) E;have q0:=(z 0 W E).1.cell (i:=0) (v:=ptrV a.root) vF;have HT:=Hd hT;clear hT hY Z q z E;unfold ptrV at q0
 obtain⟨r,J⟩:=vE a.root
 rw[<-J]at q0 HT;have HR:=Hd J;clear J;refine callsIn_of_wp Tryz.func115 rfl trivial ?_ rfl;simp only[Tryz.ntmps115,dE,bQ,dM,Nat.reduceAdd,Nat.reduceSub,dH,dG,dR,dL,cP,cX];gi_wp2_with fail
 refine⟨trivial,rfl,HT.o.mono ?_⟩
 rintro e w5 (⟨rfl,C5⟩ |⟨rfl,q',K,O,C6⟩)
 ·have Q:=Hd C5
  clear C5;gi_wp2_with fail
  refine bodyPost_end (results_none rfl _ _ _) rfl ?_
  exact⟨⟨_,rfl⟩,.inl (by have:=Q.o;rw[cL]at this;exact this)⟩
 ·have X:=Hd C6
  clear C6;gi_wp2_with fail
  refine bodyPost_end (results_none rfl _ _ _) rfl ?_
  exact⟨⟨_,rfl⟩,.inr ⟨q',O,K,X.o⟩⟩
theorem jy4(w:vW)(k:Nat):vQ 72 #[ptrV k] w fun e w'=>e=.returned (.func (.func 115) #[] #[.pointer (some ⟨w.heap.size,0,none⟩)])/\Blk w' w.heap.size (.cells #[ptrV k] 122)/\Ext w w':=by
 unfold ptrV;go_enter Tryz.func72,Tryz.ntmps72;go_wp2_with fail
 go_ret
 exact⟨rfl,Blk.new w _,(ExtR w).alloc _⟩
def memB(acc:vM)(x:vB):Bool:=(acc.map (·.data.toList)).contains x.data.toList
theorem jdV(acc:vM)(x:vB):memB acc x=true↔x∈acc:=by
 unfold memB;rw[cU,bC]
 exact⟨fun ⟨y,o,e⟩=>by rw[<-show y=x from ByteArray.ext (Array.ext' e)];exact o,fun h=>⟨x,h,rfl⟩⟩
def addF(acc:vM)(x:vB):vM:=if memB acc x=true then acc else acc++[x]
def ja6(l:vM):vM:=l.foldl addF []
theorem js7(acc:vM)(x y:vB):y∈addF acc x↔y∈acc\/y=x:=by
 unfold addF;split
 ·rename_i h;exact⟨.inl,fun o=>o.elim id (fun e=>e ▸ (jdV _ _).1 h)⟩
 ·simp
theorem jaN(l:vM)(y:vB):y∈ja6 l↔y∈l:=by
 unfold ja6
 suffices ∀ e,y∈l.foldl addF e↔y∈e\/y∈l by simpa using this []
 induction l with
 | nil=>intro e;simp
 | cons x r ih=>intro e;rw[dZ,ih,js7,bK];exact or_assoc
theorem jfU(l:vM)(x:vB):ja6 (l++[x])=addF (ja6 l) x:=by
 unfold ja6;rw[fO];rfl
theorem jgU(l:vM):(ja6 l).length<=l.length:=by
 unfold ja6
 suffices ∀ e,(l.foldl addF e).length<=e.length+l.length by simpa using this []
 induction l with
 | nil=>intro e;simp
 | cons x r ih =>
  intro e;rw[dZ,bQ];have o:=ih (addF e x);have q:(addF e x).length<=e.length+1:=by unfold addF;split <;> simp
  omega
theorem jcV{K:Type}[DecidableEq K](k:K)(v:vV)(n:Nat)(k':K):∀ (l:List (Ent K)),jaU (jbk l k v n) k'=if k'=k then some v else jaU l k'
 | []=>by
  by_cases h:k'=k
  ·subst h;simp[jbk,jaU]
  ·simp[jbk,jaU,h]
 | x :: r=>by
  have z:=jcV k v n k' r;unfold jbk
  by_cases hk:k=x.1
  ·rw[if_pos hk]
   by_cases h:k'=k
   ·subst h;simp[jaU]
   ·have o:¬ k'=x.1:=fun e=>h (e.trans hk.symm)
    simp[jaU,h,o]
  ·rw[if_neg hk]
   by_cases h:k'=x.1
   ·have o:¬ k'=k:=fun e=>hk (e.symm.trans h)
    rw[if_neg o];simp[jaU,h]
   ·have q:∀ l,jaU (x :: l) k'=jaU l k':=fun l=>by simp[jaU,h]
    rw[q,q,z]
def cntB(l:vM)(x:vB):Nat:=(l.map (·.data.toList)).count x.data.toList
def cntV(n:Nat):Option vV:=if n=0 then none else some (.int .i64 (n:Int))
theorem Tryz.uMapSI:Tryz.prog.underlying 98=some (.map 9 3):=vY
noncomputable abbrev Tryz.ES:ja2 Tryz.prog 9 (vN):=jyf Tryz.uStr
theorem Tryz.zeroI(w:vW):(zeroValue 3).run Tryz.prog w=.ok (.int .i64 0) w:=vY
structure NodS(w:World)(g m:Nat)(A:Nat->Prop)(bx:Nat)(a:AT)(L:vM)(k:Nat)(W:World):Prop where
 ext:Ext w W
 var:∃ v n,Blk W g (.cells #[v] 22)/\W.ownsRow 0 9 1 v n ((ja6 (L.take k)).map Value.string)/\n<=k/\∀ b,v.ownBlock=some b->m+2<=b
 tab:∃ es ck,Blk W (g+1) (.map (Tryz.ES.arr es) ck)/\∀ x:vB,jaU es x.data.toList=cntV (cntB (L.take k) x)
 mv:Blk W (g+2) (.cells #[.map (some (g+1))] 98)
 box:Blk W bx (.cells #[ptrV a.root] 122)
 at':AtIs A a W
theorem NodS.st{w:vW}{g m:Nat}{A:Nat->Prop}{bx:Nat}{a:AT}{L:vM}{k:Nat}{W W':vW}(h:NodS w g m A bx a L k W)(e:Ext W W'):NodS w g m A bx a L k W':=
 let ⟨v,n,h1,h2,h3,h4⟩:=h.var
 let ⟨es,ck,h5,h6⟩:=h.tab
 ⟨h.ext.trans e,⟨v,n,h1.keeps e (fun h=>h),jbh h2 e,h3,h4⟩,⟨es,ck,h5.keeps e (fun h=>h),h6⟩,h.mv.keeps e (fun h=>h),h.box.keeps e (fun h=>h),AtIs.keeps e (fun _ _ h=>h) a h.at'⟩
theorem NodS.put{w:vW}{g m:Nat}{A:Nat->Prop}{bx:Nat}{a:AT}{L:vM}{k:Nat}{W:vW}(h:NodS w g m A bx a L k W){r:Nat}(hr:w.heap.size<=r)(h1:g+2 < r)(h2:r < m+2)(h3:bx≠r)(h4:∀ x,A x->x≠r)(o:Obj):NodS w g m A bx a L k (W.putObj r o):=
 let ⟨v,n,h5,h6,h7,h8⟩:=h.var
 let ⟨es,ck,h9,h10⟩:=h.tab
 ⟨h.ext.putObj (.inr hr) _,⟨v,n,h5.put_other vO _,jaY h6 (jad.onePut W r o) (fun b hb e=>by have:=h8 b hb;omega),h7,h8⟩,⟨es,ck,h9.put_other vO _,h10⟩,h.mv.put_other vO _,h.box.put_other h3 _,
  AtIs.keeps (jad.onePut W r o) (fun x q e=>h4 x q e) a h.at'⟩
end
def jc8(l:vL):Nat->Nat
 | 0=>0
 | n+1=>jc8 l n+(cutL n l).length
def hN(L:vN)(n:Nat):Nat:=match L with | []=>0 | a :: _=>if a.toNat < n then 1 else 0
theorem jwc(p:Pair)(n:Nat):hN p.l (n+1)=hN p.l n+(if je4 n p=true then 1 else 0):=by
 have e:je4 n p=match p.l with | []=>false | a :: _=>a.toNat == n:=rfl
 rw[e];cases p.l with
 | nil=>rfl
 | cons a r =>
  simp only[hN,beq_iff_eq]
  by_cases h1:a.toNat=n
  ·rw[if_pos vO,if_neg vO,if_pos h1]
  ·by_cases h3:a.toNat < n
   ·rw[if_pos vO,if_pos h3,if_neg h1]
   ·rw[if_neg vO,if_neg h3,if_neg h1]
theorem jyc(L:vN)(n:Nat):hN L n<=1:=by
 cases L with
 | nil=>exact cC _
 | cons a r=>simp only[hN];split <;> omega
theorem jfP(p:Pair)(l:vL):∀ n,jc8 (p :: l) n=jc8 l n+hN p.l n
 | 0=>by
  have:hN p.l 0=0:=by cases p.l <;> simp[hN]
  rw[this];rfl
 | n+1=>by
  have h:(cutL n (p :: l)).length=(cutL n l).length+(if je4 n p=true then 1 else 0):=by
   unfold cutL;rw[dN];split <;> simp
  unfold jc8;rw[jfP p l n,h,jwc];omega
theorem jeS:∀ (l:vL) (n:Nat),jc8 l n<=l.length
 | [],n=>by
  have:∀ n,jc8 [] n=0:=fun n=>by induction n with
   | zero=>rfl
   | succ n ih=>unfold jc8;rw[ih];rfl
  rw[this];exact cC _
 | p :: l,n=>by
  rw[jfP,bQ]
  have:=jeS l n
  have:=jyc p.l n
  omega
theorem jdp:∀ (a b:List PT),jay (a++b)=jay a++jay b
 | [],b=>by simp[jay]
 | x :: a,b=>by simp only[cX,jay,jdp a b,bX]
theorem jil(T:PT):(jay (jbw T)).length<=(jam T).length:=by
 unfold jbw;split <;> simp[jay]
theorem jyg(B:vL->PT)(F:Nat)(l:vL)(hB:∀ i,(cutL i l).length≠0->(jam (B (jag 1 (cutL i l)))).length<=F * (cutL i l).length):∀ n,(jay (ksK B l n)).length<=F * jc8 l n
 | 0=>by simp[ksK,jay,jc8]
 | n+1=>by
  rw[jhF,jdp,bG];unfold jc8;rw[Nat.mul_add]
  have:=jyg B F l hB n
  by_cases h0:(cutL n l).length=0
  ·rw[if_pos h0];simp[jay];omega
  ·rw[if_neg h0]
   have e:=hB n h0;have o:=jil (B (jag 1 (cutL n l)));omega
theorem jmM:∀ (f:Nat) (l:vL),l≠[]->(jam (jab (f+1) l)).length<=(f+1) * l.length
 | f,l,hl=>by
  have z:1<=l.length:=gD.2 hl;show (jam (.mk (jaS (jak (jab f) l)) (jan (jab f) l))).length<=_;unfold jam;rw[bQ];have E:(jay (jan (jab f) l)).length<=f * l.length:=by
   unfold jan;split
   ·simp[jay]
   ·split
    ·cases f with
     | zero =>
      have h:=jil (jab 0 (jag (comK l) l));have H:jbw (jab 0 (jag (comK l) l))=[]:=rfl;rw[H];simp[jay]
     | succ f =>
      have h:=jil (jab (f+1) (jag (comK l) l));have o:=jmM f (jag (comK l) l) (fun e=>by have:=jaA (comK l) l;rw[e]at this;simp at this;omega);rw[jaA]at o;omega
    ·cases f with
     | zero =>
      have:∀ n,ksK (jab 0) l n=[]:=fun n=>by
       induction n with
       | zero=>rfl
       | succ n o =>
        rw[jhF,o];split
        ·rfl
        ·rfl
      have q:=this 16;unfold ksK at q;rw[q];simp[jay]
     | succ f =>
      have h:=jyg (jab (f+1)) (f+1) l (fun i O=>by
       have o:=jmM f (jag 1 (cutL i l)) (fun e=>by have:=jaA 1 (cutL i l);rw[e]at this;simp at this;omega)
       rwa [jaA]at o) 16
      have J:=Nat.mul_le_mul_left (f+1) (jeS l 16);have K:ksK (jab (f+1)) l 16=(List.range 16).flatMap fun i=>if (cutL i l).length=0 then []else jbw (jab (f+1) (jag 1 (cutL i l))):=rfl
      rw[<-K];exact bL h J
  have:(f+1) * l.length=f * l.length+l.length:=by rw[Nat.succ_mul]
  omega
theorem joM{l:vL}(h:js4 l):(jam (jau l)).length<=13 * l.length+1:=by
 by_cases h0:l=[]
 ·subst h0
  show (jam (.mk (jaS (jak (jab 12) [])) (jan (jab 12) []))).length<=_
  have:jan (jab 12) []=[]:=rfl
  rw[this];simp[jam,jay]
 ·have o:(jam (jau l)).length<=13 * (jaR l).length:=jmM 12 (jaR l) (fun e=>h0 (by unfold jaR at e;simpa using e))
  have q:(jaR l).length=l.length:=by unfold jaR;rw[bZ]
  rw[q]at o;omega
section
attribute [local go_sem] Oper.semAt_some
theorem Tryz.makeMapSI(W:vW):(Instr.makeMap 98 none).run Tryz.prog W=.ok (.map (some W.heap.size)) (W.alloc (.map #[] 0)):=vY
theorem joi(w:vW)(v:vV)(l:vL)(hc:jbS w)(hv:RdP w v l)(h:jat l=0):vQ 30 #[v] w fun e w'=>∃ u n,e=.returned (.tuple #[u,.int .i64 0])/\SRow w w' u n (ja6 (jam (jau l))):=by
 have hm:=jaw h
 obtain⟨a,c,rfl⟩:=hv.sl;have HV:=Hd hv;have HM:=Hd hm;have HC:=Hd hc;have H:=Hd h;have HL:=Hd hm.len
 obtain⟨T,hT⟩:=vE (jau l)
 rw[<-hT];have c9:=Hd hT;clear hv hm hc h hT;refine (callsIn_wide (n:=0)).1 ?_;refine callsIn_of_wp_marks Tryz.func30 rfl trivial ?_ rfl;simp only[Tryz.ntmps30,dE,bQ,dM,Nat.reduceAdd,Nat.reduceSub,dH,dG,dR,dL,cP,cX];gi_wp2_with fail
 refine⟨trivial,rfl,CallsIn.mono (callsIn_wide.2 (jgP w _ l HV.o (by have:=HL.o;omega) (fun p hp=>by have:=HM.o.size p hp;omega))) ?_⟩
 rintro e w1 ⟨rfl,z⟩;rw[H.o];have HE:=Hd z;have g9:=z.size;clear z;have f1:(Instr.makeMap 98 none).run Tryz.prog (w1.alloc (.cells #[.slice none 0 0] 22))=.ok (.map (some (w1.heap.size+1))) ((w1.alloc (.cells #[.slice none 0 0] 22)).alloc (.map #[] 0)):=by
  rw[<-bN w1 (.cells #[.slice none 0 0] 22)];exact Tryz.makeMapSI _
 gi_wp2_with fail
 obtain⟨W6,O⟩:=vE (((w1.alloc (.cells #[.slice none 0 0] 22)).alloc (.map #[] 0)).alloc (.cells #[.map (some (w1.heap.size+1))] 98))
 rw[<-O];have h7:W6.heap.size=w1.heap.size+3:=by rw[O];simp
 have E6:Ext w1 W6:=by rw[O];exact (((ExtR w1).alloc _).alloc _).alloc _
 have B5:Blk W6 w1.heap.size (.cells #[.slice none 0 0] 22):=by rw[O];exact ((Blk.new w1 _).alloc _).alloc _
 have BM:Blk W6 (w1.heap.size+1) (.map #[] 0):=by
  rw[O];have:=(Blk.new (w1.alloc (.cells #[.slice none 0 0] 22)) (.map #[] 0)).alloc (.cells #[.map (some (w1.heap.size+1))] 98);rwa [bN]at this
 have B6:Blk W6 (w1.heap.size+2) (.cells #[.map (some (w1.heap.size+1))] 98):=by
  rw[O];have:=Blk.new ((w1.alloc (.cells #[.slice none 0 0] 22)).alloc (.map #[] 0)) (.cells #[.map (some (w1.heap.size+1))] 98);rwa [bN,bN]at this
 clear O f1
 refine⟨trivial,rfl,CallsIn.mono (callsIn_wide.2 (jvl W6 _ l ((HV.o.ext HE.o).ext E6) (by have:=HL.o;omega) (fun p hp=>by have:=HM.o.size p hp;omega))) ?_⟩
 rintro e w7 ⟨u,rfl,hr⟩;have HR:=Hd hr.rd;have Q:Ext W6 w7:=hr.ext;clear hr
 obtain⟨a2,c2,hu⟩:=HR.o.sl
 subst hu;have f2:=Hd Q;have d0:=Hd (B5.keeps Q (fun h=>h));have d1:=Hd (BM.keeps Q (fun h=>h));have d2:=Hd (B6.keeps Q (fun h=>h));have b5:=Hd ((HE.o.trans E6).trans Q);have h8:=Q.size;clear B5 BM B6 E6 Q;gi_wp2_with fail
 refine⟨trivial,rfl,CallsIn.mono (callsIn_wide.2 (jjQ 12 (jaR l) (jbt HM.o) (by unfold jaR;rw[bZ];have:=HL.o;omega) w7 _ (HC.o.ext b5.o) HR.o)) ?_⟩
 rintro e w8 ⟨k,rfl,hk,z⟩;have hk:=jbJ.mono (A':=fun x=>w7.heap.size<=x/\x < w8.heap.size) (fun x h1 h2=>⟨h1,h2⟩) _ _ hk
 obtain⟨q,d3,d4,d5⟩:=jxO _ _ hk
 have i1:=z.size;have a3:=Hd (d0.o.keeps z (fun h=>h));have a4:=Hd (d1.o.keeps z (fun h=>h));have a5:=Hd (d2.o.keeps z (fun h=>h));have d6:=Hd (b5.o.trans z);have d7:=Hd d5;have Z:=Hd d4;rw[<-d3];clear hk d3 d4 d5 z d0 d1 d2 b5 f2 HR HE;gi_wp2_with fail
 refine⟨trivial,rfl,CallsIn.mono (callsIn_wide.2 (jy4 w8 q.root)) ?_⟩
 rintro e w9 ⟨rfl,b6,z⟩;have b7:q.pt=T:=Z.o.trans c9.o.symm;have a6:(jam q.pt).length<=1000000:=by
  rw[b7,c9.o];have:=joM HM.o;have:=HL.o;omega
 have i2:=b6.lt
 obtain⟨A,hA⟩:∃ A:Nat->Prop,A=fun x=>w7.heap.size<=x/\x < w8.heap.size:=⟨_,rfl⟩
 have S0:NodS w w1.heap.size w9.heap.size A w8.heap.size q (jam q.pt) 0 w9:=
  ⟨d6.o.trans z,⟨_,0,a3.o.keeps z (fun h=>h),by simpa [ja6]using fH _ _ _ _,bM _,fun b hb=>by cases hb⟩,⟨[],0,a4.o.keeps z (fun h=>h),fun x=>by simp[jaU,cntB,cntV]⟩,a5.o.keeps z (fun h=>h),b6,by rw[hA];exact AtIs.keeps z (fun _ _ h=>h) _ d7.o⟩
 have b2:=Hd S0;have a7:∀ x,A x->w1.heap.size+2 < x/\x < w9.heap.size:=fun x hx=>by rw[hA]at hx;omega
 have g5:w1.heap.size+2 < w8.heap.size:=vO
 obtain⟨L,b8⟩:=vE (jam q.pt)
 have b9:=jxL A w8.heap.size q a6;rw[<-b8]at b9 a6 b2;have f3:=Hd b9;have f4:=Hd b8;have E:=Hd a7;have c8:=Hd b7;clear S0 z b6 hA d6 a3 a4 a5 d7 Z b7 b8 b9 a7;unfold ptrV;gi_wp2_with fail
 refine jen (N:=L.length) (gf:=115) (lb:=#[.pointer (some ⟨w8.heap.size,0,none⟩)]) rfl (vX 115) f3.o
  (fun k=>rfl) (NodS w w1.heap.size w9.heap.size A w8.heap.size q L) (fun _ _ _=>False) (fun k W W' h e=>h.st e) (fun _ _ _ _ h _=>h) (fun k W h=>⟨h.box,h.at'⟩)
  (fun k W o h=>h.put vO vO vO vO (fun x hx=>by have:=E.o x hx;omega) _)
  (fun k W o h=>h.put vO vO vO vO (fun x hx=>by have:=E.o x hx;omega) _) (fun _ _ _ _ h=>h)
  b2.o (fun k=>{ tmps:=#[.slice a l.length c,undef,.slice none 0 0,.int .i64 0,.int .i64 0,.pointer (some ⟨w1.heap.size,0,none⟩),.pointer (some ⟨w1.heap.size+1+1,0,none⟩),.string (L.getD k ⟨#[]⟩),.slice a l.length c,.int .i64 0,.int .i64 0,.bool false,undef,.map (some (w1.heap.size+1)),.slice a l.length c,.slice a2 (jaR l).length c2,.pointer (some ⟨q.root,0,none⟩),.func (.func 115) #[] #[.pointer (some ⟨w8.heap.size,0,none⟩)],.string (L.getD k ⟨#[]⟩),undef,undef,undef,undef,undef,undef,undef,undef,undef,undef,undef,undef,undef],defers:=[] })
  ?hassign ?hbody ?hdone ?hstop
 case hassign =>
  intro l2 j W K hK;unfold jqb;rw[jyb];simp only[dI,dA];gi_wp2;exact hK
 case hbody =>
  intro l2 k W hk h i3
  obtain⟨v,n,h1,h2,h3,h4⟩:=h.var
  obtain⟨ad,cp,rfl⟩:=jaK h2
  obtain⟨es,ck,h5,h6⟩:=h.tab
  obtain⟨x,hx⟩:=vE (L.getD k ⟨#[]⟩)
  rw[<-hx];have c0:L.take (k+1)=L.take k++[x]:=by
   rw[cR hk,hx,bH,bA hk];rfl
  obtain⟨cn,a1⟩:=vE (cntB (L.take k) x)
  have i4:cn<=1000000:=by
   rw[a1];unfold cntB;refine bL jB ?_;rw[bZ,dS];omega
  have e6:=h6 x;rw[<-a1]at e6;have d8:(Instr.lookup 98 (.map (some (w1.heap.size+1))) (.string x) false).run Tryz.prog W=.ok (.int .i64 (cn:Int)) W:=by
   have:=jcl Tryz.ES Tryz.uMapSI h5 (Tryz.zeroI W) x.data.toList false
   rw[e6]at this;unfold cntV at this
   by_cases h0:cn=0
   ·rw[if_pos h0]at this;rw[h0];exact this
   ·rw[if_neg h0]at this;exact this
  obtain⟨b3,X⟩:=vE (jbk es x.data.toList (.int .i64 ((cn:Int)+1)) ck)
  obtain⟨c1,a8⟩:=vE (if (jaU es x.data.toList).isSome then ck else ck+1)
  obtain⟨J,b4⟩:=vE (W.putObj (w1.heap.size+1) (.map (Tryz.ES.arr b3) c1))
  have d9:(Instr.mapUpdate 98 (.map (some (w1.heap.size+1))) (.string x) (.int .i64 ((cn:Int)+1))).run Tryz.prog W=.ok () J:=by
   have:=jbV Tryz.ES Tryz.uMapSI h5 x.data.toList (.int .i64 ((cn:Int)+1))
   rw[<-X, <-a8, <-b4]at this;exact this
  have B2:Blk J (w1.heap.size+1) (.map (Tryz.ES.arr b3) c1):=by rw[b4];exact h5.put_same _
  have e7:∀ y:vB,jaU b3 y.data.toList=cntV (cntB (L.take (k+1)) y):=fun y=>by
   rw[X,jcV,h6 y,c0];have hc:cntB (L.take k++[x]) y=cntB (L.take k) y+(if x.data.toList=y.data.toList then 1 else 0):=by
    unfold cntB;rw[bY,List.count_append,bJ,iG,List.count_singleton]
    simp
   rw[hc]
   by_cases hxy:y.data.toList=x.data.toList
   ·have f5:y=x:=ByteArray.ext (Array.ext' hxy)
    subst f5;rw[if_pos rfl,if_pos rfl, <-a1];unfold cntV;rw[if_neg vO];simp
   ·rw[if_neg hxy,if_neg (fun e=>hxy e.symm)];rfl
  have a9:(Instr.lookup 98 (.map (some (w1.heap.size+1))) (.string x) false).run Tryz.prog J=.ok (.int .i64 ((cn:Int)+1)) J:=by
   have:=jcl Tryz.ES Tryz.uMapSI B2 (Tryz.zeroI J) x.data.toList false
   rw[X,jcV,if_pos rfl]at this;exact this
  have K2:jad (fun b=>b=w1.heap.size+1) W J:=by rw[b4];exact jad.onePut _ _ _
  have q6:W.cell? ⟨w1.heap.size+1+1,0,none⟩=some (.map (some (w1.heap.size+1))):=h.mv.cell (i:=0) vF;have M2:=h.mv.keeps K2 vO;have i5:J.cell? ⟨w1.heap.size+1+1,0,none⟩=some (.map (some (w1.heap.size+1))):=M2.cell (i:=0) vF;have V2:=h1.keeps K2 vO;have O2:=jaY h2 K2 (fun b hb e=>by have:=h4 b hb;omega);have X2:=h.box.keeps K2 vO;have A2:=AtIs.keeps K2 (fun y hy e=>by have:=E.o y hy;omega) _ h.at';have E2:=h.ext.trans' K2 (fun y hy e=>by omega);have i6:=V2.cell (i:=0) (v:=.slice ad n cp) vF;have g6:J.frozen? ⟨w1.heap.size,0,none⟩=false:=V2.frozen;have b0:=Hd (show memB (ja6 (L.take k)) x=true↔cn≠0 from by
   rw[jdV,jaN,a1];unfold cntB;rw[<-Nat.pos_iff_ne_zero,fZ,bC]
   exact⟨fun hm=>⟨x,hm,rfl⟩,fun ⟨y,hy,e⟩=>by rw[<-show y=x from ByteArray.ext (Array.ext' e)];exact hy⟩)
  have e0:=Hd (show ja6 (L.take (k+1))=addF (ja6 (L.take k)) x by rw[c0,jfU]);have b1:=Hd (show ∃ es ck,Blk J (w1.heap.size+1) (.map (Tryz.ES.arr es) ck)/\∀ y:vB,jaU es y.data.toList=cntV (cntB (L.take (k+1)) y)from⟨b3,c1,B2,e7⟩);have c3:=Hd K2;have e1:=Hd M2;have e2:=Hd V2;have e3:=Hd O2;have e4:=Hd X2;have Z:=Hd A2;have e5:=Hd E2;have H4:=Hd h4;clear h h1 h2 h4 h5 h6 hx c0 a1 e6 X a8 b4 B2 e7 K2 M2 V2 O2 X2 A2 E2 b2
  obtain⟨i0,hi,f6,f7,f8⟩:=info_parts Tryz.infoStr
  by_cases hc0:cn=0
  ·subst hc0
   have e8:memB (ja6 (L.take k)) x=false:=by
    cases hm:memB (ja6 (L.take k)) x with
    | false=>rfl
    | true=>exact absurd rfl (b0.o.1 hm)
   have c4:=Hd e8;have g7:(Instr.lookup 98 (.map (some (w1.heap.size+1))) (.string x) false).run Tryz.prog W=.ok (.int .i64 0) W:=d8;have g8:(Instr.mapUpdate 98 (.map (some (w1.heap.size+1))) (.string x) (.int .i64 1)).run Tryz.prog W=.ok () J:=d9;have f0:(Instr.lookup 98 (.map (some (w1.heap.size+1))) (.string x) false).run Tryz.prog J=.ok (.int .i64 1) J:=a9;clear e8 d8 d9 a9;gi_wp2_with (gi_at_builtin;refine jbW _ rfl (.tmp 27) (.tmp 29) 22 rfl 9 i0 _ 1 16 Tryz.uStrs hi f6 f7 f8 rfl vI (.slice ad n cp) n _ rfl (jbh e3.o ((ExtR J).alloc _)) ⟨J.heap.size,0,none⟩ 1 1 [.string x] rfl rfl (ja3 (Blk.new J _)) (by simp[Value.oneCell']) (by unfold maxLen;omega) vO ?_;intro v' w6 r1 r2 r3;obtain⟨c5,c6,rfl⟩:=jaK r1;have c7:=(e2.o.alloc _).keeps r2 (fun e=>by have:=H4.o _ e;omega);have i7:w6.cell? ⟨w1.heap.size,0,none⟩=some (.slice ad n cp):=c7.cell (i:=0) vF;have i8:w6.frozen? ⟨w1.heap.size,0,none⟩=false:=c7.frozen)
   have a0:ja6 (L.take (k+1))=ja6 (L.take k)++[x]:=by rw[e0.o];unfold addF;rw[if_neg (by rw[c4.o];simp)]
   have f9:w6.ownsRow 0 9 1 (.slice c5 (n+1) c6) (n+1) ((ja6 (L.take (k+1))).map Value.string):=by rw[a0,bY];exact r1
   have K6:jad (fun b=>(Value.slice ad n cp).ownBlock=some b) J w6:=((jad.refl _ J).alloc _).trans r2;have e9:∀ b,(Value.slice c5 (n+1) c6).ownBlock=some b->w9.heap.size+2<=b:=fun b hb=>by
    rcases r3 with r3 | r3
    ·exact H4.o b (r3 ▸ hb)
    ·have h9:=r3 b hb;have:=c3.o.size;rw[bN]at h9;omega
   have K7:jad (fun b=>b=w1.heap.size) w6 (w6.setCell ⟨w1.heap.size,0,none⟩ (.slice c5 (n+1) c6)):=jad.oneSet w6 ⟨w1.heap.size,0,none⟩ _;have nO:∀ b,b < w9.heap.size+2->¬(Value.slice ad n cp).ownBlock=some b:=fun b hb e=>by have:=H4.o b e;omega
   refine⟨((c3.o.mono (fun y _ e=>?_)).trans (K6.mono (fun y _ e=>?_))).trans (K7.mono (fun y _ e=>?_)),?_⟩
   ·have e:y=_:=e;show y≠_/\y≠_;omega
   ·have:=H4.o y e;show y≠_/\y≠_;omega
   ·have e:y=_:=e;show y≠_/\y≠_;omega
   ·obtain⟨g0,g1,g2,g3⟩:=b1.o
    exact⟨(e5.o.trans' K6 (fun y hy e=>by have:=H4.o y e;omega)).trans' K7 (fun y hy e=>by have e:y=_:=e;omega),
     ⟨_,n+1,c7.set_same (i:=0) _,jaY f9 K7 (fun b hb e=>by have:=e9 b hb;omega),by omega,e9⟩,
     ⟨g0,g1,(g2.keeps K6 (nO _ vO)).keeps K7 vO,g3⟩,(e1.o.keeps K6 (nO _ vO)).keeps K7 vO,(e4.o.keeps K6 (nO _ vO)).keeps K7 vO,
     AtIs.keeps K7 (fun y hy e=>by have:=E.o y hy;omega) _ (AtIs.keeps K6 (fun y hy=>nO y (by have:=E.o y hy;omega)) _ Z.o)⟩
  ·have i9:¬((cn:Int)+1=1):=vO
   have j0:(((cn:Int)+1) == 1)=false:=by simp;omega
   have hm:=b0.o.2 hc0;have c4:=Hd hm;clear hm;gi_wp2_with fail
   have a0:ja6 (L.take (k+1))=ja6 (L.take k):=by rw[e0.o];unfold addF;rw[if_pos c4.o]
   refine⟨c3.o.mono (fun y _ e=>?_),?_⟩
   ·have e:y=_:=e;show y≠_/\y≠_;omega
   ·exact⟨e5.o,⟨_,n,e2.o,by rw[a0];exact e3.o,by omega,H4.o⟩,b1.o,e1.o,e4.o,Z.o⟩
 case hdone =>
  intro W h hd
  obtain⟨v,n,h1,h2,h3,h4⟩:=h.var
  obtain⟨ad,cp,rfl⟩:=jaK h2
  have q5:W.cell? ⟨w1.heap.size,0,none⟩=some (.slice ad n cp):=h1.cell (i:=0) vF;rw[cF,f4.o]at h2;have H2:=Hd h2;have H4:=Hd h4;have HX:=Hd h.ext;have HD:=Hd hd;have g4:Hid (q.pt=T):=c8.o;clear h h1 h2 h4 hd b2;gi_wp2_with fail
  refine⟨by simp,.inl ⟨_,_,rfl,run_takeDeferred HD.o,?_⟩⟩
  refine⟨_,results_tmp2 rfl _ _ _,?_⟩
  have hK:=jad.onePut W w9.heap.size (.deferred none)
  refine⟨.slice ad n cp,n,rfl,⟨_,_,rfl⟩,by rw[<-g4.o];exact jaY H2.o hK (fun b hb e=>by have:=H4.o b hb;omega),HX.o.putObj (.inr vO) _,fun b hb=>by have:=H4.o b hb;omega⟩
 case hstop=>intro c k W _ _ h;exact h.elim
end
theorem jmL(x:vB)(r:vM):(ja6 (x :: r))[0]?=some x:=by
 unfold ja6;rw[dZ];have h:∀ (r e:vM),e[0]?=some x->(r.foldl addF e)[0]?=some x:=by
  intro r;induction r with
  | nil=>intro e h;exact h
  | cons y r ih =>
   intro e h;rw[dZ];refine ih _ ?_;unfold addF;split
   ·exact h
   ·rw[cW (bU.1 h).1];exact h
 exact h r _ (by simp[addF,memB])
theorem jjf(T:PT):(ja6 (jam T))[0]?=some T.text:=by
 obtain⟨t,ks⟩:=T
 unfold jam;exact jmL t _
theorem jdr(x y:vB):(x.toList == y.toList)=decide (x=y):=by
 by_cases h:x=y
 ·simp[h]
 ·have e:¬ x.toList=y.toList:=fun o=>h (jhe o)
  simp only[h,decide_false];exact beq_eq_false_iff_ne.2 e
theorem jbb{t:vB}:∀ {ks:List PT},t∈jay ks↔∃ T∈ks,t∈jam T
 | []=>by simp[jay]
 | T :: ks=>by
  unfold jay;rw[bO,jbb (ks:=ks)];constructor
  ·rintro (h |⟨q,e,o⟩)
   ·exact⟨T,bF,h⟩
   ·exact⟨q,bD _ e,o⟩
  ·rintro⟨q,e,o⟩
   rcases bK.1 e with rfl | e
   ·exact .inl o
   ·exact .inr ⟨q,e,o⟩
theorem jy3{P:Program}{f:FuncId}{args:Array vV}{w:vW}{R R':vV->vW->Prop}
  (h:Calls P f args w fun | .returned v,w'=>R v w' | _,_=>False) (h':Calls P f args w fun | .returned v,w'=>R' v w' | _,_=>False) (hi:P.inits.idxOf? f=none) :
  ∃ v w',R v w'/\R' v w':=by
 obtain⟨n,v,w1,e,o⟩:=h.done hi
 obtain⟨m,E,H,q,z⟩:=h'.done hi
 have a:=runN_ended e m;have b:=runN_ended q n;rw[gR,a]at b;injection b with ho hw;injection ho with hv;subst hv hw
 exact⟨_,_,o,z⟩
theorem js8{P:Program}{f:FuncId}{args:Array vV}{w:vW}{a b:vV}{R R':vW->Prop}
  (h:Calls P f args w fun e w'=>e=.returned a/\R w') (h':Calls P f args w fun e w'=>e=.returned b/\R' w') (hi:P.inits.idxOf? f=none):a=b:=by
 obtain⟨v,w',q,z⟩:=jy3 (R:=fun v _=>v=a) (R':=fun v _=>v=b)
  (h.mono fun e w' o=>by obtain⟨rfl,_⟩:=o;rfl) (h'.mono fun e w' o=>by obtain⟨rfl,_⟩:=o;rfl) hi
 exact q.symm.trans z
theorem jr1{n m:jae}(h:n.V=m.V):n=m:=by
 obtain⟨k,p,v,q⟩:=n
 obtain⟨z,O,Q,e⟩:=m
 unfold jae.V jae.cells at h;injection h with h;have h:=congrArg Array.toList h;simp only[List.toList_toArray,List.cons.injEq,Value.int.injEq,Value.string.injEq]at h
 obtain⟨⟨_,o⟩,E,H,J⟩:=h
 have K:q=e:=by
  have:∀ a b:vM,a.map Value.string=b.map Value.string->a=b:=fun a=>by
   induction a with
   | nil=>intro b hb;cases b with | nil=>rfl | cons x y=>cases hb
   | cons x r ih =>
    intro b hb;cases b with
    | nil=>cases hb
    | cons y t =>
     simp only[bJ,List.cons.injEq,Value.string.injEq]at hb;rw[hb.1,ih t hb.2]
  exact this _ _ J
 have o:k=z:=vO
 subst o E H K;rfl
theorem jdd(w:vW){f g:Nat}{n m:jae}(hn:jcg (InlD f) n)(hm:jcg (InlD g) m)(h:jaS n=jaS m):n=m:=by
 have e:=jjh (inlP f) w n hn;have o:=jjh (inlP g) w m hm;rw[h]at e
 have:=js8 e o vY
 injection this with this
 have:=congrArg Array.toList this
 simp only[List.toList_toArray,List.cons.injEq]at this;exact jr1 this.1
theorem jjH{a b:vB}(ha:a.size=32)(hb:b.size=32)(h:jaC a=jaC b):a=b:=by
 obtain⟨r,e,o⟩:=jdI a ha
 obtain⟨s,q,z⟩:=jdI b hb
 rw[h]at e o;rw[e]at q;obtain rfl:=bV q;rw[o]at z;exact bV z
theorem jfy{T:PT}(h:T.text.size < 32):refB T.text=T.text:=by unfold refB;rw[if_pos h]
theorem jgy{T:PT}(h:¬ T.text.size < 32):refB T.text=jaC (shaB T.text):=by unfold refB;rw[if_neg h]
theorem jgX{f:Nat}{T:PT}{n:jae}(h:jdC f T n)(hs:T.text.size < 32):jam T=[T.text]:=by
 have e:=h.small hs
 obtain⟨x,ks⟩:=T
 have e:ks=[]:=e;subst e;unfold jam jay;rfl
theorem jgn{T:PT}(h:¬ T.text.size < 32):jay (jbw T)=jam T:=by
 unfold jbw;rw[if_neg h];simp[jay]
theorem jbB(T:PT):T.text∈jam T:=by cases T;unfold jam;exact bF
theorem jbv{l:vL}(h:jaq 0 l):l.length<=1:=by
 rcases fK l.length 2 with h2 | h2
 ·omega
 ·obtain⟨a,o⟩:∃ a,l[0]?=some a:=⟨_,bA vO⟩
  obtain⟨b,hb⟩:∃ b,l[1]?=some b:=⟨_,bA vO⟩
  have e:=jcy h.rise vO o hb
  have:=(h.size b (bI hb)).1
  rw[show b.l=[]from bE (by show b.1.size=0;omega)]at e;exact absurd e (not_lt_nil _)
theorem jbK{a b:vB}(h:a.data.toList=b.data.toList):a=b:=by
 obtain⟨⟨a⟩⟩:=a
 obtain⟨⟨b⟩⟩:=b
 simp only at h;subst h;rfl
def jcA(r:vB):Option vB:=(cutN r).bind (jeX r)
def jaG(n:jae):vM:=n.refs.filterMap jcA
theorem jeY:jcA ⟨#[]⟩=none:=by
 unfold jcA cutN;rw[dif_neg vI];rfl
theorem jd8{h:vB}(hs:h.size=32):jcA (jaC h)=some h:=by
 obtain⟨r,e,o⟩:=jdI h hs
 unfold jcA;rw[e];exact o
theorem jdH{I:vB->jae->Prop}(HI:InlP I){r:vB}{m:jae}(h:I r m):jcA r=none:=by
 obtain⟨q,e,o⟩:=HI.nohash r m h
 unfold jcA;rw[e];exact o
theorem jlo{f:Nat}{T:PT}{n:jae}(h:jdC f T n):(jcA (refB T.text)).toList=(jbw T).map fun k=>shaB k.text:=by
 by_cases hs:T.text.size < 32
 ·rw[jdH (inlP (f+1)) (h.may.2 hs)]
  unfold jbw;rw[if_pos hs];rfl
 ·rw[jgy hs,jd8 (jbi _)]
  unfold jbw;rw[if_neg hs];rfl
theorem jd9(k:Nat):(jav k).filterMap jcA=[]:=by
 unfold jav;rw[List.filterMap_eq_nil_iff];intro r e;rw[fV e,jeY]
theorem jif{α:Type}(g:α->vB)(k:α->List PT):∀ L:List α,(∀ i∈L,(jcA (g i)).toList=(k i).map fun k=>shaB k.text)->(L.map g).filterMap jcA=(L.flatMap k).map fun k=>shaB k.text
 | [],_=>rfl
 | x :: L,h=>by
  rw[bJ,cE,bY, <-jif g k L fun i e=>h i (bD _ e), <-h x bF,fY];cases jcA (g x) <;> rfl
theorem jda(f:Nat)(l:vL)(h:jaq f l):jaG (jak (jab f) l)=(jan (jab f) l).map fun k=>shaB k.text:=by
 unfold jaG
 by_cases h0:l.length=0
 ·have z:jak (jab f) l=jaV:=by unfold jak;rw[if_pos h0]
  have E:jan (jab f) l=[]:=by unfold jan;rw[if_pos vO]
  rw[z,E];exact jd9 16
 by_cases h1:l.length=1
 ·have z:jak (jab f) l=⟨1,(l.getD 0 pd).1,(l.getD 0 pd).2,jav 16⟩:=by unfold jak;rw[if_neg h0,if_pos h1]
  have E:jan (jab f) l=[]:=by unfold jan;rw[if_pos vO]
  rw[z,E];exact jd9 16
 have Q:2<=l.length:=vO
 cases f with
 | zero=>have:=jbv h;omega
 | succ f =>
  by_cases hk:0 < comK l
  ·have o:=jbq h Q
   have H:jaq f (jag (comK l) l):=(jci (comK l) h (fun p J q X=>(o p J).1.trans (o q X).1.symm) (fun p J=>(o p J).2)).mono vO;have K:jag (comK l) l≠[]:=fun e=>by have:=jaA (comK l) l;rw[e]at this;simp at this;omega
   have O:=(good f _ H).2.1 K;have z:jak (jab (f+1)) l=⟨2,(l.getD 0 pd).1.extract 0 (comK l),⟨#[]⟩,refB (jab (f+1) (jag (comK l) l)).text :: jav 15⟩:=by unfold jak;rw[if_neg h0,if_neg h1,if_pos hk]
   have E:jan (jab (f+1)) l=jbw (jab (f+1) (jag (comK l) l)):=by unfold jan;rw[if_neg vO,if_pos hk]
   rw[z,E, <-jlo O];show (refB (jab (f+1) (jag (comK l) l)).text :: jav 15).filterMap jcA=_;rw[fY,jd9];cases jcA (refB (jab (f+1) (jag (comK l) l)).text) <;> rfl
  ·have z:(jak (jab (f+1)) l).refs=(List.range 16).map fun i=>if (cutL i l).length=0 then ⟨#[]⟩else refB (jab (f+1) (jag 1 (cutL i l))).text:=by unfold jak;rw[if_neg h0,if_neg h1,if_neg hk]
   have E:jan (jab (f+1)) l=(List.range 16).flatMap fun i=>if (cutL i l).length=0 then []else jbw (jab (f+1) (jag 1 (cutL i l))):=by unfold jan;rw[if_neg vO,if_neg hk]
   rw[z,E];refine jif _ _ _ fun i Z=>?_
   by_cases hc:(cutL i l).length=0
   ·rw[if_pos hc,if_pos hc,jeY];rfl
   ·rw[if_neg hc,if_neg hc]
    exact jlo ((good f _ (jdM i h)).2.1 (fun e=>by have:=jaA 1 (cutL i l);rw[e]at this;simp at this;omega))
theorem jeP{f:Nat}{l:vL}(h:jaq f l){K:PT}(o:K∈jan (jab f) l):∃ g m,f=g+1/\K=jab (g+1) m/\jaq g m/\32<=K.text.size:=by
 have E:∀ {T:PT},K∈jbw T->K=T/\32<=K.text.size:=fun {T} h=>by
  unfold jbw at h;split at h
  ·cases h
  ·rw[bS]at h;subst h;exact⟨rfl,by omega⟩
 unfold jan at o
 by_cases h1:l.length<=1
 ·rw[if_pos h1]at o;cases o
 rw[if_neg h1]at o;cases f with
 | zero=>have:=jbv h;omega
 | succ f =>
  by_cases hk:0 < comK l
  ·rw[if_pos hk]at o
   have z:=jbq h vO;have H:jaq f (jag (comK l) l):=(jci (comK l) h (fun p J q Q=>(z p J).1.trans (z q Q).1.symm) (fun p J=>(z p J).2)).mono vO
   obtain⟨e,O⟩:=E o
   exact⟨f,_,rfl,e,H,O⟩
  ·rw[if_neg hk]at o
   obtain⟨i,_,o⟩:=cI.1 o
   split at o
   ·cases o
   ·obtain⟨e,O⟩:=E o
    exact⟨f,_,rfl,e,jdM i h,O⟩
def jbj(t:vB)(n:jae):Prop:=t=jaS n/\∃ g,jcg (InlD g) n
structure jpY(L B:vM):Prop where
 node:∀ t∈L,∃ n,jbj t n/\∀ h∈jaG n,∃ t'∈L,h=shaB t'
 told:∀ t∈B,32<=t.size/\∃ t'∈L,∃ n,jbj t' n/\shaB t∈jaG n
theorem ju7:∀ (f:Nat) (l:vL),jaq f l->jpY (jam (jab (f+1) l)) (jay (jan (jab f) l)):=by
 intro f;induction f with
 | zero =>
  intro l h;have e2:jan (jab 0) l=[]:=by have:=jbv h;unfold jan;rw[if_pos vO]
  have Q:jam (jab (0+1) l)=[jaS (jak (jab 0) l)]:=by
   show jam (.mk (jaS (jak (jab 0) l)) (jan (jab 0) l))=_;rw[jam,e2];simp[jay]
  have X:=jda 0 l h;rw[e2]at X;rw[Q,e2]
  refine⟨fun t o=>?_,fun t o=>by simp[jay]at o⟩
  rw[bS]at o
  exact⟨_,⟨o,0,(good 0 l h).1⟩,fun x J=>by rw[X]at J;cases J⟩
 | succ f ih =>
  intro l h;have Q:jam (jab (f+1+1) l)=jaS (jak (jab (f+1)) l) :: jay (jan (jab (f+1)) l):=by
   show jam (.mk (jaS (jak (jab (f+1)) l)) (jan (jab (f+1)) l))=_;rw[jam]
  have X:=jda (f+1) l h;have z:jbj (jaS (jak (jab (f+1)) l)) (jak (jab (f+1)) l):=⟨rfl,f+1,(good (f+1) l h).1⟩;have E:∀ {K:PT},K∈jan (jab (f+1)) l->∀ t∈jam K,t∈jam (jab (f+1+1) l):=fun {K} q t o=>by
   rw[Q];exact bD _ (jbb.2 ⟨K,q,o⟩)
  have H:∀ {K:PT},K∈jan (jab (f+1)) l->∃ m,K=jab (f+1) m/\jaq f m/\32<=K.text.size:=fun {K} q=>by
   obtain⟨g,m,e,Z,h2,h3⟩:=jeP h q
   obtain rfl:f=g:=vO
   exact⟨m,Z,h2,h3⟩
  constructor
  ·intro t o
   rw[Q]at o;rcases bK.1 o with rfl | o
   ·refine⟨_,z,fun x J=>?_⟩
    rw[X]at J
    obtain⟨K,q,rfl⟩:=bC.1 J
    exact⟨_,E q _ (jbB K),rfl⟩
   ·obtain⟨K,q,o⟩:=jbb.1 o
    obtain⟨m,rfl,hm,_⟩:=H q
    obtain⟨n,Z,h2⟩:=(ih m hm).node t o
    exact⟨n,Z,fun x J=>by obtain⟨t',O,e⟩:=h2 x J;exact⟨t',E q _ O,e⟩⟩
  ·intro t o
   obtain⟨K,q,o⟩:=jbb.1 o
   obtain⟨m,rfl,hm,a0⟩:=H q
   have eK:jam (jab (f+1) m)=jaS (jak (jab f) m) :: jay (jan (jab f) m):=by
    show jam (.mk (jaS (jak (jab f) m)) (jan (jab f) m))=_;rw[jam]
   rw[eK]at o;rcases bK.1 o with rfl | o
   ·refine⟨a0,_,?_,_,z,?_⟩
    ·rw[Q];exact bF
    ·rw[X];exact bC.2 ⟨_,q,rfl⟩
   ·obtain⟨Z,t',O,n,h2,h3⟩:=(ih m hm).told t o
    exact⟨Z,t',E q _ O,n,h2,h3⟩
theorem jhj(l:vM):(ja6 l).Nodup:=by
 unfold ja6
 have:∀ (l o:vM),o.Nodup->(l.foldl addF o).Nodup:=fun l=>by
  induction l with
  | nil=>exact fun _ h=>h
  | cons x r ih =>
   intro o h;rw[dZ];refine ih _ ?_;unfold addF;split
   ·exact h
   ·rename_i hn
    have q:x ∉ o:=fun z=>hn ((jdV o x).2 z);rw[dO]
    exact⟨h,by simp,fun a E b hb e=>by simp at hb;subst hb;subst e;exact q E⟩
 exact this l [] (by simp)
structure jxH(L:vM)(top:vB):Prop where
 head:L[0]?=some top
 nodup:L.Nodup
 node:∀ t∈L,∃ n,jbj t n/\∀ h∈jaG n,∃ t'∈L,h=shaB t'
 told:∀ (i:Nat) t,L[i+1]?=some t->32<=t.size/\∃ t'∈L,∃ n,jbj t' n/\shaB t∈jaG n
theorem jf5{l:vL}(h:jat l=0):jxH (ja6 (jam (jau l))) (jau l).text:=by
 have H:=ju7 12 (jaR l) (jbt (jaw h));have X:jam (jau l)=(jau l).text :: jay (jan (jab 12) (jaR l)):=by
  show jam (.mk (jaS (jak (jab 12) (jaR l))) (jan (jab 12) (jaR l)))=_;rw[jam];rfl
 have H:jpY (jam (jau l)) (jay (jan (jab 12) (jaR l))):=H;have q:=jhj (jam (jau l))
 refine⟨jjf _,q,fun t J=>?_,fun i t J=>?_⟩
 ·obtain⟨n,z,E⟩:=H.node t ((jaN _ _).1 J)
  exact⟨n,z,fun x Z=>by obtain⟨O,o,e⟩:=E x Z;exact⟨O,(jaN _ _).2 o,e⟩⟩
 ·have K:=(jaN _ _).1 (bI J)
  have Q:t≠(jau l).text:=fun e=>by
   have h0:=jjf (jau l)
   obtain⟨z,e1⟩:=bU.1 J
   obtain⟨E,e2⟩:=bU.1 h0
   exact gS.1 q 0 (i+1) E z vO (e2.trans (e.symm.trans e1.symm))
  rw[X]at K;rcases bK.1 K with e | K
  ·exact absurd e Q
  ·obtain⟨z,O,o,n,E⟩:=H.told t K
   exact⟨z,O,(jaN _ _).2 o,n,E⟩
theorem jcX(w:vW){t:vB}{n m:jae}(h:jbj t n)(k:jbj t m):n=m:=by
 obtain⟨e,f,o⟩:=h
 obtain⟨q,g,z⟩:=k
 exact jdd w o z (e.symm.trans q)
section
section mixr
variable {P:Program} {l:List Oper} {lr:Nat} {R:Act->vW->Prop}
def jd4(R:Act->vW->Prop):Exit->Act->vW->Prop:=fun e a w=>e=.normal/\R a w
theorem jjn:¬ LetsOut (jd4 R):=fun ⟨_,_,h,_⟩=>by cases h
theorem jhg{o:Oper}{a:Act}{w:vW}{K K':Act->vW->Prop}{Q:Exit->Act->vW->Prop}(hd:∀ c,o.op≠.defer c)(hK:∀ a w,K a w->K' a w)(h:o.wp P a w K (jd4 R)) :
  o.wpIn (Fence.wide.inRound lr) 0 P a w K' Q:=by
 unfold Oper.wp at h
 refine⟨fun _ _=>trivial,?_⟩
 rw[Oper.semAt_eq _ _ _ hd];generalize (execOp a.eval o).run P w=r at *;cases r with
 | ok x w' =>
  cases x with
  | value v=>exact hK _ _ h
  | skip=>exact hK _ _ h
  | defer d=>exact hK _ _ h
  | enter f args =>
   refine bB (fun q=>absurd q (by simp[Fence.wide])) (CallsIn.inRound lr (callsIn_wide.2 (Calls.mono h fun e E z=>?_)));cases e with
   | returned v=>exact hK _ _ z
   | panicked c=>cases z.1
   | outgrown=>exact absurd z jjn
  | row r args=>exact bB (fun q=>absurd q (by simp[Fence.wide])) (fun c cs _=>let ⟨v,w',r,s⟩:=h c cs;⟨v,w',hK _ _ r,stepsIn_wide.2 s⟩)
  | round l f t a b=>exact h.elim
  | _=>exact h.elim
 | halt x w' =>
  cases x <;> first | exact h.elim | cases h.1
theorem jkS(hnd:jkd l.toArray=true):∀ (q:Nat) (e:Array Bool) (a:Act) (w:vW),wpAny P .any l.toArray (jd4 R) q e a w->wpAnyIn (Fence.wide.inRound lr) 0 P .any l.toArray (jd4 R) q e a w:=by
 have H:∀ (i:Nat) (o:Oper),l.toArray[i]?=some o->∀ c,o.op≠.defer c:=by
  intro i o E c J;unfold jkd at hnd;rw[dU]at hnd
  have:=hnd o (by simpa using bI (by simpa using E))
  rw[J]at this;simp at this
 intro q;induction q with
 | zero=>exact fun _ _ _ h=>h
 | succ q ih =>
  intro e a w h
  refine⟨h.1,fun i K=>?_⟩
  have z:=h.2 i K;unfold wpOp at z;unfold wpOpIn;split
  ·rename_i E;simp only[E]at z;exact ih _ _ _ z
  ·rename_i o E
   simp only[E]at z;split
   ·rename_i hw;simp only[hw,if_true]at z
    rcases z with z | z
    ·exact jhg (H i o E) (fun a w h=>ih _ a w h) z
    ·exact absurd z.2 jjn
   ·rename_i hw;simp only[hw]at z
    exact⟨fun _ _=>trivial,ih _ _ _ z⟩
theorem jkG(hm:P.follows .mixedOrders=true)(hnd:jkd l.toArray=true){id:Nat}{Q:Exit->Act->vW->Prop}{a:Act}{w:vW}(hq:∀ a w,R a w->Q .normal a w)
  (h:wpAny P .any l.toArray (jd4 R) l.toArray.size (Array.replicate l.toArray.size false) a w.drew):(Code.region id l.toArray true).wpIn (Fence.wide.inRound lr) 0 P Q a w:=
 wpIn_mono (wpIn_region_any hm (jkS hnd _ _ _ _ h)) fun e a w ⟨o,q⟩=>by subst o;exact hq _ _ q
theorem jhh(ord hd:List Nat)(E:vW->vW->Prop)(hE:∀ w,E w w)(hT:∀ x y z,E x y->E y z->E x z){id:Nat}{Q:Exit->Act->vW->Prop}{a:Act}{w:vW}
  (hm:P.follows .mixedOrders=true) (hnd:jkd l.toArray=true) (hs:Region.noSelect l.toArray=true) (hl:ord.length=l.toArray.size)
  (h:Mix P l hd E (fun a w=>Q .normal a w) ord [] a w.drew):(Code.region id l.toArray true).wpIn (Fence.wide.inRound lr) 0 P Q a w:=by
 refine jkG (R:=fun a w=>Q .normal a w) hm hnd (fun _ _ h=>h) ?_;rw[<-hl]
 have:=jeq hE hT hs ord _ _ _ h
 unfold jbd at this;rw[hl]at this ⊢;exact jgJ hE (fun _ _ h=>⟨rfl,h⟩) _ _ _ _ this
theorem jmh{ops:Array Oper}{rest:List Oper}{o:Oper}{a:Act}{w:vW}{Q:Exit->Act->vW->Prop}{T:TypeId}{cs:List vV}(hrun:∀ w,(Instr.alloc T true (.tuple #[])).run P w=.ok (.pointer (some ⟨w.heap.size,0,none⟩)) (w.alloc (.cells cs.toArray T)))(hgd:o.guard=none)(ho:o.op=.alloc T)
  (h:∀ W,Blk W w.heap.size (.cells cs.toArray T)->Ext w W->wpListIn (Fence.wide.inRound lr) 0 P ops Q rest (a.put o.dst (.pointer (some ⟨w.heap.size,0,none⟩))) W):wpListIn (Fence.wide.inRound lr) 0 P ops Q (o :: rest) a w:=
 wpListIn_plain hgd fun K e=>jhg (R:=fun _ _=>False) (by rw[ho];intro c q;cases q) (fun _ _ h=>h) (jco (v:=.pointer (some ⟨w.heap.size,0,none⟩)) (w':=w.alloc (.cells cs.toArray T)) (by simp only[execOp,ho,bT,hrun,Result.andThen,cJ]) (e _ _ (h _ (Blk.new w _) ((ExtR w).alloc _))))
theorem jkH{ops:Array Oper}{rest:List Oper}{o:Oper}{a:Act}{w:vW}{Q:Exit->Act->vW->Prop}{T T2:TypeId}{x y:Operand}{b:Nat}{old vs:List vV}(hgd:o.guard=none)(ho:o.op=.store T x y)(hx:a.eval x=.pointer (some ⟨b,0,none⟩))(hy:a.eval y=.agg vs.toArray)
  (hB:Blk w b (.cells old.toArray T2)) (hl:old.length=vs.length) (hi:(P.info? T).map (·.size)=some vs.length) (h1:∀ v∈vs,v.oneCell'=true)
  (h:∀ W,Blk W b (.cells vs.toArray T2)->jad (fun z=>z=b) w W->wpListIn (Fence.wide.inRound lr) 0 P ops Q rest (a.put o.dst undef) W):wpListIn (Fence.wide.inRound lr) 0 P ops Q (o :: rest) a w:=by
 refine wpListIn_plain hgd fun K e=>jhg (R:=fun _ _=>False) (by rw[ho];intro c q;cases q) (fun _ _ h=>h) ?_;refine wp_store_mid T x y ho b 0 vs.toArray hx hy (by have:=jkA hB;rw[hl]at this;simpa using this) (by simpa using hi) (all_oneCell_toArray h1) (e _ _ (h _ ?_ (jad.oneSetCells b vs 0 w)))
 have:=Blk.setCells vs 0 w old hB vO
 rw[iS vO]at this;simpa using this
end mixr
end
end Go.Proofs.YtmobgkphhbmhbaaGreatDoor
