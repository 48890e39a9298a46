/- Lemmas; each is under no condition but those that it states. -/
import Derived.Test.YtmobgkphhbmhbaaGreatDoorPb13
namespace Go.Proofs.YtmobgkphhbmhbaaGreatDoor
set_option linter.unusedSimpArgs false
set_option linter.unusedVariables false
set_option maxRecDepth 100000
set_option maxHeartbeats 16000000
open Go Go.RowKit
def ksK(B:vL->PT)(l:vL)(k:Nat):List PT:=(List.range k).flatMap fun i=>if (cutL i l).length=0 then []else jbt (B (jag 1 (cutL i l)))
theorem jhA(B:vL->PT)(l:vL)(k:Nat):ksK B l (k+1)=ksK B l k++(if (cutL k l).length=0 then []else jbt (B (jag 1 (cutL k l)))):=by
 unfold ksK;rw[fW,dL];simp
def jwL(w:vW)(bn:Nat)(B:vL->PT)(l:vL)(rs:vM)(i:vV)(wr:vW):Prop:=∃ k:Nat,k<=16/\i=.int .i64 k/\∃ u bs,jdz w wr w.heap.size bn ⟨#[]⟩ (ksK B l k) u bs/\bs.length<=k/\Blk wr bn (.cells (brN rs k).cells.toArray 132)
theorem jbD{P:Program}{o:Oper}{a:Act}{w:vW}{K:Act->vW->Prop}{Q:Exit->Act->vW->Prop}{f:FuncId}{args:Array vV}(hv:(execOp a.eval o).run P w=.ok (.enter f args) w)(h:Calls P f args w (fun e q=>∃ v,e=.returned v/\K (a.put o.dst v) q)):o.wp P a w K Q:=by
 unfold Oper.wp;rw[hv];exact h.mono fun e q ⟨v,z,A⟩=>by subst z;exact A
theorem jk9(f:Nat)(l:vL)(h2:2<=l.length)(hln:l.length<=1000)(hok:jar (f+1) l)(hk:¬ 0 < comK l)(HB:∀ i,(cutL i l).length≠0->jhI (jag 1 (cutL i l)) (jab (f+1) (jag 1 (cutL i l)))):jhI l (jab (f+1+1) l):=by
 intro w v hc X
 obtain⟨a,ha⟩:∃ a,l[0]?=some a:=⟨_,bA vO⟩
 obtain⟨z,hz⟩:∃ z,l[l.length - 1]?=some z:=⟨_,bA vO⟩
 have ga:l.getD 0 pd=a:=by rw[bG,ha];rfl
 have gz:l.getD (l.length - 1) pd=z:=by rw[bG,hz];rfl
 obtain⟨h7,h8,e9,i0,i1⟩:=hok.size a (bI ha)
 obtain⟨i2,i3,f1,i4,i5⟩:=hok.size z (bI hz)
 have H:=(good (f+1) l hok).1;have f3:=X;rcases X with⟨_,_,_,h0⟩ |⟨b,o,c,rfl,hb,hcl,hcell⟩
 ·rw[h0]at h2;simp at h2
 obtain⟨q1,Z⟩:=hcell 0 a ha
 rw[Nat.zero_mul,gU]at q1 Z
 obtain⟨q2,_⟩:=hcell (l.length - 1) z hz
 obtain⟨kk,c9⟩:=vE (comK l)
 have d1:kk=jaj a.1 z.1:=by rw[c9];unfold comK;rw[ga,gz]
 obtain⟨x,y⟩:=a
 obtain⟨xb,yb⟩:=z
 simp only at h7 h8 e9 i0 i1 i2 i3 f1 i4 i5 q1 Z q2 d1
 obtain⟨A,b3⟩:=vE ((List.range 16).map fun i=>if (cutL i l).length=0 then (⟨#[]⟩:vB)else refB (jab (f+1) (jag 1 (cutL i l))).text)
 obtain⟨q,a0⟩:=vE (if x.size=0 then y else (⟨#[]⟩:vB))
 have hn:jan (jab (f+1)) l=⟨3,⟨#[]⟩,q,A⟩:=by unfold jan;rw[if_neg vO,if_neg vO,if_neg hk,ga,b3,a0]
 rw[hn]at H;have ht:jab (f+1+1) l=.mk (jaU ⟨3,⟨#[]⟩,q,A⟩) (ksK (jab (f+1)) l 16):=by
  show PT.mk (jaU (jan _ l)) (jaq _ l)=_;rw[hn];unfold jaq;rw[if_neg vO,if_neg hk];rfl
 obtain⟨T,hT⟩:=vE (jab (f+1+1) l)
 rw[<-hT]at ht ⊢;have f4:A.length=16:=by rw[b3];simp
 have f5:∀ i,i < 16->A[i]?=some (if (cutL i l).length=0 then (⟨#[]⟩:vB)else refB (jab (f+1) (jag 1 (cutL i l))).text):=fun i hi=>by
  rw[b3,bZ,dV hi];rfl
 have a8:∀ i,(cutL i l).length≠0->jve (jab (f+1) (jag 1 (cutL i l))):=fun i hi =>
  (((good f _ (jdJ i hok)).2.1 (fun e=>by have:=jaA 1 (cutL i l);rw[e]at this;simp at this;omega)).kid)
 have d2:∀ p∈l,p.1.size<=1000000:=fun p hp=>by have:=(hok.size p hp).2.1;omega
 have f6:∀ i,∀ p∈cutL i l,1<=p.1.size/\p.1.size<=1000000:=fun i p hp=>by
  obtain⟨hm,a',r',e',_⟩:=jbq hp
  exact⟨by show 1<=p.1.data.toList.length;rw[show p.1.data.toList=a' :: r' from e'];simp,d2 p hm⟩
 have f8:∀ i,(cutL i l).length<=1000:=fun i=>bK (dX _ _) hln;have c0:((l.length:Int) == 0)=false:=by simp;exact fun e=>by rw[e]at h2;simp at h2
 have c1:¬(l.length:Int)=0:=vO
 have c2:((l.length:Int) == 1)=false:=by simp;omega
 have c3:¬(l.length:Int)=1:=vO
 have c4:(0:Int)<=(l.length:Int) - 1:=vO
 have c5:(l.length:Int) - 1 < (l.length:Int):=vO
 have c6:((l.length:Int) - 1).toNat=l.length - 1:=vO
 have c7:(0:Int) < (l.length:Int):=vO
 have d7:0 < l.length:=vO
 rw[<-c9]at hk;have d0:¬ 0 < kk:=hk;have e0:¬(0:Int) < (kk:Int):=vO
 have HT:=Hd ht;have Q1:=Hd q1;have i6:=Hd Z;have Q2:=Hd q2;have i7:=Hd d1;have HG:=Hd H;have i8:=Hd f3;have i9:=Hd d2;have j0:=Hd f6;have f9:=Hd f8;have e7:=Hd a8;have j1:=Hd f5;have a3:=Hd f4;have a9:=Hd a0;have j2:=Hd HB;have HC:=Hd hc;clear hc ha hz ga gz hok H f3 hcell q1 Z q2 c9 d1 d2 f6 f8 a8 f5 f4 a0 b3 hn ht hT HB e9 f1
 obtain⟨W1,a5⟩:=vE (w.alloc (.cells #[.string ⟨#[]⟩,.slice none 0 0] 170))
 go_enter Tryz.func70,Tryz.ntmps70;go_wp2_with (refine jal Tryz.allocNode rfl rfl ?_;intro W3 g0 d3;refine jah (vs:=jaV.cells) rfl rfl rfl rfl g0 rfl Tryz.szNode (jae.one _) ?_;intro W4 b4 d4;simp only[bN]at b4 d4)
 have b0:Ext W1 W4:=by
  rw[<-a5]at d3;exact d3.trans' d4 (fun x hx e=>by have e:x=w.heap.size+1:=e;rw[a5,bN]at hx;omega)
 have hh:=jtL w W1 W4 (w.heap.size+1) a5 b0 (by rw[a5,bN]) b4.lt;have g1:=Hd hh;have g2:=Hd b4;have HX:=Hd hh.row.ext;clear d3 d4 g0 a5 b4 b0 hh;refine jak [0,1,2,3,4,5,6,7,8,9,10,11,12,13] Ext ExtR ExtT vY vY vY ?_;iterate 3 refine vK ?_
 refine qKL ⟨b,o,none⟩ _ rfl (fun w1 h1=>jac Tryz.uStr rfl (jaa (jaa (by exact Q1.o) (HX.o.trans (jam _))) h1)) ?_;refine vS ?_;iterate 6 refine vK ?_
 refine qKL ⟨b,o+(l.length - 1) * 2,none⟩ _ rfl (fun w1 h1=>jac Tryz.uStr rfl (jaa (jaa (by exact Q2.o) (HX.o.trans (jam _))) h1)) ?_;refine vS ?_;refine qKC _ 110 #[.string x,.string xb] (.int .i64 (kk:Nat)) rfl (fun w1=>jaB (vX 110) vY) (fun w1 h1=>by rw[i7.o];exact (jfn w1 x xb vO vO).mono (fun e w2 ⟨h1,n,h2⟩=>⟨h1,by rw[h2];exact (ExtR w1).drewN n⟩)) ?_;refine vS ?_;iterate 2 refine vK ?_
 refine qKE (fun w5 E=>?_);have b5:=(jam W4).trans E;have J:=Hd (g1.o.ext b5);have b6:=Hd (g2.o.keeps b5 (fun h=>h));have HX:=Hd (HX.o.trans b5);clear E b5 g1 g2;have q0:=b6.o.cell (i:=0) (v:=.int .i64 0) vF;have f0:w5.frozen? ⟨w.heap.size+1,0,none⟩=false:=b6.o.frozen;have K6:=jad.oneSet w5 ⟨w.heap.size+1,0,none⟩ (.int .i64 3);have b7:=Hd (J.o.other K6);have b8:Hid (Blk (w5.setCell ⟨w.heap.size+1,0,none⟩ (.int .i64 3)) (w.heap.size+1) (.cells (brN A 0).cells.toArray 132)):=Hd (b6.o.set_same (i:=0) (.int .i64 3));clear K6 b6 J HX;go_wp2_with fail
 go_loopw [11] (fun i wr=>jwL w (w.heap.size+1) (jab (f+1)) l A i wr) (fun i _=>16 - (intOf i).toNat)
 case atStart=>exact⟨0,by omega,rfl,_,[],b7.o,by simp,b8.o⟩
 case round =>
  obtain⟨k,e8,rfl,u,bs,hH,k2,Q⟩:=hrel
  obtain⟨au,cu,hu⟩:=hH.row.sl
  subst hu;have HH:=Hd hH;have HB:=Hd Q;have HX:=Hd hH.row.ext;clear hH Q
  by_cases hlt:k < 16
  ·have b1:(k:Int) < 16:=vO
   have k3:=HH.o.ml;have QI:=Hd (show (wr.alloc (.cells #[.int .i64 (k:Int)] 3)).cell? ⟨wr.heap.size,0,none⟩=some (.int .i64 (k:Int))from(Blk.new wr _).cell vF);have g3:=jwe HH.o.row;have k4:w.heap.size < wr.heap.size:=HH.o.blk.lt;have NF:=Hd (show ¬(wr.heap.size=w.heap.size\/wr.heap.size=w.heap.size+1\/(Value.slice au bs.length cu).ownBlock=some wr.heap.size)from fun h=>by
    rcases h with h | h | h
    ·omega
    ·omega
    ·exact g3 h)
   clear g3;go_wp2_with fail
   refine ja0 [0,1,2,3,7,4,5,6,8,9] [4,5,6,9] Ext (jad (fun x=>x=w.heap.size\/x=w.heap.size+1\/(Value.slice au bs.length cu).ownBlock=some x)) ExtR ExtT (fun x y z h k=>jad.trans h k) (fun x y h=>h.mono (fun _ _ h=>h.elim)) vY vY vY ?_;refine qDL ⟨wr.heap.size,0,none⟩ _ rfl (fun w2 h2=>jac Tryz.uInt rfl (jaD (by exact QI.o) h2 (by exact NF.o))) ?_;refine vS ?_;iterate 4 refine vD ?_
   refine qDH _ rfl (fun w1 E K hK=>?_);have d5:=(((ExtR wr).alloc (.cells #[.int .i64 (k:Int)] 3)).trans (jam _)).trans E;have g4:=jaa (jaa QI.o (jam _)) E;refine jbD (jaB (vX 113) vY) ((jxq w1 _ wr.heap.size k l (i8.o.ext (HX.o.trans d5)) vO i9.o vO g4).mono ?_);rintro e w2 ⟨v2,n2,rfl,a6⟩;have g5:=Hd a6.rd;have g6:=Hd (d5.trans a6.ext)
   refine⟨_,rfl,hK _ _ (a6.ext.mono (fun _ _ h=>h.elim)) ?_⟩
   obtain⟨a2,c2,j3⟩:=a6.rd.sl
   subst j3;clear hK K E d5 g4 a6;refine vS ?_;refine qDH _ rfl (fun w3 E K hK=>?_);refine jbD (jaB (vX 112) vY) ((jmr w3 _ 1 (cutL k l) (g5.o.ext E) (by have:=f9.o k;omega) (j0.o k)).mono ?_);rintro e w4 ⟨v4,rfl,a7⟩;have g7:=Hd a7.rd;have j4:=Hd ((g6.o.trans E).trans a7.ext)
   refine⟨_,rfl,hK _ _ (a7.ext.mono (fun _ _ h=>h.elim)) ?_⟩
   obtain⟨a4,g8,j5⟩:=a7.rd.sl
   subst j5;clear hK K E a7 g5 g6;refine vS ?_;refine qDH _ rfl (fun d6 E K hK=>?_);have d8:=Hd (j4.o.trans E);have d9:=Hd (g7.o.ext E);have J:=Hd (HH.o.ext d8.o);have e1:=HC.o.ext (HX.o.trans d8.o)
   obtain⟨rk,b9⟩:=vE (if (cutL k l).length=0 then (⟨#[]⟩:vB)else refB (jab (f+1) (jag 1 (cutL k l))).text)
   refine jbD (f:=111) (args:=#[ptrV w.heap.size,.slice a4 (jag 1 (cutL k l)).length g8]) (jaB (vX 111) vY) ((show Calls _ _ _ _ (fun e w'=>∃ u' bs',e=.returned (.string rk)/\jdz w w' w.heap.size (w.heap.size+1) ⟨#[]⟩ (ksK (jab (f+1)) l (k+1)) u' bs'/\bs'.length<=bs.length+1/\Ext w w'/\jad (fun x=>x=w.heap.size\/(Value.slice au bs.length cu).ownBlock=some x) d6 w')from ?hold).mono ?_)
   case hold =>
    rw[jhA]
    by_cases hc0:(cutL k l).length=0
    ·rw[b9,if_pos hc0,if_pos hc0,bS,jaA,hc0]
     refine (jtM d6 w.heap.size a4 g8).mono ?_;rintro e w6 ⟨rfl,rfl⟩
     exact⟨_,bs,rfl,J.o,by omega,J.o.row.ext,jad.refl _ _⟩
    ·rw[b9,if_neg hc0,if_neg hc0]
     exact ju0 e1 J.o vO _ (jag 1 (cutL k l)) d9.o (fun e=>hc0 (by have:=jaA 1 (cutL k l);rw[e]at this;simpa using this.symm)) (by rw[jaA];have:=f9.o k;omega) _ (e7.o k hc0) (j2.o k hc0 d6 _ e1 d9.o)
   rintro e w6 ⟨u6,j6,rfl,h6,k5,j7,e2⟩
   refine⟨_,rfl,hK _ _ (e2.mono (fun x _ h=>h.elim .inl (fun h=>.inr (.inr h)))) ?_⟩
   have g9:=(HB.o.keeps d8.o (fun h=>h)).keeps e2 (fun h=>by
    rcases h with h | h
    ·omega
    ·exact HH.o.mb h)
   have b8:=Hd g9;have b7:=Hd h6;have j8:=Hd ((j1.o k hlt).trans (by rw[<-b9]));clear hK K E h6 j7 e2 g9 e1 b9 g7 d9 J;refine vS ?_
   refine vD ?_
   refine qDH _ rfl (fun w7 E K hK=>?_);have c8:=b8.o.keeps E (fun h=>h)
   obtain⟨old,q7⟩:∃ v,w7.cell? ⟨w.heap.size+1,3+k,none⟩=some v:=⟨_,c8.cellL (bA (by rw[jae.cells_len _ (jqy a3.o e8)];omega))⟩
   have f7:w7.frozen? ⟨w.heap.size+1,3+k,none⟩=false:=c8.frozen;have e3:=c8.set_same (i:=3+k) (.string rk);rw[show (brN A k).cells.toArray.setIfInBounds (3+k) (.string rk)=((brN A k).cells.set (3+k) (.string rk)).toArray by simp,jqz a3.o hlt rk j8.o]at e3;have h3:=Hd e3;have K8:=jad.oneSet w7 ⟨w.heap.size+1,3+k,none⟩ (.string rk);have h4:=Hd ((b7.o.ext E).other K8);have h5:=Hd (K8.mono (G:=fun x=>x=w.heap.size\/x=w.heap.size+1\/(Value.slice au bs.length cu).ownBlock=some x) (fun x _ e=>.inr (.inl e)));clear E c8 e3 K8 b8 b7;go_simp;refine hK _ _ h5.o ?_;clear hK K q7 f7;refine jco vY (fun w9 E=>?_);have j9:=Hd (h4.o.ext E);have k0:=Hd (h3.o.keeps E (fun h=>h));clear E h4 h3 h5;go_wp2_with fail
   go_roundw
   case rel=>exact⟨k+1,by omega,by go_num,u6,j6,j9.o,by omega,k0.o⟩
   case measure=>exact vJ
  ·have b2:k=16:=vO
   subst b2;have e4:brN A 16=⟨3,⟨#[]⟩,⟨#[]⟩,A⟩:=by unfold brN jat;rw[cD (by have:=a3.o;omega)];simp
   have Q:=HB.o;rw[e4]at Q;have q1:=jaa Q1.o HX.o
   by_cases hx0:x.size=0
   ·have k1:=jbp hx0
    have X:q=y:=by rw[a9.o,if_pos hx0]
    have Z:=jaa i6.o HX.o;subst k1;have q2:wr.cell? ⟨w.heap.size+1,2,none⟩=some (.string ⟨#[]⟩):=Q.cellL vF;have f2:wr.frozen? ⟨w.heap.size+1,2,none⟩=false:=Q.frozen;have e5:=Q.set_same (i:=2) (.string y);rw[show (jae.cells ⟨3,⟨#[]⟩,⟨#[]⟩,A⟩).toArray.setIfInBounds 2 (.string y)=(jae.cells ⟨3,⟨#[]⟩,y,A⟩).toArray by simp[jae.cells]]at e5;have a1:=Hd (show Blk (wr.setCell ⟨w.heap.size+1,2,none⟩ (.string y)) (w.heap.size+1) (.cells (jae.cells ⟨3,⟨#[]⟩,q,A⟩).toArray 132)from by rw[X];exact e5);have HH:=Hd (HH.o.other (jad.oneSet wr ⟨w.heap.size+1,2,none⟩ (.string y)));have HV:=Hd X;clear Q e5 e4 X;go_wp2_with (refine jaf 132 (.tmp 4) rfl rfl _ _ rfl (jax _ _ ⟨3,⟨#[]⟩,q,A⟩ a3.o a1.o) ?_)
    refine vH (jjs (inlP _) _ ⟨3,⟨#[]⟩,q,A⟩ HG.o) fun w9 hE=>?_;have h9:=HH.o.ext hE;have q0:w9.cell? ⟨w.heap.size,0,none⟩=some (.string ⟨#[]⟩):=h9.blk.cell (i:=0) vF;have f0:w9.frozen? ⟨w.heap.size,0,none⟩=false:=h9.blk.frozen;have H9:=Hd (h9.setText (jaU ⟨3,⟨#[]⟩,q,A⟩))
    obtain⟨tx,O⟩:=vE (jaU ⟨3,⟨#[]⟩,q,A⟩)
    rw[<-O]at H9 ⊢;have e6:=Hd O;clear h9 O;go_wp2_with fail
    go_ret
    exact⟨w.heap.size,rfl,by rw[HT.o, <-e6.o];exact H9.o.part,H9.o.row.ext⟩
   ·have k6:=jbe (s:=x) vO
    have X:q=⟨#[]⟩:=by rw[a9.o,if_neg hx0]
    rw[<-X]at Q;have a1:=Hd (show Blk wr (w.heap.size+1) (.cells (jae.cells ⟨3,⟨#[]⟩,q,A⟩).toArray 132)from by rw[X]at Q ⊢;exact Q);have HV:=Hd X;clear Q e4 X;go_wp2_with (refine jaf 132 (.tmp 4) rfl rfl _ _ rfl (jax _ _ ⟨3,⟨#[]⟩,q,A⟩ a3.o a1.o) ?_)
    refine vH (jjs (inlP _) _ ⟨3,⟨#[]⟩,q,A⟩ HG.o) fun w9 hE=>?_;have h9:=HH.o.ext hE;have q0:w9.cell? ⟨w.heap.size,0,none⟩=some (.string ⟨#[]⟩):=h9.blk.cell (i:=0) vF;have f0:w9.frozen? ⟨w.heap.size,0,none⟩=false:=h9.blk.frozen;have H9:=Hd (h9.setText (jaU ⟨3,⟨#[]⟩,q,A⟩))
    obtain⟨tx,O⟩:=vE (jaU ⟨3,⟨#[]⟩,q,A⟩)
    rw[<-O]at H9 ⊢;have e6:=Hd O;clear h9 O;go_wp2_with fail
    go_ret
    exact⟨w.heap.size,rfl,by rw[HT.o, <-e6.o];exact H9.o.part,H9.o.row.ext⟩
theorem jjT:∀ (f:Nat) (l:vL),jar f l->l.length<=1000->jhI l (jab (f+1) l)
 | f,l,hok,hln=>by
  by_cases h0:l.length=0
  ·exact jpb f l h0
  by_cases h1:l.length=1
  ·exact jqB f l h1 hok
  have e:2<=l.length:=vO
  cases f with
  | zero =>
   exfalso
   obtain⟨a,A⟩:∃ a,l[0]?=some a:=⟨_,bA vO⟩
   obtain⟨b,hb⟩:∃ b,l[1]?=some b:=⟨_,bA vO⟩
   have o:=jcy hok.rise vO A hb
   have:=(hok.size b (bI hb)).1
   rw[show b.l=[]from bE (by show b.1.size=0;omega)]at o;exact not_lt_nil _ o
  | succ f =>
   by_cases hk:0 < comK l
   ·exact jqA f l e hln hok hk (jjT f _ ((jcm (comK l) hok (fun p z q E=>((jbr hok e p z).1).trans (jbr hok e q E).1.symm) (fun p z=>(jbr hok e p z).2)).mono vO) (by rw[jaA];exact hln))
   ·exact jk9 f l e hln hok hk (fun i _=>jjT f _ (jdJ i hok) (by rw[jaA];exact bK (dX _ _) hln))
theorem jlP(b:vU):(b >>> 4).toNat=b.toNat / 16:=by
 have:∀ c:Fin 256,(UInt8.ofNat c.1 >>> 4).toNat=c.1 / 16:=by decide
 have h:=this ⟨b.toNat,b.toNat_lt⟩;simpa using h
theorem jlQ(b:vU):(b &&& 15).toNat=b.toNat % 16:=by
 have:∀ c:Fin 256,(UInt8.ofNat c.1 &&& 15).toNat=c.1 % 16:=by decide
 have h:=this ⟨b.toNat,b.toNat_lt⟩;simpa using h
theorem jrz:∀ (a b:vN),Lt a b->Lt (jcM a) (jcM b)
 | a,[],h=>absurd h (not_lt_nil _)
 | [],y :: b,_=>rfl
 | x :: a,y :: b,h=>by
  show Lt ((x >>> 4) ::(x &&& 15) :: jcM a) ((y >>> 4) ::(y &&& 15) :: jcM b);have e:=jlP x;have o:=jlP y;have q:=jlQ x;have z:=jlQ y;rcases jbu.1 h with h |⟨he,h2⟩
  ·have h:=dW.1 h
   by_cases hh:x.toNat / 16 < y.toNat / 16
   ·exact jbu.2 (.inl (dW.2 vO))
   ·refine jbu.2 (.inr ⟨dR.1 vO,jbu.2 (.inl (dW.2 vO))⟩)
  ·subst he;exact jbu.2 (.inr ⟨rfl,jbu.2 (.inr ⟨rfl,jrz a b h2⟩)⟩)
theorem jcV(s:vB):jaG (jbv s)=true:=by
 unfold jaG jbv;rw[dS];intro x e;have e:x∈jcM s.data.toList:=e;unfold jcM at e
 obtain⟨b,_,hb⟩:=cO.1 e
 have q:=jlP b;have z:=jlQ b;have A:=b.toNat_lt;have o:(15:vU).toNat=15:=rfl;refine decide_eq_true (fT.2 ?_);rcases bJ.1 hb with rfl | hb
 ·omega
 ·rw[bO.1 hb];omega
theorem je3(s:vB):(jbv s).size=2 * s.size:=by
 show (jcM s.data.toList).length=2 * s.data.toList.length;unfold jcM;induction s.data.toList with
 | nil=>rfl
 | cons x r ih=>rw[cF,bF,ih,bP,bP,bP,dN];omega
structure jsV(l:vL):Prop where
 size:∀ p∈l,0 < p.1.size/\p.1.size<=6/\0 < p.2.size/\p.2.size<=80
 rise:l.Pairwise fun p q=>Lt p.l q.l
 len:l.length<=40
theorem jdH:∀ (a b c:vN),Lt a b->Lt b c->Lt a c
 | a,b,[],_,h=>absurd h (not_lt_nil _)
 | a,[],z :: c,h,_=>absurd h (not_lt_nil _)
 | [],y :: b,z :: c,_,_=>rfl
 | x :: a,y :: b,z :: c,h1,h2=>by
  rcases jbu.1 h1 with h |⟨rfl,h⟩
  ·rcases jbu.1 h2 with h' |⟨rfl,h'⟩
   ·exact jbu.2 (.inl (UInt8.lt_trans h h'))
   ·exact jbu.2 (.inl h)
  ·rcases jbu.1 h2 with h' |⟨rfl,h'⟩
   ·exact jbu.2 (.inl h')
   ·exact jbu.2 (.inr ⟨rfl,jdH a b c h h'⟩)
theorem jau{l:vL}(h:jap l=0):jsV l:=by
 unfold jap at h;split at h
 ·cases h
 rename_i hb
 split at h
 ·cases h
 rename_i hl
 have A:∀ i,i < l.length->badN l i=false:=fun i o=>by
  cases hbi:badN l i with
  | false=>rfl
  | true=>exact absurd (fE.2 ⟨i,dJ.2 o,hbi⟩) hb
 refine⟨fun p O=>?_,?_,by omega⟩
 ·obtain⟨i,o⟩:=fZ O
  have q:=A i (bU.1 o).1;have Q:l.getD i (⟨#[]⟩,⟨#[]⟩)=p:=by rw[bG,o];rfl
  unfold badN at q;rw[Q]at q;simp only[gM,Bool.not_eq_false']at q;have z:=q.1.1;have H:=q.1.2;unfold jdG at z;unfold jcX at H;simp only[decide_eq_true_eq]at z H
  exact⟨z.1,z.2,H.1,H.2⟩
 ·have E:∀ i,i+1 < l.length->Lt (l.getD i pd).l (l.getD (i+1) pd).l:=fun i o=>by
   have q:=A (i+1) o;unfold badN at q;simp only[gM,Bool.and_eq_false_iff,Bool.not_eq_false']at q;rcases q.2 with z | z
   ·simp at z
   ·rw[Nat.add_sub_cancel]at z
    have:Op.bytesLess (l.getD i pd).1.toList (l.getD (i+1) pd).1.toList=true:=z
    rw[bX,bX]at this;exact this
  rw[gO];intro i j o X Z;have e:∀ k (K:k < l.length),l.getD k pd=l[k]:=fun k K=>by rw[bG,bA K];rfl
  have J:∀ d,∀ i,i+d+1 < l.length->Lt (l.getD i pd).l (l.getD (i+d+1) pd).l:=by
   intro d;induction d with
   | zero=>exact fun i o=>E i o
   | succ d ih=>exact fun i o=>jdH _ _ _ (ih i vO) (E (i+d+1) o)
  have:=J (j - i - 1) i vO
  rw[show i+(j - i - 1)+1=j by omega,e i o,e j X]at this;exact this
theorem jbm{l:vL}(h:jsV l):jar 12 (jaP l):=by
 refine⟨fun p e=>?_,?_⟩
 ·obtain⟨q,o,rfl⟩:=bH.1 e
  obtain⟨E,H,z,A⟩:=h.size q o
  have J:=je3 q.1
  exact⟨by show (jbv q.1).size<=_;omega,by show (jbv q.1).size<=_;omega,jcV _,z,A⟩
 ·unfold jaP
  rw[List.pairwise_map];exact h.rise.imp fun {p q} h=>jrz _ _ h
def jav(l:vL):PT:=jab 13 (jaP l)
section
attribute [local go_sem] Oper.semAt_some
inductive AT where
 | mk (b:Nat) (text:vB) (v:vV) (kids:List AT)
def AT.root:AT->Nat | .mk b _ _ _=>b
mutual
def AtIs(A:Nat->Prop):AT->vW->Prop
 | .mk b t v ks,W=>A b/\Blk W b (.cells #[.string t,v] 170)/\RdQ A W v (ks.map AT.root)/\jep A ks W
def jep(A:Nat->Prop):List AT->vW->Prop
 | [],_=>True
 | k :: ks,W=>AtIs A k W/\jep A ks W
end
mutual
def AT.pt:AT->PT
 | .mk _ t _ ks=>.mk t (AT.pts ks)
def AT.pts:List AT->List PT
 | []=>[]
 | k :: ks=>AT.pt k :: AT.pts ks
end
mutual
def jao:PT->vM
 | .mk t ks=>t :: jaz ks
def jaz:List PT->vM
 | []=>[]
 | k :: ks=>jao k++jaz ks
end
mutual
theorem jxl{A:Nat->Prop}{W:vW}:∀ (T:PT) (b:Nat),jbL A T b W->∃ a:AT,a.root=b/\a.pt=T/\AtIs A a W
 | .mk t ks,b,h=>by
  unfold jbL at h
  obtain⟨e,v,o,q,z,E⟩:=h
  obtain⟨H,J,K,O⟩:=juN ks o E
  exact⟨.mk b t v H,rfl,by unfold AT.pt;rw[K],by unfold AtIs;exact⟨e,q,by rw[J];exact z,O⟩⟩
theorem juN{A:Nat->Prop}{W:vW}:∀ (ks:List PT) (bs:List Nat),jaR A ks bs W->∃ e:List AT,e.map AT.root=bs/\AT.pts e=ks/\jep A e W
 | [],bs,h=>by
  unfold jaR at h;subst h
  exact⟨[],rfl,by unfold AT.pts;rfl,by unfold jep;trivial⟩
 | x :: ks,bs,h=>by
  unfold jaR at h
  obtain⟨b,r,rfl,o,q⟩:=h
  obtain⟨a,z,E,H⟩:=jxl x b o
  obtain⟨e,J,K,O⟩:=juN ks r q
  exact⟨a :: e,by rw[bL,z,J],by unfold AT.pts;rw[E,K],by unfold jep;exact⟨H,O⟩⟩
end
mutual
theorem AtIs.keeps{A:Nat->Prop}{F:BSet}{W W':vW}(k:jad F W W')(hF:∀ x,A x->¬ F x):∀ (a:AT),AtIs A a W->AtIs A a W'
 | .mk b t v ks,h=>by
  unfold AtIs at *
  obtain⟨e,o,q,z⟩:=h
  exact⟨e,o.keeps k (hF b e),q.keeps k hF,jep.keeps k hF ks z⟩
theorem jep.keeps{A:Nat->Prop}{F:BSet}{W W':vW}(k:jad F W W')(hF:∀ x,A x->¬ F x):∀ (ks:List AT),jep A ks W->jep A ks W'
 | [],_=>by unfold jep;trivial
 | x :: ks,h=>by
  unfold jep at *
  exact⟨AtIs.keeps k hF x h.1,jep.keeps k hF ks h.2⟩
end
theorem jep.get{A:Nat->Prop}{W:vW}:∀ (ks:List AT) (j:Nat) (a:AT),jep A ks W->ks[j]?=some a->AtIs A a W
 | [],j,a,_,h=>by simp at h
 | x :: ks,0,a,h,hj=>by simp at hj;subst hj;unfold jep at h;exact h.1
 | x :: ks,j+1,a,h,hj=>by unfold jep at h;exact jep.get ks j a h.2 (by simpa using hj)
theorem jls:∀ (ks:List AT) (j:Nat) (a:AT),ks[j]?=some a->jaz (AT.pts (ks.take (j+1)))=jaz (AT.pts (ks.take j))++jao a.pt
 | [],j,a,h=>by simp at h
 | x :: ks,0,a,h=>by
  simp at h;subst h;simp[AT.pts,jaz]
 | x :: ks,j+1,a,h=>by
  have:=jls ks j a (by simpa using h)
  simp only[fH,AT.pts,jaz,this,bW]
theorem jnU:∀ (ks:List AT) (j:Nat),∃ r,jaz (AT.pts ks)=jaz (AT.pts (ks.take j))++r
 | ks,0=>⟨jaz (AT.pts ks),by simp[AT.pts,jaz]⟩
 | [],j+1=>⟨[],by simp[AT.pts,jaz]⟩
 | x :: ks,j+1=>by
  obtain⟨r,h⟩:=jnU ks j
  exact⟨r,by simp only[fH,AT.pts,jaz,h,bW]⟩
def jd0(L m:vM)(p:Nat):Prop:=∀ j x,m[j]?=some x->L[p+j]?=some x
theorem jd0.left{L m n:vM}{p:Nat}(h:jd0 L (m++n) p):jd0 L m p:=fun j x e=>h j x (by rw[cU (bU.1 e).1];exact e)
theorem jd0.right{L m n:vM}{p:Nat}(h:jd0 L (m++n) p):jd0 L n (p+m.length):=fun j x e=>by
 have:=h (m.length+j) x (by rw[cX vO,Nat.add_sub_cancel_left];exact e)
 rw[Nat.add_assoc];exact this
theorem jd0.le{L m:vM}{p:Nat}(h:jd0 L m p)(hm:m≠[]):p+m.length<=L.length:=by
 have e:0 < m.length:=gB.2 hm
 have:=h (m.length - 1) _ (bA vO)
 have:=(bU.1 this).1
 omega
theorem jtD(T:PT):1<=(jao T).length:=by cases T;unfold jao;simp
theorem jnT:∀ (ks:List AT),ks.length<=(jaz (AT.pts ks)).length
 | []=>by simp
 | x :: ks=>by
  have:=jnT ks
  have:=jtD x.pt
  simp only[AT.pts,jaz,bF,bP];omega
def jjM(C Cx:Nat->vW->Prop)(n N:Nat)(e:Ending)(W':vW):Prop:=(e=.returned (.bool true)/\C n W')\/(e=.returned (.bool false)/\∃ q,0 < q/\q<=N/\Cx q W')
def jvo(C:Nat->vW->Prop)(p:Nat)(ks:List AT)(v:vV)(wr:vW):Prop:=∃ j:Nat,j<=ks.length/\v=.int .i64 j/\C (p+1+(jaz (AT.pts (ks.take j))).length) wr
theorem jsK(A:Nat->Prop)(l:Nat)(C Cx:Nat->vW->Prop)(hC:∀ k,St (C k))(L:vM)(hLn:L.length<=1000000)
  (hY:∀ j q,j < L.length->C j q->jp7 Tryz.prog l #[.string (L.getD j ⟨#[]⟩)] q (C (j+1)) (Cx (j+1)))
  (b:Nat) (t:vB) (v:vV) (ks:List AT)
  (IHk:∀ a∈ks,∀ (p:Nat) (W:vW),jd0 L (jao a.pt) p->(∀ j q,C j q->AtIs A a q)->C p W ->
   CallsIn Fence.wide 0 Tryz.prog 116 #[ptrV a.root,.func (.yield l) #[] #[]] W (jjM C Cx (p+(jao a.pt).length) L.length))
  (p:Nat) (W:vW) (hL:jd0 L (jao (AT.mk b t v ks).pt) p) (hS:∀ j q,C j q->AtIs A (.mk b t v ks) q) (h0:C p W) :
   CallsIn Fence.wide 0 Tryz.prog 116 #[ptrV b,.func (.yield l) #[] #[]] W (jjM C Cx (p+(jao (AT.mk b t v ks).pt).length) L.length):=by
  have e1:jao (AT.pt (.mk b t v ks))=t :: jaz (AT.pts ks):=by unfold AT.pt jao;rfl
  rw[e1]at hL ⊢;have hp:p < L.length:=by have:=hL 0 t rfl;exact (bU.1 this).1
  have hg:L.getD p ⟨#[]⟩=t:=by rw[bG];have:=hL 0 t rfl;rw[gU]at this;rw[this];rfl
  have H:∀ j q,C j q->Blk q b (.cells #[.string t,v] 170)/\RdQ A q v (ks.map AT.root)/\jep A ks q:=fun j q h=>by
   have:=hS j q h;unfold AtIs at this;exact this.2
  obtain⟨fn,tm,b4,bd,X,a3⟩:=hY p W hp h0
  rw[hg]at X;have q0:=(H p W h0).1.cell (i:=0) (v:=.string t) vF
  obtain⟨av,cv,hv⟩:=(H p W h0).2.1.sl
  rw[cC]at hv;subst hv;have b5:ks.length<=1000000:=by
   have h1:=jnT ks;have h2:=hL.le (by simp);simp only[bP]at h2;omega
  have a4:=Hd a3;have HS:=Hd H;have HY:=Hd hY;have HC:=Hd hC;have a5:=Hd IHk;have HL:=Hd hL;clear H hS a3 hg h0 e1 hL hY hC IHk;unfold ptrV;refine callsIn_of_wp Tryz.func116 rfl trivial ?_ rfl;simp only[Tryz.ntmps116,dB,bP,dN,Nat.reduceAdd,Nat.reduceSub,dG,dF,dU,dM,cP,cV];gi_wp2_with fail
  refine⟨rfl,a4.o.mono ?_⟩
  rintro e w5 (⟨rfl,C5⟩ |⟨rfl,C5⟩)
  ·have q1:=(HS.o _ _ C5).1.cell (i:=1) (v:=.slice av ks.length cv) vF
   have J:=Hd C5;clear C5 q0 X;gi_wp2_with fail
   gi_loopw [19] (fun v wr=>jvo C p ks v wr) (fun v _=>ks.length - (intOf v).toNat)
   case atStart=>exact⟨0,by omega,rfl,by simpa [AT.pts,jaz]using J.o⟩
   case round =>
    obtain⟨j,hj,rfl,z⟩:=hrel
    by_cases hlt:j < ks.length
    ·obtain⟨a6,Z,a7⟩:=HS.o _ _ z
     obtain⟨a,ha⟩:∃ a,ks[j]?=some a:=⟨_,bA hlt⟩
     have K:a∈ks:=bI ha;have a0:=jls ks j a ha
     obtain⟨a2,O⟩:=jnU ks (j+1)
     have Q:jd0 L (jao a.pt) (p+1+(jaz (AT.pts (ks.take j))).length):=by
      have h1:jd0 L ([t]++(jaz (AT.pts (ks.take j))++(jao a.pt++a2))) p:=by
       have:=HL.o
       rw[O,a0,bW]at this;exact this
      exact (h1.right.right).left
     rcases Z with⟨_,h0⟩ |⟨g,c,hh,_,_,_,_,hcell⟩
     ·rw[List.map_eq_nil_iff]at h0;rw[h0]at hlt;cases hlt
     obtain⟨rfl,a8,a9⟩:=fR hh
     clear a8 a9;have qj:wr.cell? ⟨g,j,none⟩=some (ptrV a.root):=hcell j a.root (by rw[bZ,ha];rfl)
     obtain⟨ar,a1⟩:=vE a.root
     rw[<-a1]at qj;have b1:(j:Int) < (ks.length:Int):=vO
     have ih:=a5.o a K _ wr Q (fun j' q h=>jep.get ks j a (HS.o j' q h).2.2 ha) z;rw[<-a1]at ih;have IH:=Hd ih;have b0:=Hd a0;unfold ptrV at qj;clear a6 a7 hcell hh O Q ih a0 z ha a1 q1 K J;gi_wp2_with fail
     refine⟨trivial,rfl,IH.o.mono ?_⟩
     rintro e w6 (⟨rfl,C6⟩ |⟨rfl,q',Z,b2,C6⟩)
     ·have E:=Hd C6
      clear C6;gi_wp2_with fail
      go_roundw
      case rel=>exact⟨j+1,by omega,by go_num,by rw[b0.o,bF, <-Nat.add_assoc];exact E.o⟩
      case measure=>exact vJ
     ·have E:=Hd C6
      clear C6;gi_wp2_with fail
      go_ret;exact .inr ⟨rfl,q',Z,b2,E.o⟩
    ·have b3:j=ks.length:=vO
     subst b3;rw[cG]at z;have E:=Hd z;clear z;gi_wp2_with fail
     go_ret;exact .inl ⟨rfl,by rw[show p+((jaz (AT.pts ks)).length+1)=p+1+(jaz (AT.pts ks)).length by omega];exact E.o⟩
  ·have J:=Hd C5
   clear C5 q0 X;gi_wp2_with fail
   go_ret;exact .inr ⟨rfl,p+1,by omega,by omega,J.o⟩
theorem jsJ(A:Nat->Prop)(l:Nat)(C Cx:Nat->vW->Prop)(hC:∀ k,St (C k))(L:vM)(hLn:L.length<=1000000)
  (hY:∀ j W',j < L.length->C j W'->jp7 Tryz.prog l #[.string (L.getD j ⟨#[]⟩)] W' (C (j+1)) (Cx (j+1))) :
  ∀ (a:AT) (p:Nat) (W:vW),jd0 L (jao a.pt) p->(∀ j W',C j W'->AtIs A a W')->C p W ->
   CallsIn Fence.wide 0 Tryz.prog 116 #[ptrV a.root,.func (.yield l) #[] #[]] W (jjM C Cx (p+(jao a.pt).length) L.length)
 | .mk b t v ks,p,W,hL,hS,h0=>jsK A l C Cx hC L hLn hY b t v ks (fun a e=>jsJ A l C Cx hC L hLn hY a) p W hL hS h0
termination_by a=>SizeOf.sizeOf a
decreasing_by
 have:=List.sizeOf_lt_of_mem e
 simp
 omega
def jqe(L:vM)(k:Nat):Array vV:=#[.string (L.getD k ⟨#[]⟩)]
theorem jxi(A:Nat->Prop)(bx:Nat)(a:AT)(hLn:(jao a.pt).length<=1000000):jsU Tryz.prog 115 #[.pointer (some ⟨bx,0,none⟩)] (jao a.pt).length (jqe (jao a.pt)) (fun W=>Blk W bx (.cells #[ptrV a.root] 122)/\AtIs A a W):=by
 intro l C Cx Z q z W hY E;have hT:=jsJ A l C Cx Z (jao a.pt) hLn (fun j H hj hc=>hY j H hj hc) a 0 W (fun j x hx=>by rw[cM];exact hx) (fun j H h=>(z j H h).2) E;have q0:=(z 0 W E).1.cell (i:=0) (v:=ptrV a.root) vF;have HT:=Hd hT;clear hT hY Z q z E;unfold ptrV at q0
 obtain⟨r,J⟩:=vE a.root
 rw[<-J]at q0 HT;have HR:=Hd J;clear J;refine callsIn_of_wp Tryz.func115 rfl trivial ?_ rfl;simp only[Tryz.ntmps115,dB,bP,dN,Nat.reduceAdd,Nat.reduceSub,dG,dF,dU,dM,cP,cV];gi_wp2_with fail
 refine⟨trivial,rfl,HT.o.mono ?_⟩
 rintro e w5 (⟨rfl,C5⟩ |⟨rfl,q',K,O,C6⟩)
 ·have Q:=Hd C5
  clear C5;gi_wp2_with fail
  refine bodyPost_end (results_none rfl _ _ _) rfl ?_
  exact⟨⟨_,rfl⟩,.inl (by have:=Q.o;rw[cM]at this;exact this)⟩
 ·have X:=Hd C6
  clear C6;gi_wp2_with fail
  refine bodyPost_end (results_none rfl _ _ _) rfl ?_
  exact⟨⟨_,rfl⟩,.inr ⟨q',O,K,X.o⟩⟩
theorem jyz(w:vW)(k:Nat):vQ 72 #[ptrV k] w fun e w'=>e=.returned (.func (.func 115) #[] #[.pointer (some ⟨w.heap.size,0,none⟩)])/\Blk w' w.heap.size (.cells #[ptrV k] 122)/\Ext w w':=by
 unfold ptrV;go_enter Tryz.func72,Tryz.ntmps72;go_wp2_with fail
 go_ret
 exact⟨rfl,Blk.new w _,(ExtR w).alloc _⟩
def memB(acc:vM)(x:vB):Bool:=(acc.map (·.data.toList)).contains x.data.toList
theorem jfs(acc:vM)(x:vB):memB acc x=true↔x∈acc:=by
 unfold memB;rw[cT,bH]
 exact⟨fun ⟨y,o,e⟩=>by rw[<-show y=x from ByteArray.ext (Array.ext' e)];exact o,fun h=>⟨x,h,rfl⟩⟩
def addF(acc:vM)(x:vB):vM:=if memB acc x=true then acc else acc++[x]
def ja8(l:vM):vM:=l.foldl addF []
theorem jsX(acc:vM)(x y:vB):y∈addF acc x↔y∈acc\/y=x:=by
 unfold addF;split
 ·rename_i h;exact⟨.inl,fun o=>o.elim id (fun e=>e ▸ (jfs _ _).1 h)⟩
 ·simp
theorem jaM(l:vM)(y:vB):y∈ja8 l↔y∈l:=by
 unfold ja8
 suffices ∀ e,y∈l.foldl addF e↔y∈e\/y∈l by simpa using this []
 induction l with
 | nil=>intro e;simp
 | cons x r ih=>intro e;rw[dO,ih,jsX,bJ];exact or_assoc
theorem jfV(l:vM)(x:vB):ja8 (l++[x])=addF (ja8 l) x:=by
 unfold ja8;rw[fN];rfl
theorem jgV(l:vM):(ja8 l).length<=l.length:=by
 unfold ja8
 suffices ∀ e,(l.foldl addF e).length<=e.length+l.length by simpa using this []
 induction l with
 | nil=>intro e;simp
 | cons x r ih =>
  intro e;rw[dO,bP];have o:=ih (addF e x);have q:(addF e x).length<=e.length+1:=by unfold addF;split <;> simp
  omega
theorem jcR{K:Type}[DecidableEq K](k:K)(v:vV)(n:Nat)(k':K):∀ (l:List (Ent K)),jaS (jbj l k v n) k'=if k'=k then some v else jaS l k'
 | []=>by
  by_cases h:k'=k
  ·subst h;simp[jbj,jaS]
  ·simp[jbj,jaS,h]
 | x :: r=>by
  have z:=jcR k v n k' r;unfold jbj
  by_cases hk:k=x.1
  ·rw[if_pos hk]
   by_cases h:k'=k
   ·subst h;simp[jaS]
   ·have o:¬ k'=x.1:=fun e=>h (e.trans hk.symm)
    simp[jaS,h,o]
  ·rw[if_neg hk]
   by_cases h:k'=x.1
   ·have o:¬ k'=k:=fun e=>hk (e.symm.trans h)
    rw[if_neg o];simp[jaS,h]
   ·have q:∀ l,jaS (x :: l) k'=jaS l k':=fun l=>by simp[jaS,h]
    rw[q,q,z]
def cntB(l:vM)(x:vB):Nat:=(l.map (·.data.toList)).count x.data.toList
def cntV(n:Nat):Option vV:=if n=0 then none else some (.int .i64 (n:Int))
theorem Tryz.uMapSI:Tryz.prog.underlying 98=some (.map 9 3):=vY
noncomputable abbrev Tryz.ES:ja1 Tryz.prog 9 (vN):=jxM Tryz.uStr
theorem Tryz.zeroI(w:vW):(zeroValue 3).run Tryz.prog w=.ok (.int .i64 0) w:=vY
structure NodS(w:World)(g m:Nat)(A:Nat->Prop)(bx:Nat)(a:AT)(L:vM)(k:Nat)(W:World):Prop where
 ext:Ext w W
 var:∃ v n,Blk W g (.cells #[v] 22)/\W.ownsRow 0 9 1 v n ((ja8 (L.take k)).map Value.string)/\n<=k/\∀ b,v.ownBlock=some b->m+2<=b
 tab:∃ es ck,Blk W (g+1) (.map (Tryz.ES.arr es) ck)/\∀ x:vB,jaS es x.data.toList=cntV (cntB (L.take k) x)
 mv:Blk W (g+2) (.cells #[.map (some (g+1))] 98)
 box:Blk W bx (.cells #[ptrV a.root] 122)
 at':AtIs A a W
theorem NodS.st{w:vW}{g m:Nat}{A:Nat->Prop}{bx:Nat}{a:AT}{L:vM}{k:Nat}{W W':vW}(h:NodS w g m A bx a L k W)(e:Ext W W'):NodS w g m A bx a L k W':=
 let ⟨v,n,h1,h2,h3,h4⟩:=h.var
 let ⟨es,ck,h5,h6⟩:=h.tab
 ⟨h.ext.trans e,⟨v,n,h1.keeps e (fun h=>h),jbl h2 e,h3,h4⟩,⟨es,ck,h5.keeps e (fun h=>h),h6⟩,h.mv.keeps e (fun h=>h),h.box.keeps e (fun h=>h),AtIs.keeps e (fun _ _ h=>h) a h.at'⟩
theorem NodS.put{w:vW}{g m:Nat}{A:Nat->Prop}{bx:Nat}{a:AT}{L:vM}{k:Nat}{W:vW}(h:NodS w g m A bx a L k W){r:Nat}(hr:w.heap.size<=r)(h1:g+2 < r)(h2:r < m+2)(h3:bx≠r)(h4:∀ x,A x->x≠r)(o:Obj):NodS w g m A bx a L k (W.putObj r o):=
 let ⟨v,n,h5,h6,h7,h8⟩:=h.var
 let ⟨es,ck,h9,h10⟩:=h.tab
 ⟨h.ext.putObj (.inr hr) _,⟨v,n,h5.put_other vO _,ja4 h6 (jad.onePut W r o) (fun b hb e=>by have:=h8 b hb;omega),h7,h8⟩,⟨es,ck,h9.put_other vO _,h10⟩,h.mv.put_other vO _,h.box.put_other h3 _,
  AtIs.keeps (jad.onePut W r o) (fun x q e=>h4 x q e) a h.at'⟩
end
def jc7(l:vL):Nat->Nat
 | 0=>0
 | n+1=>jc7 l n+(cutL n l).length
def hN(L:vN)(n:Nat):Nat:=match L with | []=>0 | a :: _=>if a.toNat < n then 1 else 0
theorem jvR(p:Pair)(n:Nat):hN p.l (n+1)=hN p.l n+(if je4 n p=true then 1 else 0):=by
 have e:je4 n p=match p.l with | []=>false | a :: _=>a.toNat == n:=rfl
 rw[e];cases p.l with
 | nil=>rfl
 | cons a r =>
  simp only[hN,beq_iff_eq]
  by_cases h1:a.toNat=n
  ·rw[if_pos vO,if_neg vO,if_pos h1]
  ·by_cases h3:a.toNat < n
   ·rw[if_pos vO,if_pos h3,if_neg h1]
   ·rw[if_neg vO,if_neg h3,if_neg h1]
theorem jxJ(L:vN)(n:Nat):hN L n<=1:=by
 cases L with
 | nil=>exact cB _
 | cons a r=>simp only[hN];split <;> omega
theorem jfQ(p:Pair)(l:vL):∀ n,jc7 (p :: l) n=jc7 l n+hN p.l n
 | 0=>by
  have:hN p.l 0=0:=by cases p.l <;> simp[hN]
  rw[this];rfl
 | n+1=>by
  have h:(cutL n (p :: l)).length=(cutL n l).length+(if je4 n p=true then 1 else 0):=by
   unfold cutL;rw[dP];split <;> simp
  unfold jc7;rw[jfQ p l n,h,jvR];omega
theorem jeP:∀ (l:vL) (n:Nat),jc7 l n<=l.length
 | [],n=>by
  have:∀ n,jc7 [] n=0:=fun n=>by induction n with
   | zero=>rfl
   | succ n ih=>unfold jc7;rw[ih];rfl
  rw[this];exact cB _
 | p :: l,n=>by
  rw[jfQ,bP]
  have:=jeP l n
  have:=jxJ p.l n
  omega
theorem jdn:∀ (a b:List PT),jaz (a++b)=jaz a++jaz b
 | [],b=>by simp[jaz]
 | x :: a,b=>by simp only[cV,jaz,jdn a b,bW]
theorem jij(T:PT):(jaz (jbt T)).length<=(jao T).length:=by
 unfold jbt;split <;> simp[jaz]
theorem jxN(B:vL->PT)(F:Nat)(l:vL)(hB:∀ i,(cutL i l).length≠0->(jao (B (jag 1 (cutL i l)))).length<=F * (cutL i l).length):∀ n,(jaz (ksK B l n)).length<=F * jc7 l n
 | 0=>by simp[ksK,jaz,jc7]
 | n+1=>by
  rw[jhA,jdn,bF];unfold jc7;rw[Nat.mul_add]
  have:=jxN B F l hB n
  by_cases h0:(cutL n l).length=0
  ·rw[if_pos h0];simp[jaz];omega
  ·rw[if_neg h0]
   have e:=hB n h0;have o:=jij (B (jag 1 (cutL n l)));omega
theorem jmS:∀ (f:Nat) (l:vL),l≠[]->(jao (jab (f+1) l)).length<=(f+1) * l.length
 | f,l,hl=>by
  have z:1<=l.length:=gB.2 hl;show (jao (.mk (jaU (jan (jab f) l)) (jaq (jab f) l))).length<=_;unfold jao;rw[bP];have A:(jaz (jaq (jab f) l)).length<=f * l.length:=by
   unfold jaq;split
   ·simp[jaz]
   ·split
    ·cases f with
     | zero =>
      have h:=jij (jab 0 (jag (comK l) l));have E:jbt (jab 0 (jag (comK l) l))=[]:=rfl;rw[E];simp[jaz]
     | succ f =>
      have h:=jij (jab (f+1) (jag (comK l) l));have o:=jmS f (jag (comK l) l) (fun e=>by have:=jaA (comK l) l;rw[e]at this;simp at this;omega);rw[jaA]at o;omega
    ·cases f with
     | zero =>
      have:∀ n,ksK (jab 0) l n=[]:=fun n=>by
       induction n with
       | zero=>rfl
       | succ n o =>
        rw[jhA,o];split
        ·rfl
        ·rfl
      have q:=this 16;unfold ksK at q;rw[q];simp[jaz]
     | succ f =>
      have h:=jxN (jab (f+1)) (f+1) l (fun i K=>by
       have o:=jmS f (jag 1 (cutL i l)) (fun e=>by have:=jaA 1 (cutL i l);rw[e]at this;simp at this;omega)
       rwa [jaA]at o) 16
      have H:=Nat.mul_le_mul_left (f+1) (jeP l 16);have J:ksK (jab (f+1)) l 16=(List.range 16).flatMap fun i=>if (cutL i l).length=0 then []else jbt (jab (f+1) (jag 1 (cutL i l))):=rfl
      rw[<-J];exact bK h H
  have:(f+1) * l.length=f * l.length+l.length:=by rw[Nat.succ_mul]
  omega
theorem joR{l:vL}(h:jsV l):(jao (jav l)).length<=13 * l.length+1:=by
 by_cases h0:l=[]
 ·subst h0
  show (jao (.mk (jaU (jan (jab 12) [])) (jaq (jab 12) []))).length<=_
  have:jaq (jab 12) []=[]:=rfl
  rw[this];simp[jao,jaz]
 ·have o:(jao (jav l)).length<=13 * (jaP l).length:=jmS 12 (jaP l) (fun e=>h0 (by unfold jaP at e;simpa using e))
  have q:(jaP l).length=l.length:=by unfold jaP;rw[cC]
  rw[q]at o;omega
section
attribute [local go_sem] Oper.semAt_some
theorem Tryz.makeMapSI(W:vW):(Instr.makeMap 98 none).run Tryz.prog W=.ok (.map (some W.heap.size)) (W.alloc (.map #[] 0)):=vY
theorem joo(w:vW)(v:vV)(l:vL)(hc:jbV w)(hv:RdP w v l)(h:jap l=0):vQ 30 #[v] w fun e w'=>∃ u n,e=.returned (.tuple #[u,.int .i64 0])/\SRow w w' u n (ja8 (jao (jav l))):=by
 have hm:=jau h
 obtain⟨a,c,rfl⟩:=hv.sl;have HV:=Hd hv;have HM:=Hd hm;have HC:=Hd hc;have H:=Hd h;have HL:=Hd hm.len
 obtain⟨T,hT⟩:=vE (jav l)
 rw[<-hT];have c9:=Hd hT;clear hv hm hc h hT;refine (callsIn_wide (n:=0)).1 ?_;refine callsIn_of_wp_marks Tryz.func30 rfl trivial ?_ rfl;simp only[Tryz.ntmps30,dB,bP,dN,Nat.reduceAdd,Nat.reduceSub,dG,dF,dU,dM,cP,cV];gi_wp2_with fail
 refine⟨trivial,rfl,CallsIn.mono (callsIn_wide.2 (jgS w _ l HV.o (by have:=HL.o;omega) (fun p hp=>by have:=HM.o.size p hp;omega))) ?_⟩
 rintro e w1 ⟨rfl,z⟩;rw[H.o];have HE:=Hd z;have g9:=z.size;clear z;have f1:(Instr.makeMap 98 none).run Tryz.prog (w1.alloc (.cells #[.slice none 0 0] 22))=.ok (.map (some (w1.heap.size+1))) ((w1.alloc (.cells #[.slice none 0 0] 22)).alloc (.map #[] 0)):=by
  rw[<-bN w1 (.cells #[.slice none 0 0] 22)];exact Tryz.makeMapSI _
 gi_wp2_with fail
 obtain⟨W6,O⟩:=vE (((w1.alloc (.cells #[.slice none 0 0] 22)).alloc (.map #[] 0)).alloc (.cells #[.map (some (w1.heap.size+1))] 98))
 rw[<-O];have h7:W6.heap.size=w1.heap.size+3:=by rw[O];simp
 have E6:Ext w1 W6:=by rw[O];exact (((ExtR w1).alloc _).alloc _).alloc _
 have B5:Blk W6 w1.heap.size (.cells #[.slice none 0 0] 22):=by rw[O];exact ((Blk.new w1 _).alloc _).alloc _
 have BM:Blk W6 (w1.heap.size+1) (.map #[] 0):=by
  rw[O];have:=(Blk.new (w1.alloc (.cells #[.slice none 0 0] 22)) (.map #[] 0)).alloc (.cells #[.map (some (w1.heap.size+1))] 98);rwa [bN]at this
 have B6:Blk W6 (w1.heap.size+2) (.cells #[.map (some (w1.heap.size+1))] 98):=by
  rw[O];have:=Blk.new ((w1.alloc (.cells #[.slice none 0 0] 22)).alloc (.map #[] 0)) (.cells #[.map (some (w1.heap.size+1))] 98);rwa [bN,bN]at this
 clear O f1
 refine⟨trivial,rfl,CallsIn.mono (callsIn_wide.2 (ju4 W6 _ l ((HV.o.ext HE.o).ext E6) (by have:=HL.o;omega) (fun p hp=>by have:=HM.o.size p hp;omega))) ?_⟩
 rintro e w7 ⟨u,rfl,hr⟩;have HR:=Hd hr.rd;have Q:Ext W6 w7:=hr.ext;clear hr
 obtain⟨a2,c2,hu⟩:=HR.o.sl
 subst hu;have f2:=Hd Q;have d0:=Hd (B5.keeps Q (fun h=>h));have d1:=Hd (BM.keeps Q (fun h=>h));have d2:=Hd (B6.keeps Q (fun h=>h));have b5:=Hd ((HE.o.trans E6).trans Q);have h8:=Q.size;clear B5 BM B6 E6 Q;gi_wp2_with fail
 refine⟨trivial,rfl,CallsIn.mono (callsIn_wide.2 (jjT 12 (jaP l) (jbm HM.o) (by unfold jaP;rw[cC];have:=HL.o;omega) w7 _ (HC.o.ext b5.o) HR.o)) ?_⟩
 rintro e w8 ⟨k,rfl,hk,z⟩;have hk:=jbL.mono (A':=fun x=>w7.heap.size<=x/\x < w8.heap.size) (fun x h1 h2=>⟨h1,h2⟩) _ _ hk
 obtain⟨q,d3,d4,d5⟩:=jxl _ _ hk
 have i1:=z.size;have a3:=Hd (d0.o.keeps z (fun h=>h));have a4:=Hd (d1.o.keeps z (fun h=>h));have a5:=Hd (d2.o.keeps z (fun h=>h));have d6:=Hd (b5.o.trans z);have d7:=Hd d5;have Z:=Hd d4;rw[<-d3];clear hk d3 d4 d5 z d0 d1 d2 b5 f2 HR HE;gi_wp2_with fail
 refine⟨trivial,rfl,CallsIn.mono (callsIn_wide.2 (jyz w8 q.root)) ?_⟩
 rintro e w9 ⟨rfl,b6,z⟩;have b7:q.pt=T:=Z.o.trans c9.o.symm;have a6:(jao q.pt).length<=1000000:=by
  rw[b7,c9.o];have:=joR HM.o;have:=HL.o;omega
 have i2:=b6.lt
 obtain⟨A,hA⟩:∃ A:Nat->Prop,A=fun x=>w7.heap.size<=x/\x < w8.heap.size:=⟨_,rfl⟩
 have S0:NodS w w1.heap.size w9.heap.size A w8.heap.size q (jao q.pt) 0 w9:=
  ⟨d6.o.trans z,⟨_,0,a3.o.keeps z (fun h=>h),by simpa [ja8]using fM _ _ _ _,bM _,fun b hb=>by cases hb⟩,⟨[],0,a4.o.keeps z (fun h=>h),fun x=>by simp[jaS,cntB,cntV]⟩,a5.o.keeps z (fun h=>h),b6,by rw[hA];exact AtIs.keeps z (fun _ _ h=>h) _ d7.o⟩
 have b2:=Hd S0;have a7:∀ x,A x->w1.heap.size+2 < x/\x < w9.heap.size:=fun x hx=>by rw[hA]at hx;omega
 have g5:w1.heap.size+2 < w8.heap.size:=vO
 obtain⟨L,b8⟩:=vE (jao q.pt)
 have b9:=jxi A w8.heap.size q a6;rw[<-b8]at b9 a6 b2;have f3:=Hd b9;have f4:=Hd b8;have E:=Hd a7;have c8:=Hd b7;clear S0 z b6 hA d6 a3 a4 a5 d7 Z b7 b8 b9 a7;unfold ptrV;gi_wp2_with fail
 refine jeo (N:=L.length) (gf:=115) (lb:=#[.pointer (some ⟨w8.heap.size,0,none⟩)]) rfl (vX 115) f3.o
  (fun k=>rfl) (NodS w w1.heap.size w9.heap.size A w8.heap.size q L) (fun _ _ _=>False) (fun k W W' h e=>h.st e) (fun _ _ _ _ h _=>h) (fun k W h=>⟨h.box,h.at'⟩)
  (fun k W o h=>h.put vO vO vO vO (fun x hx=>by have:=E.o x hx;omega) _)
  (fun k W o h=>h.put vO vO vO vO (fun x hx=>by have:=E.o x hx;omega) _) (fun _ _ _ _ h=>h)
  b2.o (fun k=>{ tmps:=#[.slice a l.length c,undef,.slice none 0 0,.int .i64 0,.int .i64 0,.pointer (some ⟨w1.heap.size,0,none⟩),.pointer (some ⟨w1.heap.size+1+1,0,none⟩),.string (L.getD k ⟨#[]⟩),.slice a l.length c,.int .i64 0,.int .i64 0,.bool false,undef,.map (some (w1.heap.size+1)),.slice a l.length c,.slice a2 (jaP l).length c2,.pointer (some ⟨q.root,0,none⟩),.func (.func 115) #[] #[.pointer (some ⟨w8.heap.size,0,none⟩)],.string (L.getD k ⟨#[]⟩),undef,undef,undef,undef,undef,undef,undef,undef,undef,undef,undef,undef,undef],defers:=[] })
  ?hassign ?hbody ?hdone ?hstop
 case hassign =>
  intro l2 j W K hK;unfold jqe;rw[jxI];simp only[dI,cY];gi_wp2;exact hK
 case hbody =>
  intro l2 k W hk h i3
  obtain⟨v,n,h1,h2,h3,h4⟩:=h.var
  obtain⟨ad,cp,rfl⟩:=jaO h2
  obtain⟨es,ck,h5,h6⟩:=h.tab
  obtain⟨x,hx⟩:=vE (L.getD k ⟨#[]⟩)
  rw[<-hx];have c0:L.take (k+1)=L.take k++[x]:=by
   rw[cR hk,hx,bG,bA hk];rfl
  obtain⟨cn,a1⟩:=vE (cntB (L.take k) x)
  have i4:cn<=1000000:=by
   rw[a1];unfold cntB;refine bK iS ?_;rw[cC,fB];omega
  have e6:=h6 x;rw[<-a1]at e6;have d8:(Instr.lookup 98 (.map (some (w1.heap.size+1))) (.string x) false).run Tryz.prog W=.ok (.int .i64 (cn:Int)) W:=by
   have:=jcq Tryz.ES Tryz.uMapSI h5 (Tryz.zeroI W) x.data.toList false
   rw[e6]at this;unfold cntV at this
   by_cases h0:cn=0
   ·rw[if_pos h0]at this;rw[h0];exact this
   ·rw[if_neg h0]at this;exact this
  obtain⟨b3,X⟩:=vE (jbj es x.data.toList (.int .i64 ((cn:Int)+1)) ck)
  obtain⟨c1,a8⟩:=vE (if (jaS es x.data.toList).isSome then ck else ck+1)
  obtain⟨J,b4⟩:=vE (W.putObj (w1.heap.size+1) (.map (Tryz.ES.arr b3) c1))
  have d9:(Instr.mapUpdate 98 (.map (some (w1.heap.size+1))) (.string x) (.int .i64 ((cn:Int)+1))).run Tryz.prog W=.ok () J:=by
   have:=jb1 Tryz.ES Tryz.uMapSI h5 x.data.toList (.int .i64 ((cn:Int)+1))
   rw[<-X, <-a8, <-b4]at this;exact this
  have B2:Blk J (w1.heap.size+1) (.map (Tryz.ES.arr b3) c1):=by rw[b4];exact h5.put_same _
  have e7:∀ y:vB,jaS b3 y.data.toList=cntV (cntB (L.take (k+1)) y):=fun y=>by
   rw[X,jcR,h6 y,c0];have hc:cntB (L.take k++[x]) y=cntB (L.take k) y+(if x.data.toList=y.data.toList then 1 else 0):=by
    unfold cntB;rw[bY,List.count_append,bL,iD,List.count_singleton]
    simp
   rw[hc]
   by_cases hxy:y.data.toList=x.data.toList
   ·have f5:y=x:=ByteArray.ext (Array.ext' hxy)
    subst f5;rw[if_pos rfl,if_pos rfl, <-a1];unfold cntV;rw[if_neg vO];simp
   ·rw[if_neg hxy,if_neg (fun e=>hxy e.symm)];rfl
  have a9:(Instr.lookup 98 (.map (some (w1.heap.size+1))) (.string x) false).run Tryz.prog J=.ok (.int .i64 ((cn:Int)+1)) J:=by
   have:=jcq Tryz.ES Tryz.uMapSI B2 (Tryz.zeroI J) x.data.toList false
   rw[X,jcR,if_pos rfl]at this;exact this
  have K2:jad (fun b=>b=w1.heap.size+1) W J:=by rw[b4];exact jad.onePut _ _ _
  have q6:W.cell? ⟨w1.heap.size+1+1,0,none⟩=some (.map (some (w1.heap.size+1))):=h.mv.cell (i:=0) vF;have M2:=h.mv.keeps K2 vO;have i5:J.cell? ⟨w1.heap.size+1+1,0,none⟩=some (.map (some (w1.heap.size+1))):=M2.cell (i:=0) vF;have V2:=h1.keeps K2 vO;have O2:=ja4 h2 K2 (fun b hb e=>by have:=h4 b hb;omega);have X2:=h.box.keeps K2 vO;have A2:=AtIs.keeps K2 (fun y hy e=>by have:=E.o y hy;omega) _ h.at';have E2:=h.ext.trans' K2 (fun y hy e=>by omega);have i6:=V2.cell (i:=0) (v:=.slice ad n cp) vF;have g6:J.frozen? ⟨w1.heap.size,0,none⟩=false:=V2.frozen;have b0:=Hd (show memB (ja8 (L.take k)) x=true↔cn≠0 from by
   rw[jfs,jaM,a1];unfold cntB;rw[<-Nat.pos_iff_ne_zero,gS,bH]
   exact⟨fun hm=>⟨x,hm,rfl⟩,fun ⟨y,hy,e⟩=>by rw[<-show y=x from ByteArray.ext (Array.ext' e)];exact hy⟩)
  have e0:=Hd (show ja8 (L.take (k+1))=addF (ja8 (L.take k)) x by rw[c0,jfV]);have b1:=Hd (show ∃ es ck,Blk J (w1.heap.size+1) (.map (Tryz.ES.arr es) ck)/\∀ y:vB,jaS es y.data.toList=cntV (cntB (L.take (k+1)) y)from⟨b3,c1,B2,e7⟩);have c3:=Hd K2;have e1:=Hd M2;have e2:=Hd V2;have e3:=Hd O2;have e4:=Hd X2;have Z:=Hd A2;have e5:=Hd E2;have H4:=Hd h4;clear h h1 h2 h4 h5 h6 hx c0 a1 e6 X a8 b4 B2 e7 K2 M2 V2 O2 X2 A2 E2 b2
  obtain⟨i0,hi,f6,f7,f8⟩:=info_parts Tryz.infoStr
  by_cases hc0:cn=0
  ·subst hc0
   have e8:memB (ja8 (L.take k)) x=false:=by
    cases hm:memB (ja8 (L.take k)) x with
    | false=>rfl
    | true=>exact absurd rfl (b0.o.1 hm)
   have c4:=Hd e8;have g7:(Instr.lookup 98 (.map (some (w1.heap.size+1))) (.string x) false).run Tryz.prog W=.ok (.int .i64 0) W:=d8;have g8:(Instr.mapUpdate 98 (.map (some (w1.heap.size+1))) (.string x) (.int .i64 1)).run Tryz.prog W=.ok () J:=d9;have f0:(Instr.lookup 98 (.map (some (w1.heap.size+1))) (.string x) false).run Tryz.prog J=.ok (.int .i64 1) J:=a9;clear e8 d8 d9 a9;gi_wp2_with (gi_at_builtin;refine jb2 _ rfl (.tmp 27) (.tmp 29) 22 rfl 9 i0 _ 1 16 Tryz.uStrs hi f6 f7 f8 rfl vI (.slice ad n cp) n _ rfl (jbl e3.o ((ExtR J).alloc _)) ⟨J.heap.size,0,none⟩ 1 1 [.string x] rfl rfl (ja5 (Blk.new J _)) (by simp[Value.oneCell']) (by unfold maxLen;omega) vO ?_;intro v' w6 r1 r2 r3;obtain⟨c5,c6,rfl⟩:=jaO r1;have c7:=(e2.o.alloc _).keeps r2 (fun e=>by have:=H4.o _ e;omega);have i7:w6.cell? ⟨w1.heap.size,0,none⟩=some (.slice ad n cp):=c7.cell (i:=0) vF;have i8:w6.frozen? ⟨w1.heap.size,0,none⟩=false:=c7.frozen)
   have a0:ja8 (L.take (k+1))=ja8 (L.take k)++[x]:=by rw[e0.o];unfold addF;rw[if_neg (by rw[c4.o];simp)]
   have f9:w6.ownsRow 0 9 1 (.slice c5 (n+1) c6) (n+1) ((ja8 (L.take (k+1))).map Value.string):=by rw[a0,bY];exact r1
   have K6:jad (fun b=>(Value.slice ad n cp).ownBlock=some b) J w6:=((jad.refl _ J).alloc _).trans r2;have e9:∀ b,(Value.slice c5 (n+1) c6).ownBlock=some b->w9.heap.size+2<=b:=fun b hb=>by
    rcases r3 with r3 | r3
    ·exact H4.o b (r3 ▸ hb)
    ·have h9:=r3 b hb;have:=c3.o.size;rw[bN]at h9;omega
   have K7:jad (fun b=>b=w1.heap.size) w6 (w6.setCell ⟨w1.heap.size,0,none⟩ (.slice c5 (n+1) c6)):=jad.oneSet w6 ⟨w1.heap.size,0,none⟩ _;have nO:∀ b,b < w9.heap.size+2->¬(Value.slice ad n cp).ownBlock=some b:=fun b hb e=>by have:=H4.o b e;omega
   refine⟨((c3.o.mono (fun y _ e=>?_)).trans (K6.mono (fun y _ e=>?_))).trans (K7.mono (fun y _ e=>?_)),?_⟩
   ·have e:y=_:=e;show y≠_/\y≠_;omega
   ·have:=H4.o y e;show y≠_/\y≠_;omega
   ·have e:y=_:=e;show y≠_/\y≠_;omega
   ·obtain⟨g0,g1,g2,g3⟩:=b1.o
    exact⟨(e5.o.trans' K6 (fun y hy e=>by have:=H4.o y e;omega)).trans' K7 (fun y hy e=>by have e:y=_:=e;omega),
     ⟨_,n+1,c7.set_same (i:=0) _,ja4 f9 K7 (fun b hb e=>by have:=e9 b hb;omega),by omega,e9⟩,
     ⟨g0,g1,(g2.keeps K6 (nO _ vO)).keeps K7 vO,g3⟩,(e1.o.keeps K6 (nO _ vO)).keeps K7 vO,(e4.o.keeps K6 (nO _ vO)).keeps K7 vO,
     AtIs.keeps K7 (fun y hy e=>by have:=E.o y hy;omega) _ (AtIs.keeps K6 (fun y hy=>nO y (by have:=E.o y hy;omega)) _ Z.o)⟩
  ·have i9:¬((cn:Int)+1=1):=vO
   have j0:(((cn:Int)+1) == 1)=false:=by simp;omega
   have hm:=b0.o.2 hc0;have c4:=Hd hm;clear hm;gi_wp2_with fail
   have a0:ja8 (L.take (k+1))=ja8 (L.take k):=by rw[e0.o];unfold addF;rw[if_pos c4.o]
   refine⟨c3.o.mono (fun y _ e=>?_),?_⟩
   ·have e:y=_:=e;show y≠_/\y≠_;omega
   ·exact⟨e5.o,⟨_,n,e2.o,by rw[a0];exact e3.o,by omega,H4.o⟩,b1.o,e1.o,e4.o,Z.o⟩
 case hdone =>
  intro W h hd
  obtain⟨v,n,h1,h2,h3,h4⟩:=h.var
  obtain⟨ad,cp,rfl⟩:=jaO h2
  have q5:W.cell? ⟨w1.heap.size,0,none⟩=some (.slice ad n cp):=h1.cell (i:=0) vF;rw[cG,f4.o]at h2;have H2:=Hd h2;have H4:=Hd h4;have HX:=Hd h.ext;have HD:=Hd hd;have g4:Hid (q.pt=T):=c8.o;clear h h1 h2 h4 hd b2;gi_wp2_with fail
  refine⟨by simp,.inl ⟨_,_,rfl,run_takeDeferred HD.o,?_⟩⟩
  refine⟨_,results_tmp2 rfl _ _ _,?_⟩
  have hK:=jad.onePut W w9.heap.size (.deferred none)
  refine⟨.slice ad n cp,n,rfl,⟨_,_,rfl⟩,by rw[<-g4.o];exact ja4 H2.o hK (fun b hb e=>by have:=H4.o b hb;omega),HX.o.putObj (.inr vO) _,fun b hb=>by have:=H4.o b hb;omega⟩
 case hstop=>intro c k W _ _ h;exact h.elim
end
theorem jmR(x:vB)(r:vM):(ja8 (x :: r))[0]?=some x:=by
 unfold ja8;rw[dO];have h:∀ (r e:vM),e[0]?=some x->(r.foldl addF e)[0]?=some x:=by
  intro r;induction r with
  | nil=>intro e h;exact h
  | cons y r ih =>
   intro e h;rw[dO];refine ih _ ?_;unfold addF;split
   ·exact h
   ·rw[cU (bU.1 h).1];exact h
 exact h r _ (by simp[addF,memB])
theorem jjg(T:PT):(ja8 (jao T))[0]?=some T.text:=by
 obtain⟨t,ks⟩:=T
 unfold jao;exact jmR t _
theorem jft(x y:vB):(x.toList == y.toList)=decide (x=y):=by
 by_cases h:x=y
 ·simp[h]
 ·have e:¬ x.toList=y.toList:=fun o=>h (jhd o)
  simp only[h,decide_false];exact beq_eq_false_iff_ne.2 e
theorem jbs{t:vB}:∀ {ks:List PT},t∈jaz ks↔∃ T∈ks,t∈jao T
 | []=>by simp[jaz]
 | T :: ks=>by
  unfold jaz;rw[bR,jbs (ks:=ks)];constructor
  ·rintro (h |⟨q,e,o⟩)
   ·exact⟨T,bD,h⟩
   ·exact⟨q,bC _ e,o⟩
  ·rintro⟨q,e,o⟩
   rcases bJ.1 e with rfl | e
   ·exact .inl o
   ·exact .inr ⟨q,e,o⟩
theorem jyy{P:Program}{f:FuncId}{args:Array vV}{w:vW}{R R':vV->vW->Prop}
  (h:Calls P f args w fun | .returned v,w'=>R v w' | _,_=>False) (h':Calls P f args w fun | .returned v,w'=>R' v w' | _,_=>False) (hi:P.inits.idxOf? f=none) :
  ∃ v w',R v w'/\R' v w':=by
 obtain⟨n,v,w1,e,o⟩:=h.done hi
 obtain⟨m,A,E,q,z⟩:=h'.done hi
 have a:=runN_ended e m;have b:=runN_ended q n;rw[gN,a]at b;injection b with ho hw;injection ho with hv;subst hv hw
 exact⟨_,_,o,z⟩
theorem jsY{P:Program}{f:FuncId}{args:Array vV}{w:vW}{a b:vV}{R R':vW->Prop}
  (h:Calls P f args w fun e w'=>e=.returned a/\R w') (h':Calls P f args w fun e w'=>e=.returned b/\R' w') (hi:P.inits.idxOf? f=none):a=b:=by
 obtain⟨v,w',q,z⟩:=jyy (R:=fun v _=>v=a) (R':=fun v _=>v=b)
  (h.mono fun e w' o=>by obtain⟨rfl,_⟩:=o;rfl) (h'.mono fun e w' o=>by obtain⟨rfl,_⟩:=o;rfl) hi
 exact q.symm.trans z
theorem jrS{n m:jae}(h:n.V=m.V):n=m:=by
 obtain⟨k,p,v,q⟩:=n
 obtain⟨z,K,O,e⟩:=m
 unfold jae.V jae.cells at h;injection h with h;have h:=congrArg Array.toList h;simp only[List.toList_toArray,List.cons.injEq,Value.int.injEq,Value.string.injEq]at h
 obtain⟨⟨_,o⟩,A,E,H⟩:=h
 have J:q=e:=by
  have:∀ a b:vM,a.map Value.string=b.map Value.string->a=b:=fun a=>by
   induction a with
   | nil=>intro b hb;cases b with | nil=>rfl | cons x y=>cases hb
   | cons x r ih =>
    intro b hb;cases b with
    | nil=>cases hb
    | cons y t =>
     simp only[bL,List.cons.injEq,Value.string.injEq]at hb;rw[hb.1,ih t hb.2]
  exact this _ _ H
 have o:k=z:=vO
 subst o A E J;rfl
theorem jdc(w:vW){f g:Nat}{n m:jae}(hn:jck (InlD f) n)(hm:jck (InlD g) m)(h:jaU n=jaU m):n=m:=by
 have e:=jji (inlP f) w n hn;have o:=jji (inlP g) w m hm;rw[h]at e
 have:=jsY e o vY
 injection this with this
 have:=congrArg Array.toList this
 simp only[List.toList_toArray,List.cons.injEq]at this;exact jrS this.1
theorem jjI{a b:vB}(ha:a.size=32)(hb:b.size=32)(h:jaC a=jaC b):a=b:=by
 obtain⟨r,e,o⟩:=jdF a ha
 obtain⟨s,q,z⟩:=jdF b hb
 rw[h]at e o;rw[e]at q;obtain rfl:=bV q;rw[o]at z;exact bV z
theorem jfw{T:PT}(h:T.text.size < 32):refB T.text=T.text:=by unfold refB;rw[if_pos h]
theorem jgx{T:PT}(h:¬ T.text.size < 32):refB T.text=jaC (shaB T.text):=by unfold refB;rw[if_neg h]
theorem jgY{f:Nat}{T:PT}{n:jae}(h:jdA f T n)(hs:T.text.size < 32):jao T=[T.text]:=by
 have e:=h.small hs
 obtain⟨x,ks⟩:=T
 have e:ks=[]:=e;subst e;unfold jao jaz;rfl
theorem jgl{T:PT}(h:¬ T.text.size < 32):jaz (jbt T)=jao T:=by
 unfold jbt;rw[if_neg h];simp[jaz]
theorem jbS(T:PT):T.text∈jao T:=by cases T;unfold jao;exact bD
theorem jbA{l:vL}(h:jar 0 l):l.length<=1:=by
 rcases fK l.length 2 with h2 | h2
 ·omega
 ·obtain⟨a,o⟩:∃ a,l[0]?=some a:=⟨_,bA vO⟩
  obtain⟨b,hb⟩:∃ b,l[1]?=some b:=⟨_,bA vO⟩
  have e:=jcy h.rise vO o hb
  have:=(h.size b (bI hb)).1
  rw[show b.l=[]from bE (by show b.1.size=0;omega)]at e;exact absurd e (not_lt_nil _)
theorem jbW{a b:vB}(h:a.data.toList=b.data.toList):a=b:=by
 obtain⟨⟨a⟩⟩:=a
 obtain⟨⟨b⟩⟩:=b
 simp only at h;subst h;rfl
def jcA(r:vB):Option vB:=(cutN r).bind (jeV r)
def jaF(n:jae):vM:=n.refs.filterMap jcA
theorem jeW:jcA ⟨#[]⟩=none:=by
 unfold jcA cutN;rw[dif_neg vI];rfl
theorem jd6{h:vB}(hs:h.size=32):jcA (jaC h)=some h:=by
 obtain⟨r,e,o⟩:=jdF h hs
 unfold jcA;rw[e];exact o
theorem jdE{I:vB->jae->Prop}(HI:InlP I){r:vB}{m:jae}(h:I r m):jcA r=none:=by
 obtain⟨q,e,o⟩:=HI.nohash r m h
 unfold jcA;rw[e];exact o
theorem jlz{f:Nat}{T:PT}{n:jae}(h:jdA f T n):(jcA (refB T.text)).toList=(jbt T).map fun k=>shaB k.text:=by
 by_cases hs:T.text.size < 32
 ·rw[jdE (inlP (f+1)) (h.may.2 hs)]
  unfold jbt;rw[if_pos hs];rfl
 ·rw[jgx hs,jd6 (jbg _)]
  unfold jbt;rw[if_neg hs];rfl
theorem jd7(k:Nat):(jat k).filterMap jcA=[]:=by
 unfold jat;rw[List.filterMap_eq_nil_iff];intro r e;rw[fU e,jeW]
theorem jif{α:Type}(g:α->vB)(k:α->List PT):∀ L:List α,(∀ i∈L,(jcA (g i)).toList=(k i).map fun k=>shaB k.text)->(L.map g).filterMap jcA=(L.flatMap k).map fun k=>shaB k.text
 | [],_=>rfl
 | x :: L,h=>by
  rw[bL,cF,bY, <-jif g k L fun i e=>h i (bC _ e), <-h x bD,fX];cases jcA (g x) <;> rfl
theorem jdR(f:Nat)(l:vL)(h:jar f l):jaF (jan (jab f) l)=(jaq (jab f) l).map fun k=>shaB k.text:=by
 unfold jaF
 by_cases h0:l.length=0
 ·have z:jan (jab f) l=jaV:=by unfold jan;rw[if_pos h0]
  have A:jaq (jab f) l=[]:=by unfold jaq;rw[if_pos vO]
  rw[z,A];exact jd7 16
 by_cases h1:l.length=1
 ·have z:jan (jab f) l=⟨1,(l.getD 0 pd).1,(l.getD 0 pd).2,jat 16⟩:=by unfold jan;rw[if_neg h0,if_pos h1]
  have A:jaq (jab f) l=[]:=by unfold jaq;rw[if_pos vO]
  rw[z,A];exact jd7 16
 have O:2<=l.length:=vO
 cases f with
 | zero=>have:=jbA h;omega
 | succ f =>
  by_cases hk:0 < comK l
  ·have o:=jbr h O
   have E:jar f (jag (comK l) l):=(jcm (comK l) h (fun p H q Q=>(o p H).1.trans (o q Q).1.symm) (fun p H=>(o p H).2)).mono vO;have J:jag (comK l) l≠[]:=fun e=>by have:=jaA (comK l) l;rw[e]at this;simp at this;omega
   have K:=(good f _ E).2.1 J;have z:jan (jab (f+1)) l=⟨2,(l.getD 0 pd).1.extract 0 (comK l),⟨#[]⟩,refB (jab (f+1) (jag (comK l) l)).text :: jat 15⟩:=by unfold jan;rw[if_neg h0,if_neg h1,if_pos hk]
   have A:jaq (jab (f+1)) l=jbt (jab (f+1) (jag (comK l) l)):=by unfold jaq;rw[if_neg vO,if_pos hk]
   rw[z,A, <-jlz K];show (refB (jab (f+1) (jag (comK l) l)).text :: jat 15).filterMap jcA=_;rw[fX,jd7];cases jcA (refB (jab (f+1) (jag (comK l) l)).text) <;> rfl
  ·have z:(jan (jab (f+1)) l).refs=(List.range 16).map fun i=>if (cutL i l).length=0 then ⟨#[]⟩else refB (jab (f+1) (jag 1 (cutL i l))).text:=by unfold jan;rw[if_neg h0,if_neg h1,if_neg hk]
   have A:jaq (jab (f+1)) l=(List.range 16).flatMap fun i=>if (cutL i l).length=0 then []else jbt (jab (f+1) (jag 1 (cutL i l))):=by unfold jaq;rw[if_neg vO,if_neg hk]
   rw[z,A];refine jif _ _ _ fun i X=>?_
   by_cases hc:(cutL i l).length=0
   ·rw[if_pos hc,if_pos hc,jeW];rfl
   ·rw[if_neg hc,if_neg hc]
    exact jlz ((good f _ (jdJ i h)).2.1 (fun e=>by have:=jaA 1 (cutL i l);rw[e]at this;simp at this;omega))
theorem jhN{f:Nat}{l:vL}(h:jar f l){K:PT}(o:K∈jaq (jab f) l):∃ g m,f=g+1/\K=jab (g+1) m/\jar g m/\32<=K.text.size:=by
 have A:∀ {T:PT},K∈jbt T->K=T/\32<=K.text.size:=fun {T} h=>by
  unfold jbt at h;split at h
  ·cases h
  ·rw[bO]at h;subst h;exact⟨rfl,by omega⟩
 unfold jaq at o
 by_cases h1:l.length<=1
 ·rw[if_pos h1]at o;cases o
 rw[if_neg h1]at o;cases f with
 | zero=>have:=jbA h;omega
 | succ f =>
  by_cases hk:0 < comK l
  ·rw[if_pos hk]at o
   have z:=jbr h vO;have E:jar f (jag (comK l) l):=(jcm (comK l) h (fun p H q O=>(z p H).1.trans (z q O).1.symm) (fun p H=>(z p H).2)).mono vO
   obtain⟨e,J⟩:=A o
   exact⟨f,_,rfl,e,E,J⟩
  ·rw[if_neg hk]at o
   obtain⟨i,_,o⟩:=cO.1 o
   split at o
   ·cases o
   ·obtain⟨e,J⟩:=A o
    exact⟨f,_,rfl,e,jdJ i h,J⟩
def jbi(t:vB)(n:jae):Prop:=t=jaU n/\∃ g,jck (InlD g) n
structure jp2(L B:vM):Prop where
 node:∀ t∈L,∃ n,jbi t n/\∀ h∈jaF n,∃ t'∈L,h=shaB t'
 told:∀ t∈B,32<=t.size/\∃ t'∈L,∃ n,jbi t' n/\shaB t∈jaF n
theorem juS:∀ (f:Nat) (l:vL),jar f l->jp2 (jao (jab (f+1) l)) (jaz (jaq (jab f) l)):=by
 intro f;induction f with
 | zero =>
  intro l h;have e2:jaq (jab 0) l=[]:=by have:=jbA h;unfold jaq;rw[if_pos vO]
  have O:jao (jab (0+1) l)=[jaU (jan (jab 0) l)]:=by
   show jao (.mk (jaU (jan (jab 0) l)) (jaq (jab 0) l))=_;rw[jao,e2];simp[jaz]
  have Q:=jdR 0 l h;rw[e2]at Q;rw[O,e2]
  refine⟨fun t o=>?_,fun t o=>by simp[jaz]at o⟩
  rw[bO]at o
  exact⟨_,⟨o,0,(good 0 l h).1⟩,fun x H=>by rw[Q]at H;cases H⟩
 | succ f ih =>
  intro l h;have O:jao (jab (f+1+1) l)=jaU (jan (jab (f+1)) l) :: jaz (jaq (jab (f+1)) l):=by
   show jao (.mk (jaU (jan (jab (f+1)) l)) (jaq (jab (f+1)) l))=_;rw[jao]
  have Q:=jdR (f+1) l h;have z:jbi (jaU (jan (jab (f+1)) l)) (jan (jab (f+1)) l):=⟨rfl,f+1,(good (f+1) l h).1⟩;have A:∀ {K:PT},K∈jaq (jab (f+1)) l->∀ t∈jao K,t∈jao (jab (f+1+1) l):=fun {K} q t o=>by
   rw[O];exact bC _ (jbs.2 ⟨K,q,o⟩)
  have E:∀ {K:PT},K∈jaq (jab (f+1)) l->∃ m,K=jab (f+1) m/\jar f m/\32<=K.text.size:=fun {K} q=>by
   obtain⟨g,m,e,X,Z,h3⟩:=jhN h q
   obtain rfl:f=g:=vO
   exact⟨m,X,Z,h3⟩
  constructor
  ·intro t o
   rw[O]at o;rcases bJ.1 o with rfl | o
   ·refine⟨_,z,fun x H=>?_⟩
    rw[Q]at H
    obtain⟨K,q,rfl⟩:=bH.1 H
    exact⟨_,A q _ (jbS K),rfl⟩
   ·obtain⟨K,q,o⟩:=jbs.1 o
    obtain⟨m,rfl,hm,_⟩:=E q
    obtain⟨n,X,Z⟩:=(ih m hm).node t o
    exact⟨n,X,fun x H=>by obtain⟨t',J,e⟩:=Z x H;exact⟨t',A q _ J,e⟩⟩
  ·intro t o
   obtain⟨K,q,o⟩:=jbs.1 o
   obtain⟨m,rfl,hm,a0⟩:=E q
   have eK:jao (jab (f+1) m)=jaU (jan (jab f) m) :: jaz (jaq (jab f) m):=by
    show jao (.mk (jaU (jan (jab f) m)) (jaq (jab f) m))=_;rw[jao]
   rw[eK]at o;rcases bJ.1 o with rfl | o
   ·refine⟨a0,_,?_,_,z,?_⟩
    ·rw[O];exact bD
    ·rw[Q];exact bH.2 ⟨_,q,rfl⟩
   ·obtain⟨X,t',J,n,Z,h3⟩:=(ih m hm).told t o
    exact⟨X,t',A q _ J,n,Z,h3⟩
theorem jeT(l:vM):(ja8 l).Nodup:=by
 unfold ja8
 have:∀ (l o:vM),o.Nodup->(l.foldl addF o).Nodup:=fun l=>by
  induction l with
  | nil=>exact fun _ h=>h
  | cons x r ih =>
   intro o h;rw[dO];refine ih _ ?_;unfold addF;split
   ·exact h
   ·rename_i hn
    have q:x ∉ o:=fun z=>hn ((jfs o x).2 z);rw[dY]
    exact⟨h,by simp,fun a A b hb e=>by simp at hb;subst hb;subst e;exact q A⟩
 exact this l [] (by simp)
structure jxe(L:vM)(top:vB):Prop where
 head:L[0]?=some top
 nodup:L.Nodup
 node:∀ t∈L,∃ n,jbi t n/\∀ h∈jaF n,∃ t'∈L,h=shaB t'
 told:∀ (i:Nat) t,L[i+1]?=some t->32<=t.size/\∃ t'∈L,∃ n,jbi t' n/\shaB t∈jaF n
theorem jho{l:vL}(h:jap l=0):jxe (ja8 (jao (jav l))) (jav l).text:=by
 have E:=juS 12 (jaP l) (jbm (jau h));have Q:jao (jav l)=(jav l).text :: jaz (jaq (jab 12) (jaP l)):=by
  show jao (.mk (jaU (jan (jab 12) (jaP l))) (jaq (jab 12) (jaP l)))=_;rw[jao];rfl
 have E:jp2 (jao (jav l)) (jaz (jaq (jab 12) (jaP l))):=E;have q:=jeT (jao (jav l))
 refine⟨jjg _,q,fun t H=>?_,fun i t H=>?_⟩
 ·obtain⟨n,z,A⟩:=E.node t ((jaM _ _).1 H)
  exact⟨n,z,fun x X=>by obtain⟨K,o,e⟩:=A x X;exact⟨K,(jaM _ _).2 o,e⟩⟩
 ·have J:=(jaM _ _).1 (bI H)
  have O:t≠(jav l).text:=fun e=>by
   have Z:=jjg (jav l)
   obtain⟨z,e1⟩:=bU.1 H
   obtain⟨A,e2⟩:=bU.1 Z
   exact gO.1 q 0 (i+1) A z vO (e2.trans (e.symm.trans e1.symm))
  rw[Q]at J;rcases bJ.1 J with e | J
  ·exact absurd e O
  ·obtain⟨z,K,o,n,A⟩:=E.told t J
   exact⟨z,K,(jaM _ _).2 o,n,A⟩
theorem jd9(w:vW){t:vB}{n m:jae}(h:jbi t n)(k:jbi t m):n=m:=by
 obtain⟨e,f,o⟩:=h
 obtain⟨q,g,z⟩:=k
 exact jdc w o z (e.symm.trans q)
section
section mixr
variable {P:Program} {l:List Oper} {lr:Nat} {R:Act->vW->Prop}
def jd1(R:Act->vW->Prop):Exit->Act->vW->Prop:=fun e a w=>e=.normal/\R a w
theorem jjn:¬ LetsOut (jd1 R):=fun ⟨_,_,h,_⟩=>by cases h
theorem jhf{o:Oper}{a:Act}{w:vW}{K K':Act->vW->Prop}{Q:Exit->Act->vW->Prop}(hd:∀ c,o.op≠.defer c)(hK:∀ a w,K a w->K' a w)(h:o.wp P a w K (jd1 R)) :
  o.wpIn (Fence.wide.inRound lr) 0 P a w K' Q:=by
 unfold Oper.wp at h
 refine⟨fun _ _=>trivial,?_⟩
 rw[Oper.semAt_eq _ _ _ hd];generalize (execOp a.eval o).run P w=r at *;cases r with
 | ok x w' =>
  cases x with
  | value v=>exact hK _ _ h
  | skip=>exact hK _ _ h
  | defer d=>exact hK _ _ h
  | enter f args =>
   refine bB (fun q=>absurd q (by simp[Fence.wide])) (CallsIn.inRound lr (callsIn_wide.2 (Calls.mono h fun e A z=>?_)));cases e with
   | returned v=>exact hK _ _ z
   | panicked c=>cases z.1
   | outgrown=>exact absurd z jjn
  | row r args=>exact bB (fun q=>absurd q (by simp[Fence.wide])) (fun c cs _=>let ⟨v,w',r,s⟩:=h c cs;⟨v,w',hK _ _ r,stepsIn_wide.2 s⟩)
  | round l f t a b=>exact h.elim
  | _=>exact h.elim
 | halt x w' =>
  cases x <;> first | exact h.elim | cases h.1
theorem jk2(hnd:jkn l.toArray=true):∀ (q:Nat) (e:Array Bool) (a:Act) (w:vW),wpAny P .any l.toArray (jd1 R) q e a w->wpAnyIn (Fence.wide.inRound lr) 0 P .any l.toArray (jd1 R) q e a w:=by
 have E:∀ (i:Nat) (o:Oper),l.toArray[i]?=some o->∀ c,o.op≠.defer c:=by
  intro i o A c H;unfold jkn at hnd;rw[dS]at hnd
  have:=hnd o (by simpa using bI (by simpa using A))
  rw[H]at this;simp at this
 intro q;induction q with
 | zero=>exact fun _ _ _ h=>h
 | succ q ih =>
  intro e a w h
  refine⟨h.1,fun i J=>?_⟩
  have z:=h.2 i J;unfold wpOp at z;unfold wpOpIn;split
  ·rename_i A;simp only[A]at z;exact ih _ _ _ z
  ·rename_i o A
   simp only[A]at z;split
   ·rename_i hw;simp only[hw,if_true]at z
    rcases z with z | z
    ·exact jhf (E i o A) (fun a w h=>ih _ a w h) z
    ·exact absurd z.2 jjn
   ·rename_i hw;simp only[hw]at z
    exact⟨fun _ _=>trivial,ih _ _ _ z⟩
theorem jkP(hm:P.follows .mixedOrders=true)(hnd:jkn l.toArray=true){id:Nat}{Q:Exit->Act->vW->Prop}{a:Act}{w:vW}(hq:∀ a w,R a w->Q .normal a w)
  (h:wpAny P .any l.toArray (jd1 R) l.toArray.size (Array.replicate l.toArray.size false) a w.drew):(Code.region id l.toArray true).wpIn (Fence.wide.inRound lr) 0 P Q a w:=
 wpIn_mono (wpIn_region_any hm (jk2 hnd _ _ _ _ h)) fun e a w ⟨o,q⟩=>by subst o;exact hq _ _ q
theorem jhg(ord hd:List Nat)(E:vW->vW->Prop)(hE:∀ w,E w w)(hT:∀ x y z,E x y->E y z->E x z){id:Nat}{Q:Exit->Act->vW->Prop}{a:Act}{w:vW}
  (hm:P.follows .mixedOrders=true) (hnd:jkn l.toArray=true) (hs:Region.noSelect l.toArray=true) (hl:ord.length=l.toArray.size)
  (h:Mix P l hd E (fun a w=>Q .normal a w) ord [] a w.drew):(Code.region id l.toArray true).wpIn (Fence.wide.inRound lr) 0 P Q a w:=by
 refine jkP (R:=fun a w=>Q .normal a w) hm hnd (fun _ _ h=>h) ?_;rw[<-hl]
 have:=jer hE hT hs ord _ _ _ h
 unfold jbd at this;rw[hl]at this ⊢;exact jgM hE (fun _ _ h=>⟨rfl,h⟩) _ _ _ _ this
theorem jmt{ops:Array Oper}{rest:List Oper}{o:Oper}{a:Act}{w:vW}{Q:Exit->Act->vW->Prop}{T:TypeId}{cs:List vV}(hrun:∀ w,(Instr.alloc T true (.tuple #[])).run P w=.ok (.pointer (some ⟨w.heap.size,0,none⟩)) (w.alloc (.cells cs.toArray T)))(hgd:o.guard=none)(ho:o.op=.alloc T)
  (h:∀ W,Blk W w.heap.size (.cells cs.toArray T)->Ext w W->wpListIn (Fence.wide.inRound lr) 0 P ops Q rest (a.put o.dst (.pointer (some ⟨w.heap.size,0,none⟩))) W):wpListIn (Fence.wide.inRound lr) 0 P ops Q (o :: rest) a w:=
 wpListIn_plain hgd fun K e=>jhf (R:=fun _ _=>False) (by rw[ho];intro c q;cases q) (fun _ _ h=>h) (jcr (v:=.pointer (some ⟨w.heap.size,0,none⟩)) (w':=w.alloc (.cells cs.toArray T)) (by simp only[execOp,ho,bT,hrun,Result.andThen,cI]) (e _ _ (h _ (Blk.new w _) ((ExtR w).alloc _))))
theorem jkQ{ops:Array Oper}{rest:List Oper}{o:Oper}{a:Act}{w:vW}{Q:Exit->Act->vW->Prop}{T T2:TypeId}{x y:Operand}{b:Nat}{old vs:List vV}(hgd:o.guard=none)(ho:o.op=.store T x y)(hx:a.eval x=.pointer (some ⟨b,0,none⟩))(hy:a.eval y=.agg vs.toArray)
  (hB:Blk w b (.cells old.toArray T2)) (hl:old.length=vs.length) (hi:(P.info? T).map (·.size)=some vs.length) (h1:∀ v∈vs,v.oneCell'=true)
  (h:∀ W,Blk W b (.cells vs.toArray T2)->jad (fun z=>z=b) w W->wpListIn (Fence.wide.inRound lr) 0 P ops Q rest (a.put o.dst undef) W):wpListIn (Fence.wide.inRound lr) 0 P ops Q (o :: rest) a w:=by
 refine wpListIn_plain hgd fun K e=>jhf (R:=fun _ _=>False) (by rw[ho];intro c q;cases q) (fun _ _ h=>h) ?_;refine wp_store_mid T x y ho b 0 vs.toArray hx hy (by have:=jkJ hB;rw[hl]at this;simpa using this) (by simpa using hi) (all_oneCell_toArray h1) (e _ _ (h _ ?_ (jad.oneSetCells b vs 0 w)))
 have:=Blk.setCells vs 0 w old hB vO
 rw[iM vO]at this;simpa using this
end mixr
end
end Go.Proofs.YtmobgkphhbmhbaaGreatDoor
