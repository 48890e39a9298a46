/- Lemmas; each is under no condition but those that it states. -/
import Derived.Test.YtepbencaoiompaaGreatDoorPa13
namespace Go.Proofs.YtepbencaoiompaaGreatDoor
set_option linter.unusedSimpArgs false
set_option linter.unusedVariables false
set_option maxRecDepth 100000
set_option maxHeartbeats 16000000
open Go Go.RowKit
def ksK(B:vL->PT)(l:vL)(k:Nat):List PT:=(List.range k).flatMap fun i=>if (cutL i l).length=0 then []else jbG (B (jal 1 (cutL i l)))
theorem jic(B:vL->PT)(l:vL)(k:Nat):ksK B l (k+1)=ksK B l k++(if (cutL k l).length=0 then []else jbG (B (jal 1 (cutL k l)))):=by
 unfold ksK;rw[gA,dS];simp
def jzu(w:vW)(bn:Nat)(B:vL->PT)(l:vL)(rs:vM)(i:vV)(wr:vW):Prop:=∃ k:Nat,k<=16/\i=.int .i64 k/\∃ u bs,jdX w wr w.heap.size bn ⟨#[]⟩ (ksK B l k) u bs/\bs.length<=k/\Blk wr bn (.cells (brN rs k).cells.toArray 99)
theorem jbV{P:Program}{o:Oper}{a:Act}{w:vW}{K:Act->vW->Prop}{Q:Exit->Act->vW->Prop}{f:FuncId}{args:Array vV}(hv:(execOp a.eval o).run P w=.ok (.enter f args) w)(h:Calls P f args w (fun e q=>∃ v,e=.returned v/\K (a.put o.dst v) q)):o.wp P a w K Q:=by
 unfold Oper.wp;rw[hv];exact h.mono fun e q ⟨v,z,A⟩=>by subst z;exact A
theorem jl6(f:Nat)(l:vL)(h2:2<=l.length)(hln:l.length<=1000)(hok:jav (f+1) l)(hk:¬ 0 < comK l)(HB:∀ i,(cutL i l).length≠0->jik (jal 1 (cutL i l)) (jab (f+1) (jal 1 (cutL i l)))):jik l (jab (f+1+1) l):=by
 intro w v hc X
 obtain⟨a,ha⟩:∃ a,l[0]?=some a:=⟨_,bA vO⟩
 obtain⟨z,hz⟩:∃ z,l[l.length - 1]?=some z:=⟨_,bA vO⟩
 have ga:l.getD 0 pd=a:=by rw[bE,ha];rfl
 have gz:l.getD (l.length - 1) pd=z:=by rw[bE,hz];rfl
 obtain⟨h7,h8,e9,i0,i1⟩:=hok.size a (bJ ha)
 obtain⟨i2,i3,f1,i4,i5⟩:=hok.size z (bJ hz)
 have H:=(good (f+1) l hok).1;have f3:=X;rcases X with⟨_,_,_,h0⟩ |⟨b,o,c,rfl,hb,hcl,hcell⟩
 ·rw[h0]at h2;simp at h2
 obtain⟨q1,Z⟩:=hcell 0 a ha
 rw[Nat.zero_mul,gV]at q1 Z
 obtain⟨q2,_⟩:=hcell (l.length - 1) z hz
 obtain⟨kk,c9⟩:=vE (comK l)
 have d1:kk=jam a.1 z.1:=by rw[c9];unfold comK;rw[ga,gz]
 obtain⟨x,y⟩:=a
 obtain⟨xb,yb⟩:=z
 simp only at h7 h8 e9 i0 i1 i2 i3 f1 i4 i5 q1 Z q2 d1
 obtain⟨A,b3⟩:=vE ((List.range 16).map fun i=>if (cutL i l).length=0 then (⟨#[]⟩:vB)else refB (jab (f+1) (jal 1 (cutL i l))).text)
 obtain⟨q,a0⟩:=vE (if x.size=0 then y else (⟨#[]⟩:vB))
 have hn:jao (jab (f+1)) l=⟨3,⟨#[]⟩,q,A⟩:=by unfold jao;rw[if_neg vO,if_neg vO,if_neg hk,ga,b3,a0]
 rw[hn]at H;have ht:jab (f+1+1) l=.mk (jaR ⟨3,⟨#[]⟩,q,A⟩) (ksK (jab (f+1)) l 16):=by
  show PT.mk (jaR (jao _ l)) (jat _ l)=_;rw[hn];unfold jat;rw[if_neg vO,if_neg hk];rfl
 obtain⟨T,hT⟩:=vE (jab (f+1+1) l)
 rw[<-hT]at ht ⊢;have f4:A.length=16:=by rw[b3];simp
 have f5:∀ i,i < 16->A[i]?=some (if (cutL i l).length=0 then (⟨#[]⟩:vB)else refB (jab (f+1) (jal 1 (cutL i l))).text):=fun i hi=>by
  rw[b3,cA,fB hi];rfl
 have a8:∀ i,(cutL i l).length≠0->jxI (jab (f+1) (jal 1 (cutL i l))):=fun i hi =>
  (((good f _ (jd8 i hok)).2.1 (fun e=>by have:=jaJ 1 (cutL i l);rw[e]at this;simp at this;omega)).kid)
 have d2:∀ p∈l,p.1.size<=1000000:=fun p hp=>by have:=(hok.size p hp).2.1;omega
 have f6:∀ i,∀ p∈cutL i l,1<=p.1.size/\p.1.size<=1000000:=fun i p hp=>by
  obtain⟨hm,a',r',e',_⟩:=jbv hp
  exact⟨by show 1<=p.1.data.toList.length;rw[show p.1.data.toList=a' :: r' from e'];simp,d2 p hm⟩
 have f8:∀ i,(cutL i l).length<=1000:=fun i=>bH (fE _ _) hln;have c0:((l.length:Int) == 0)=false:=by simp;exact fun e=>by rw[e]at h2;simp at h2
 have c1:¬(l.length:Int)=0:=vO
 have c2:((l.length:Int) == 1)=false:=by simp;omega
 have c3:¬(l.length:Int)=1:=vO
 have c4:(0:Int)<=(l.length:Int) - 1:=vO
 have c5:(l.length:Int) - 1 < (l.length:Int):=vO
 have c6:((l.length:Int) - 1).toNat=l.length - 1:=vO
 have c7:(0:Int) < (l.length:Int):=vO
 have d7:0 < l.length:=vO
 rw[<-c9]at hk;have d0:¬ 0 < kk:=hk;have e0:¬(0:Int) < (kk:Int):=vO
 have HT:=Hd ht;have Q1:=Hd q1;have i6:=Hd Z;have Q2:=Hd q2;have i7:=Hd d1;have HG:=Hd H;have i8:=Hd f3;have i9:=Hd d2;have j0:=Hd f6;have f9:=Hd f8;have e7:=Hd a8;have j1:=Hd f5;have a3:=Hd f4;have a9:=Hd a0;have j2:=Hd HB;have HC:=Hd hc;clear hc ha hz ga gz hok H f3 hcell q1 Z q2 c9 d1 d2 f6 f8 a8 f5 f4 a0 b3 hn ht hT HB e9 f1
 obtain⟨W1,a5⟩:=vE (w.alloc (.cells #[.string ⟨#[]⟩,.slice none 0 0] 141))
 go_enter Tryz.func72,Tryz.ntmps72;go_wp2_with (refine jah Tryz.allocNode rfl rfl ?_;intro W3 g0 d3;refine jae (vs:=jak.cells) rfl rfl rfl rfl g0 rfl Tryz.szNode (jad.one _) ?_;intro W4 b4 d4;simp only[bK]at b4 d4)
 have b0:Ext W1 W4:=by
  rw[<-a5]at d3;exact d3.trans' d4 (fun x hx e=>by have e:x=w.heap.size+1:=e;rw[a5,bK]at hx;omega)
 have hh:=jvL w W1 W4 (w.heap.size+1) a5 b0 (by rw[a5,bK]) b4.lt;have g1:=Hd hh;have g2:=Hd b4;have HX:=Hd hh.row.ext;clear d3 d4 g0 a5 b4 b0 hh;refine jan [0,1,2,3,4,5,6,7,8,9,10,11,12,13] Ext ExtR ExtT vY vY vY ?_;iterate 3 refine vK ?_
 refine qKL ⟨b,o,none⟩ _ rfl (fun w1 h1=>jac Tryz.uStr rfl (jaa (jaa (by exact Q1.o) (HX.o.trans (jaq _))) h1)) ?_;refine vS ?_;iterate 6 refine vK ?_
 refine qKL ⟨b,o+(l.length - 1) * 2,none⟩ _ rfl (fun w1 h1=>jac Tryz.uStr rfl (jaa (jaa (by exact Q2.o) (HX.o.trans (jaq _))) h1)) ?_;refine vS ?_;refine qKC _ 100 #[.string x,.string xb] (.int .i64 (kk:Nat)) rfl (fun w1=>jaG (vX 100) vY) (fun w1 h1=>by rw[i7.o];exact (jfL w1 x xb vO vO).mono (fun e w2 ⟨h1,n,h2⟩=>⟨h1,by rw[h2];exact (ExtR w1).drewN n⟩)) ?_;refine vS ?_;iterate 2 refine vK ?_
 refine qKE (fun w5 E=>?_);have b5:=(jaq W4).trans E;have J:=Hd (g1.o.ext b5);have b6:=Hd (g2.o.keeps b5 (fun h=>h));have HX:=Hd (HX.o.trans b5);clear E b5 g1 g2;have q0:=b6.o.cell (i:=0) (v:=.int .i64 0) vF;have f0:w5.frozen? ⟨w.heap.size+1,0,none⟩=false:=b6.o.frozen;have K6:=jag.oneSet w5 ⟨w.heap.size+1,0,none⟩ (.int .i64 3);have b7:=Hd (J.o.other K6);have b8:Hid (Blk (w5.setCell ⟨w.heap.size+1,0,none⟩ (.int .i64 3)) (w.heap.size+1) (.cells (brN A 0).cells.toArray 99)):=Hd (b6.o.set_same (i:=0) (.int .i64 3));clear K6 b6 J HX;go_wp2_with fail
 go_loopw [11] (fun i wr=>jzu w (w.heap.size+1) (jab (f+1)) l A i wr) (fun i _=>16 - (intOf i).toNat)
 case atStart=>exact⟨0,by omega,rfl,_,[],b7.o,by simp,b8.o⟩
 case round =>
  obtain⟨k,e8,rfl,u,bs,hH,k2,Q⟩:=hrel
  obtain⟨au,cu,hu⟩:=hH.row.sl
  subst hu;have HH:=Hd hH;have HB:=Hd Q;have HX:=Hd hH.row.ext;clear hH Q
  by_cases hlt:k < 16
  ·have b1:(k:Int) < 16:=vO
   have k3:=HH.o.ml;have QI:=Hd (show (wr.alloc (.cells #[.int .i64 (k:Int)] 3)).cell? ⟨wr.heap.size,0,none⟩=some (.int .i64 (k:Int))from(Blk.new wr _).cell vF);have g3:=jyO HH.o.row;have k4:w.heap.size < wr.heap.size:=HH.o.blk.lt;have NF:=Hd (show ¬(wr.heap.size=w.heap.size\/wr.heap.size=w.heap.size+1\/(Value.slice au bs.length cu).ownBlock=some wr.heap.size)from fun h=>by
    rcases h with h | h | h
    ·omega
    ·omega
    ·exact g3 h)
   clear g3;go_wp2_with fail
   refine ja5 [0,1,2,3,7,4,5,6,8,9] [4,5,6,9] Ext (jag (fun x=>x=w.heap.size\/x=w.heap.size+1\/(Value.slice au bs.length cu).ownBlock=some x)) ExtR ExtT (fun x y z h k=>jag.trans h k) (fun x y h=>h.mono (fun _ _ h=>h.elim)) vY vY vY ?_;refine qDL ⟨wr.heap.size,0,none⟩ _ rfl (fun w2 h2=>jac Tryz.uInt rfl (jaF (by exact QI.o) h2 (by exact NF.o))) ?_;refine vS ?_;iterate 4 refine vD ?_
   refine qDH _ rfl (fun w1 E K hK=>?_);have d5:=(((ExtR wr).alloc (.cells #[.int .i64 (k:Int)] 3)).trans (jaq _)).trans E;have g4:=jaa (jaa QI.o (jaq _)) E;refine jbV (jaG (vX 103) vY) ((jAa w1 _ wr.heap.size k l (i8.o.ext (HX.o.trans d5)) vO i9.o vO g4).mono ?_);rintro e w2 ⟨v2,n2,rfl,a6⟩;have g5:=Hd a6.rd;have g6:=Hd (d5.trans a6.ext)
   refine⟨_,rfl,hK _ _ (a6.ext.mono (fun _ _ h=>h.elim)) ?_⟩
   obtain⟨a2,c2,j3⟩:=a6.rd.sl
   subst j3;clear hK K E d5 g4 a6;refine vS ?_;refine qDH _ rfl (fun w3 E K hK=>?_);refine jbV (jaG (vX 102) vY) ((jnu w3 _ 1 (cutL k l) (g5.o.ext E) (by have:=f9.o k;omega) (j0.o k)).mono ?_);rintro e w4 ⟨v4,rfl,a7⟩;have g7:=Hd a7.rd;have j4:=Hd ((g6.o.trans E).trans a7.ext)
   refine⟨_,rfl,hK _ _ (a7.ext.mono (fun _ _ h=>h.elim)) ?_⟩
   obtain⟨a4,g8,j5⟩:=a7.rd.sl
   subst j5;clear hK K E a7 g5 g6;refine vS ?_;refine qDH _ rfl (fun d6 E K hK=>?_);have d8:=Hd (j4.o.trans E);have d9:=Hd (g7.o.ext E);have J:=Hd (HH.o.ext d8.o);have e1:=HC.o.ext (HX.o.trans d8.o)
   obtain⟨rk,b9⟩:=vE (if (cutL k l).length=0 then (⟨#[]⟩:vB)else refB (jab (f+1) (jal 1 (cutL k l))).text)
   refine jbV (f:=101) (args:=#[ptrV w.heap.size,.slice a4 (jal 1 (cutL k l)).length g8]) (jaG (vX 101) vY) ((show Calls _ _ _ _ (fun e w'=>∃ u' bs',e=.returned (.string rk)/\jdX w w' w.heap.size (w.heap.size+1) ⟨#[]⟩ (ksK (jab (f+1)) l (k+1)) u' bs'/\bs'.length<=bs.length+1/\Ext w w'/\jag (fun x=>x=w.heap.size\/(Value.slice au bs.length cu).ownBlock=some x) d6 w')from ?hold).mono ?_)
   case hold =>
    rw[jic]
    by_cases hc0:(cutL k l).length=0
    ·rw[b9,if_pos hc0,if_pos hc0,bU,jaJ,hc0]
     refine (jvN d6 w.heap.size a4 g8).mono ?_;rintro e w6 ⟨rfl,rfl⟩
     exact⟨_,bs,rfl,J.o,by omega,J.o.row.ext,jag.refl _ _⟩
    ·rw[b9,if_neg hc0,if_neg hc0]
     exact jxr e1 J.o vO _ (jal 1 (cutL k l)) d9.o (fun e=>hc0 (by have:=jaJ 1 (cutL k l);rw[e]at this;simpa using this.symm)) (by rw[jaJ];have:=f9.o k;omega) _ (e7.o k hc0) (j2.o k hc0 d6 _ e1 d9.o)
   rintro e w6 ⟨u6,j6,rfl,h6,k5,j7,e2⟩
   refine⟨_,rfl,hK _ _ (e2.mono (fun x _ h=>h.elim .inl (fun h=>.inr (.inr h)))) ?_⟩
   have g9:=(HB.o.keeps d8.o (fun h=>h)).keeps e2 (fun h=>by
    rcases h with h | h
    ·omega
    ·exact HH.o.mb h)
   have b8:=Hd g9;have b7:=Hd h6;have j8:=Hd ((j1.o k hlt).trans (by rw[<-b9]));clear hK K E h6 j7 e2 g9 e1 b9 g7 d9 J;refine vS ?_
   refine vD ?_
   refine qDH _ rfl (fun w7 E K hK=>?_);have c8:=b8.o.keeps E (fun h=>h)
   obtain⟨old,q7⟩:∃ v,w7.cell? ⟨w.heap.size+1,3+k,none⟩=some v:=⟨_,c8.cellL (bA (by rw[jad.cells_len _ (jnL a3.o e8)];omega))⟩
   have f7:w7.frozen? ⟨w.heap.size+1,3+k,none⟩=false:=c8.frozen;have e3:=c8.set_same (i:=3+k) (.string rk);rw[show (brN A k).cells.toArray.setIfInBounds (3+k) (.string rk)=((brN A k).cells.set (3+k) (.string rk)).toArray by simp,jnM a3.o hlt rk j8.o]at e3;have h3:=Hd e3;have K8:=jag.oneSet w7 ⟨w.heap.size+1,3+k,none⟩ (.string rk);have h4:=Hd ((b7.o.ext E).other K8);have h5:=Hd (K8.mono (G:=fun x=>x=w.heap.size\/x=w.heap.size+1\/(Value.slice au bs.length cu).ownBlock=some x) (fun x _ e=>.inr (.inl e)));clear E c8 e3 K8 b8 b7;go_simp;refine hK _ _ h5.o ?_;clear hK K q7 f7;refine jcA vY (fun w9 E=>?_);have j9:=Hd (h4.o.ext E);have k0:=Hd (h3.o.keeps E (fun h=>h));clear E h4 h3 h5;go_wp2_with fail
   go_roundw
   case rel=>exact⟨k+1,by omega,by go_num,u6,j6,j9.o,by omega,k0.o⟩
   case measure=>exact vJ
  ·have b2:k=16:=vO
   subst b2;have e4:brN A 16=⟨3,⟨#[]⟩,⟨#[]⟩,A⟩:=by unfold brN jar;rw[cD (by have:=a3.o;omega)];simp
   have Q:=HB.o;rw[e4]at Q;have q1:=jaa Q1.o HX.o
   by_cases hx0:x.size=0
   ·have k1:=ja1 hx0
    have X:q=y:=by rw[a9.o,if_pos hx0]
    have Z:=jaa i6.o HX.o;subst k1;have q2:wr.cell? ⟨w.heap.size+1,2,none⟩=some (.string ⟨#[]⟩):=Q.cellL vF;have f2:wr.frozen? ⟨w.heap.size+1,2,none⟩=false:=Q.frozen;have e5:=Q.set_same (i:=2) (.string y);rw[show (jad.cells ⟨3,⟨#[]⟩,⟨#[]⟩,A⟩).toArray.setIfInBounds 2 (.string y)=(jad.cells ⟨3,⟨#[]⟩,y,A⟩).toArray by simp[jad.cells]]at e5;have a1:=Hd (show Blk (wr.setCell ⟨w.heap.size+1,2,none⟩ (.string y)) (w.heap.size+1) (.cells (jad.cells ⟨3,⟨#[]⟩,q,A⟩).toArray 99)from by rw[X];exact e5);have HH:=Hd (HH.o.other (jag.oneSet wr ⟨w.heap.size+1,2,none⟩ (.string y)));have HV:=Hd X;clear Q e5 e4 X;go_wp2_with (refine jaf 99 (.tmp 4) rfl rfl _ _ rfl (jas _ _ ⟨3,⟨#[]⟩,q,A⟩ a3.o a1.o) ?_)
    refine vH (jj8 (inlP _) _ ⟨3,⟨#[]⟩,q,A⟩ HG.o) fun w9 hE=>?_;have h9:=HH.o.ext hE;have q0:w9.cell? ⟨w.heap.size,0,none⟩=some (.string ⟨#[]⟩):=h9.blk.cell (i:=0) vF;have f0:w9.frozen? ⟨w.heap.size,0,none⟩=false:=h9.blk.frozen;have H9:=Hd (h9.setText (jaR ⟨3,⟨#[]⟩,q,A⟩))
    obtain⟨tx,O⟩:=vE (jaR ⟨3,⟨#[]⟩,q,A⟩)
    rw[<-O]at H9 ⊢;have e6:=Hd O;clear h9 O;go_wp2_with fail
    go_ret
    exact⟨w.heap.size,rfl,by rw[HT.o, <-e6.o];exact H9.o.part,H9.o.row.ext⟩
   ·have k6:=ja4 (s:=x) vO
    have X:q=⟨#[]⟩:=by rw[a9.o,if_neg hx0]
    rw[<-X]at Q;have a1:=Hd (show Blk wr (w.heap.size+1) (.cells (jad.cells ⟨3,⟨#[]⟩,q,A⟩).toArray 99)from by rw[X]at Q ⊢;exact Q);have HV:=Hd X;clear Q e4 X;go_wp2_with (refine jaf 99 (.tmp 4) rfl rfl _ _ rfl (jas _ _ ⟨3,⟨#[]⟩,q,A⟩ a3.o a1.o) ?_)
    refine vH (jj8 (inlP _) _ ⟨3,⟨#[]⟩,q,A⟩ HG.o) fun w9 hE=>?_;have h9:=HH.o.ext hE;have q0:w9.cell? ⟨w.heap.size,0,none⟩=some (.string ⟨#[]⟩):=h9.blk.cell (i:=0) vF;have f0:w9.frozen? ⟨w.heap.size,0,none⟩=false:=h9.blk.frozen;have H9:=Hd (h9.setText (jaR ⟨3,⟨#[]⟩,q,A⟩))
    obtain⟨tx,O⟩:=vE (jaR ⟨3,⟨#[]⟩,q,A⟩)
    rw[<-O]at H9 ⊢;have e6:=Hd O;clear h9 O;go_wp2_with fail
    go_ret
    exact⟨w.heap.size,rfl,by rw[HT.o, <-e6.o];exact H9.o.part,H9.o.row.ext⟩
theorem jkD:∀ (f:Nat) (l:vL),jav f l->l.length<=1000->jik l (jab (f+1) l)
 | f,l,hok,hln=>by
  by_cases h0:l.length=0
  ·exact jqD f l h0
  by_cases h1:l.length=1
  ·exact jr6 f l h1 hok
  have e:2<=l.length:=vO
  cases f with
  | zero =>
   exfalso
   obtain⟨a,A⟩:∃ a,l[0]?=some a:=⟨_,bA vO⟩
   obtain⟨b,hb⟩:∃ b,l[1]?=some b:=⟨_,bA vO⟩
   have o:=jcN hok.rise vO A hb
   have:=(hok.size b (bJ hb)).1
   rw[show b.l=[]from bG (by show b.1.size=0;omega)]at o;exact not_lt_nil _ o
  | succ f =>
   by_cases hk:0 < comK l
   ·exact jr5 f l e hln hok hk (jkD f _ ((jcx (comK l) hok (fun p z q E=>((jby hok e p z).1).trans (jby hok e q E).1.symm) (fun p z=>(jby hok e p z).2)).mono vO) (by rw[jaJ];exact hln))
   ·exact jl6 f l e hln hok hk (fun i _=>jkD f _ (jd8 i hok) (by rw[jaJ];exact bH (fE _ _) hln))
theorem jmP(b:vU):(b >>> 4).toNat=b.toNat / 16:=by
 have:∀ c:Fin 256,(UInt8.ofNat c.1 >>> 4).toNat=c.1 / 16:=by decide
 have h:=this ⟨b.toNat,b.toNat_lt⟩;simpa using h
theorem jmQ(b:vU):(b &&& 15).toNat=b.toNat % 16:=by
 have:∀ c:Fin 256,(UInt8.ofNat c.1 &&& 15).toNat=c.1 % 16:=by decide
 have h:=this ⟨b.toNat,b.toNat_lt⟩;simpa using h
theorem jte:∀ (a b:vN),Lt a b->Lt (jcR a) (jcR b)
 | a,[],h=>absurd h (not_lt_nil _)
 | [],y :: b,_=>rfl
 | x :: a,y :: b,h=>by
  show Lt ((x >>> 4) ::(x &&& 15) :: jcR a) ((y >>> 4) ::(y &&& 15) :: jcR b);have e:=jmP x;have o:=jmP y;have q:=jmQ x;have z:=jmQ y;rcases jbH.1 h with h |⟨he,h2⟩
  ·have h:=fD.1 h
   by_cases hh:x.toNat / 16 < y.toNat / 16
   ·exact jbH.2 (.inl (fD.2 vO))
   ·refine jbH.2 (.inr ⟨dX.1 vO,jbH.2 (.inl (fD.2 vO))⟩)
  ·subst he;exact jbH.2 (.inr ⟨rfl,jbH.2 (.inr ⟨rfl,jte a b h2⟩)⟩)
theorem jbL(s:vB):jaC (jaM s)=true:=by
 unfold jaC jaM;rw[dN];intro x e;have e:x∈jcR s.data.toList:=e;unfold jcR at e
 obtain⟨b,_,hb⟩:=cP.1 e
 have q:=jmP b;have z:=jmQ b;have A:=b.toNat_lt;have o:(15:vU).toNat=15:=rfl;refine decide_eq_true (fU.2 ?_);rcases bM.1 hb with rfl | hb
 ·omega
 ·rw[bP.1 hb];omega
theorem jcJ(s:vB):(jaM s).size=2 * s.size:=by
 show (jcR s.data.toList).length=2 * s.data.toList.length;unfold jcR;induction s.data.toList with
 | nil=>rfl
 | cons x r ih=>rw[cG,bF,ih,bO,bO,bO,dG];omega
structure juO(l:vL):Prop where
 size:∀ p∈l,0 < p.1.size/\p.1.size<=6/\0 < p.2.size/\p.2.size<=80
 rise:l.Pairwise fun p q=>Lt p.l q.l
 len:l.length<=40
theorem jd5:∀ (a b c:vN),Lt a b->Lt b c->Lt a c
 | a,b,[],_,h=>absurd h (not_lt_nil _)
 | a,[],z :: c,h,_=>absurd h (not_lt_nil _)
 | [],y :: b,z :: c,_,_=>rfl
 | x :: a,y :: b,z :: c,h1,h2=>by
  rcases jbH.1 h1 with h |⟨rfl,h⟩
  ·rcases jbH.1 h2 with h' |⟨rfl,h'⟩
   ·exact jbH.2 (.inl (UInt8.lt_trans h h'))
   ·exact jbH.2 (.inl h)
  ·rcases jbH.1 h2 with h' |⟨rfl,h'⟩
   ·exact jbH.2 (.inl h')
   ·exact jbH.2 (.inr ⟨rfl,jd5 a b c h h'⟩)
theorem jaE{l:vL}(h:jaD l=0):juO l:=by
 unfold jaD at h;split at h
 ·cases h
 rename_i hb
 split at h
 ·cases h
 rename_i hl
 have A:∀ i,i < l.length->badN l i=false:=fun i o=>by
  cases hbi:badN l i with
  | false=>rfl
  | true=>exact absurd (fQ.2 ⟨i,dR.2 o,hbi⟩) hb
 refine⟨fun p O=>?_,?_,by omega⟩
 ·obtain⟨i,o⟩:=gL O
  have q:=A i (bW.1 o).1;have Q:l.getD i (⟨#[]⟩,⟨#[]⟩)=p:=by rw[bE,o];rfl
  unfold badN at q;rw[Q]at q;simp only[gN,Bool.not_eq_false']at q;have z:=q.1.1;have H:=q.1.2;unfold jei at z;unfold jcT at H;simp only[decide_eq_true_eq]at z H
  exact⟨z.1,z.2,H.1,H.2⟩
 ·have E:∀ i,i+1 < l.length->Lt (l.getD i pd).l (l.getD (i+1) pd).l:=fun i o=>by
   have q:=A (i+1) o;unfold badN at q;simp only[gN,Bool.and_eq_false_iff,Bool.not_eq_false']at q;rcases q.2 with z | z
   ·simp at z
   ·rw[Nat.add_sub_cancel]at z
    have:Op.bytesLess (l.getD i pd).1.toList (l.getD (i+1) pd).1.toList=true:=z
    rw[bN,bN]at this;exact this
  rw[gP];intro i j o X Z;have e:∀ k (K:k < l.length),l.getD k pd=l[k]:=fun k K=>by rw[bE,bA K];rfl
  have J:∀ d,∀ i,i+d+1 < l.length->Lt (l.getD i pd).l (l.getD (i+d+1) pd).l:=by
   intro d;induction d with
   | zero=>exact fun i o=>E i o
   | succ d ih=>exact fun i o=>jd5 _ _ _ (ih i vO) (E (i+d+1) o)
  have:=J (j - i - 1) i vO
  rw[show i+(j - i - 1)+1=j by omega,e i o,e j X]at this;exact this
theorem jbt{l:vL}(h:juO l):jav 12 (jaO l):=by
 refine⟨fun p e=>?_,?_⟩
 ·obtain⟨q,o,rfl⟩:=bI.1 e
  obtain⟨E,H,z,A⟩:=h.size q o
  have J:=jcJ q.1
  exact⟨by show (jaM q.1).size<=_;omega,by show (jaM q.1).size<=_;omega,jbL _,z,A⟩
 ·unfold jaO
  rw[List.pairwise_map];exact h.rise.imp fun {p q} h=>jte _ _ h
def jay(l:vL):PT:=jab 13 (jaO l)
section
attribute [local go_sem] Oper.semAt_some
inductive AT where
 | mk (b:Nat) (text:vB) (v:vV) (kids:List AT)
def AT.root:AT->Nat | .mk b _ _ _=>b
mutual
def AtIs(A:Nat->Prop):AT->vW->Prop
 | .mk b t v ks,W=>A b/\Blk W b (.cells #[.string t,v] 141)/\RdQ A W v (ks.map AT.root)/\jeM A ks W
def jeM(A:Nat->Prop):List AT->vW->Prop
 | [],_=>True
 | k :: ks,W=>AtIs A k W/\jeM A ks W
end
mutual
def AT.pt:AT->PT
 | .mk _ t _ ks=>.mk t (AT.pts ks)
def AT.pts:List AT->List PT
 | []=>[]
 | k :: ks=>AT.pt k :: AT.pts ks
end
mutual
def jau:PT->vM
 | .mk t ks=>t :: jaH ks
def jaH:List PT->vM
 | []=>[]
 | k :: ks=>jau k++jaH ks
end
mutual
theorem jz5{A:Nat->Prop}{W:vW}:∀ (T:PT) (b:Nat),jb2 A T b W->∃ a:AT,a.root=b/\a.pt=T/\AtIs A a W
 | .mk t ks,b,h=>by
  unfold jb2 at h
  obtain⟨e,v,o,q,z,E⟩:=h
  obtain⟨H,J,K,O⟩:=jxd ks o E
  exact⟨.mk b t v H,rfl,by unfold AT.pt;rw[K],by unfold AtIs;exact⟨e,q,by rw[J];exact z,O⟩⟩
theorem jxd{A:Nat->Prop}{W:vW}:∀ (ks:List PT) (bs:List Nat),jaT A ks bs W->∃ e:List AT,e.map AT.root=bs/\AT.pts e=ks/\jeM A e W
 | [],bs,h=>by
  unfold jaT at h;subst h
  exact⟨[],rfl,by unfold AT.pts;rfl,by unfold jeM;trivial⟩
 | x :: ks,bs,h=>by
  unfold jaT at h
  obtain⟨b,r,rfl,o,q⟩:=h
  obtain⟨a,z,E,H⟩:=jz5 x b o
  obtain⟨e,J,K,O⟩:=jxd ks r q
  exact⟨a :: e,by rw[bV,z,J],by unfold AT.pts;rw[E,K],by unfold jeM;exact⟨H,O⟩⟩
end
mutual
theorem AtIs.keeps{A:Nat->Prop}{F:BSet}{W W':vW}(k:jag F W W')(hF:∀ x,A x->¬ F x):∀ (a:AT),AtIs A a W->AtIs A a W'
 | .mk b t v ks,h=>by
  unfold AtIs at *
  obtain⟨e,o,q,z⟩:=h
  exact⟨e,o.keeps k (hF b e),q.keeps k hF,jeM.keeps k hF ks z⟩
theorem jeM.keeps{A:Nat->Prop}{F:BSet}{W W':vW}(k:jag F W W')(hF:∀ x,A x->¬ F x):∀ (ks:List AT),jeM A ks W->jeM A ks W'
 | [],_=>by unfold jeM;trivial
 | x :: ks,h=>by
  unfold jeM at *
  exact⟨AtIs.keeps k hF x h.1,jeM.keeps k hF ks h.2⟩
end
theorem jeM.get{A:Nat->Prop}{W:vW}:∀ (ks:List AT) (j:Nat) (a:AT),jeM A ks W->ks[j]?=some a->AtIs A a W
 | [],j,a,_,h=>by simp at h
 | x :: ks,0,a,h,hj=>by simp at hj;subst hj;unfold jeM at h;exact h.1
 | x :: ks,j+1,a,h,hj=>by unfold jeM at h;exact jeM.get ks j a h.2 (by simpa using hj)
theorem jmr:∀ (ks:List AT) (j:Nat) (a:AT),ks[j]?=some a->jaH (AT.pts (ks.take (j+1)))=jaH (AT.pts (ks.take j))++jau a.pt
 | [],j,a,h=>by simp at h
 | x :: ks,0,a,h=>by
  simp at h;subst h;simp[AT.pts,jaH]
 | x :: ks,j+1,a,h=>by
  have:=jmr ks j a (by simpa using h)
  simp only[dW,AT.pts,jaH,this,bX]
theorem jpe:∀ (ks:List AT) (j:Nat),∃ r,jaH (AT.pts ks)=jaH (AT.pts (ks.take j))++r
 | ks,0=>⟨jaH (AT.pts ks),by simp[AT.pts,jaH]⟩
 | [],j+1=>⟨[],by simp[AT.pts,jaH]⟩
 | x :: ks,j+1=>by
  obtain⟨r,h⟩:=jpe ks j
  exact⟨r,by simp only[dW,AT.pts,jaH,h,bX]⟩
def jer(L m:vM)(p:Nat):Prop:=∀ j x,m[j]?=some x->L[p+j]?=some x
theorem jer.left{L m n:vM}{p:Nat}(h:jer L (m++n) p):jer L m p:=fun j x e=>h j x (by rw[cW (bW.1 e).1];exact e)
theorem jer.right{L m n:vM}{p:Nat}(h:jer L (m++n) p):jer L n (p+m.length):=fun j x e=>by
 have:=h (m.length+j) x (by rw[dA vO,Nat.add_sub_cancel_left];exact e)
 rw[Nat.add_assoc];exact this
theorem jer.le{L m:vM}{p:Nat}(h:jer L m p)(hm:m≠[]):p+m.length<=L.length:=by
 have e:0 < m.length:=gC.2 hm
 have:=h (m.length - 1) _ (bA vO)
 have:=(bW.1 this).1
 omega
theorem jvA(T:PT):1<=(jau T).length:=by cases T;unfold jau;simp
theorem jpd:∀ (ks:List AT),ks.length<=(jaH (AT.pts ks)).length
 | []=>by simp
 | x :: ks=>by
  have:=jpd ks
  have:=jvA x.pt
  simp only[AT.pts,jaH,bF,bO];omega
def jku(C Cx:Nat->vW->Prop)(n N:Nat)(e:Ending)(W':vW):Prop:=(e=.returned (.bool true)/\C n W')\/(e=.returned (.bool false)/\∃ q,0 < q/\q<=N/\Cx q W')
def jxS(C:Nat->vW->Prop)(p:Nat)(ks:List AT)(v:vV)(wr:vW):Prop:=∃ j:Nat,j<=ks.length/\v=.int .i64 j/\C (p+1+(jaH (AT.pts (ks.take j))).length) wr
theorem juu(A:Nat->Prop)(l:Nat)(C Cx:Nat->vW->Prop)(hC:∀ k,St (C k))(L:vM)(hLn:L.length<=1000000)
  (hY:∀ j q,j < L.length->C j q->joK Tryz.prog l #[.string (L.getD j ⟨#[]⟩)] q (C (j+1)) (Cx (j+1)))
  (b:Nat) (t:vB) (v:vV) (ks:List AT)
  (IHk:∀ a∈ks,∀ (p:Nat) (W:vW),jer L (jau a.pt) p->(∀ j q,C j q->AtIs A a q)->C p W ->
   CallsIn Fence.wide 0 Tryz.prog 123 #[ptrV a.root,.func (.yield l) #[] #[]] W (jku C Cx (p+(jau a.pt).length) L.length))
  (p:Nat) (W:vW) (hL:jer L (jau (AT.mk b t v ks).pt) p) (hS:∀ j q,C j q->AtIs A (.mk b t v ks) q) (h0:C p W) :
   CallsIn Fence.wide 0 Tryz.prog 123 #[ptrV b,.func (.yield l) #[] #[]] W (jku C Cx (p+(jau (AT.mk b t v ks).pt).length) L.length):=by
  have e1:jau (AT.pt (.mk b t v ks))=t :: jaH (AT.pts ks):=by unfold AT.pt jau;rfl
  rw[e1]at hL ⊢;have hp:p < L.length:=by have:=hL 0 t rfl;exact (bW.1 this).1
  have hg:L.getD p ⟨#[]⟩=t:=by rw[bE];have:=hL 0 t rfl;rw[gV]at this;rw[this];rfl
  have H:∀ j q,C j q->Blk q b (.cells #[.string t,v] 141)/\RdQ A q v (ks.map AT.root)/\jeM A ks q:=fun j q h=>by
   have:=hS j q h;unfold AtIs at this;exact this.2
  obtain⟨fn,tm,b4,bd,X,a3⟩:=hY p W hp h0
  rw[hg]at X;have q0:=(H p W h0).1.cell (i:=0) (v:=.string t) vF
  obtain⟨av,cv,hv⟩:=(H p W h0).2.1.sl
  rw[cB]at hv;subst hv;have b5:ks.length<=1000000:=by
   have h1:=jpd ks;have h2:=hL.le (by simp);simp only[bO]at h2;omega
  have a4:=Hd a3;have HS:=Hd H;have HY:=Hd hY;have HC:=Hd hC;have a5:=Hd IHk;have HL:=Hd hL;clear H hS a3 hg h0 e1 hL hY hC IHk;unfold ptrV;refine callsIn_of_wp Tryz.func123 rfl trivial ?_ rfl;simp only[Tryz.ntmps123,cT,bO,dG,Nat.reduceAdd,Nat.reduceSub,cY,cX,dI,dC,cM,cQ];gi_wp2_with fail
  refine⟨rfl,a4.o.mono ?_⟩
  rintro e w5 (⟨rfl,C5⟩ |⟨rfl,C5⟩)
  ·have q1:=(HS.o _ _ C5).1.cell (i:=1) (v:=.slice av ks.length cv) vF
   have J:=Hd C5;clear C5 q0 X;gi_wp2_with fail
   gi_loopw [19] (fun v wr=>jxS C p ks v wr) (fun v _=>ks.length - (intOf v).toNat)
   case atStart=>exact⟨0,by omega,rfl,by simpa [AT.pts,jaH]using J.o⟩
   case round =>
    obtain⟨j,hj,rfl,z⟩:=hrel
    by_cases hlt:j < ks.length
    ·obtain⟨a6,Z,a7⟩:=HS.o _ _ z
     obtain⟨a,ha⟩:∃ a,ks[j]?=some a:=⟨_,bA hlt⟩
     have K:a∈ks:=bJ ha;have a0:=jmr ks j a ha
     obtain⟨a2,O⟩:=jpe ks (j+1)
     have Q:jer L (jau a.pt) (p+1+(jaH (AT.pts (ks.take j))).length):=by
      have h1:jer L ([t]++(jaH (AT.pts (ks.take j))++(jau a.pt++a2))) p:=by
       have:=HL.o
       rw[O,a0,bX]at this;exact this
      exact (h1.right.right).left
     rcases Z with⟨_,h0⟩ |⟨g,c,hh,_,_,_,_,hcell⟩
     ·rw[List.map_eq_nil_iff]at h0;rw[h0]at hlt;cases hlt
     obtain⟨rfl,a8,a9⟩:=fY hh
     clear a8 a9;have qj:wr.cell? ⟨g,j,none⟩=some (ptrV a.root):=hcell j a.root (by rw[cA,ha];rfl)
     obtain⟨ar,a1⟩:=vE a.root
     rw[<-a1]at qj;have b1:(j:Int) < (ks.length:Int):=vO
     have ih:=a5.o a K _ wr Q (fun j' q h=>jeM.get ks j a (HS.o j' q h).2.2 ha) z;rw[<-a1]at ih;have IH:=Hd ih;have b0:=Hd a0;unfold ptrV at qj;clear a6 a7 hcell hh O Q ih a0 z ha a1 q1 K J;gi_wp2_with fail
     refine⟨trivial,rfl,IH.o.mono ?_⟩
     rintro e w6 (⟨rfl,C6⟩ |⟨rfl,q',Z,b2,C6⟩)
     ·have E:=Hd C6
      clear C6;gi_wp2_with fail
      go_roundw
      case rel=>exact⟨j+1,by omega,by go_num,by rw[b0.o,bF, <-Nat.add_assoc];exact E.o⟩
      case measure=>exact vJ
     ·have E:=Hd C6
      clear C6;gi_wp2_with fail
      go_ret;exact .inr ⟨rfl,q',Z,b2,E.o⟩
    ·have b3:j=ks.length:=vO
     subst b3;rw[cF]at z;have E:=Hd z;clear z;gi_wp2_with fail
     go_ret;exact .inl ⟨rfl,by rw[show p+((jaH (AT.pts ks)).length+1)=p+1+(jaH (AT.pts ks)).length by omega];exact E.o⟩
  ·have J:=Hd C5
   clear C5 q0 X;gi_wp2_with fail
   go_ret;exact .inr ⟨rfl,p+1,by omega,by omega,J.o⟩
theorem jut(A:Nat->Prop)(l:Nat)(C Cx:Nat->vW->Prop)(hC:∀ k,St (C k))(L:vM)(hLn:L.length<=1000000)
  (hY:∀ j W',j < L.length->C j W'->joK Tryz.prog l #[.string (L.getD j ⟨#[]⟩)] W' (C (j+1)) (Cx (j+1))) :
  ∀ (a:AT) (p:Nat) (W:vW),jer L (jau a.pt) p->(∀ j W',C j W'->AtIs A a W')->C p W ->
   CallsIn Fence.wide 0 Tryz.prog 123 #[ptrV a.root,.func (.yield l) #[] #[]] W (jku C Cx (p+(jau a.pt).length) L.length)
 | .mk b t v ks,p,W,hL,hS,h0=>juu A l C Cx hC L hLn hY b t v ks (fun a e=>jut A l C Cx hC L hLn hY a) p W hL hS h0
termination_by a=>SizeOf.sizeOf a
decreasing_by
 have:=List.sizeOf_lt_of_mem e
 simp
 omega
def jrK(L:vM)(k:Nat):Array vV:=#[.string (L.getD k ⟨#[]⟩)]
theorem jz2(A:Nat->Prop)(bx:Nat)(a:AT)(hLn:(jau a.pt).length<=1000000):juN Tryz.prog 122 #[.pointer (some ⟨bx,0,none⟩)] (jau a.pt).length (jrK (jau a.pt)) (fun W=>Blk W bx (.cells #[ptrV a.root] 142)/\AtIs A a W):=by
 intro l C Cx Z q z W hY E;have hT:=jut A l C Cx Z (jau a.pt) hLn (fun j H hj hc=>hY j H hj hc) a 0 W (fun j x hx=>by rw[cR];exact hx) (fun j H h=>(z j H h).2) E;have q0:=(z 0 W E).1.cell (i:=0) (v:=ptrV a.root) vF;have HT:=Hd hT;clear hT hY Z q z E;unfold ptrV at q0
 obtain⟨r,J⟩:=vE a.root
 rw[<-J]at q0 HT;have HR:=Hd J;clear J;refine callsIn_of_wp Tryz.func122 rfl trivial ?_ rfl;simp only[Tryz.ntmps122,cT,bO,dG,Nat.reduceAdd,Nat.reduceSub,cY,cX,dI,dC,cM,cQ];gi_wp2_with fail
 refine⟨trivial,rfl,HT.o.mono ?_⟩
 rintro e w5 (⟨rfl,C5⟩ |⟨rfl,q',K,O,C6⟩)
 ·have Q:=Hd C5
  clear C5;gi_wp2_with fail
  refine bodyPost_end (results_none rfl _ _ _) rfl ?_
  exact⟨⟨_,rfl⟩,.inl (by have:=Q.o;rw[cR]at this;exact this)⟩
 ·have X:=Hd C6
  clear C6;gi_wp2_with fail
  refine bodyPost_end (results_none rfl _ _ _) rfl ?_
  exact⟨⟨_,rfl⟩,.inr ⟨q',O,K,X.o⟩⟩
theorem jBz(w:vW)(k:Nat):vQ 85 #[ptrV k] w fun e w'=>e=.returned (.func (.func 122) #[] #[.pointer (some ⟨w.heap.size,0,none⟩)])/\Blk w' w.heap.size (.cells #[ptrV k] 142)/\Ext w w':=by
 unfold ptrV;go_enter Tryz.func85,Tryz.ntmps85;go_wp2_with fail
 go_ret
 exact⟨rfl,Blk.new w _,(ExtR w).alloc _⟩
def memB(acc:vM)(x:vB):Bool:=(acc.map (·.data.toList)).contains x.data.toList
theorem jeZ(acc:vM)(x:vB):memB acc x=true↔x∈acc:=by
 unfold memB;rw[cZ,bI]
 exact⟨fun ⟨y,o,e⟩=>by rw[<-show y=x from ByteArray.ext (Array.ext' e)];exact o,fun h=>⟨x,h,rfl⟩⟩
def addF(acc:vM)(x:vB):vM:=if memB acc x=true then acc else acc++[x]
def ja7(l:vM):vM:=l.foldl addF []
theorem juT(acc:vM)(x y:vB):y∈addF acc x↔y∈acc\/y=x:=by
 unfold addF;split
 ·rename_i h;exact⟨.inl,fun o=>o.elim id (fun e=>e ▸ (jeZ _ _).1 h)⟩
 ·simp
theorem jaQ(l:vM)(y:vB):y∈ja7 l↔y∈l:=by
 unfold ja7
 suffices ∀ e,y∈l.foldl addF e↔y∈e\/y∈l by simpa using this []
 induction l with
 | nil=>intro e;simp
 | cons x r ih=>intro e;rw[fI,ih,juT,bM];exact or_assoc
theorem jgh(l:vM)(x:vB):ja7 (l++[x])=addF (ja7 l) x:=by
 unfold ja7;rw[fM];rfl
theorem jhm(l:vM):(ja7 l).length<=l.length:=by
 unfold ja7
 suffices ∀ e,(l.foldl addF e).length<=e.length+l.length by simpa using this []
 induction l with
 | nil=>intro e;simp
 | cons x r ih =>
  intro e;rw[fI,bO];have o:=ih (addF e x);have q:(addF e x).length<=e.length+1:=by unfold addF;split <;> simp
  omega
theorem jcy{K:Type}[DecidableEq K](k:K)(v:vV)(n:Nat)(k':K):∀ (l:List (Ent K)),jaS (jbo l k v n) k'=if k'=k then some v else jaS l k'
 | []=>by
  by_cases h:k'=k
  ·subst h;simp[jbo,jaS]
  ·simp[jbo,jaS,h]
 | x :: r=>by
  have z:=jcy k v n k' r;unfold jbo
  by_cases hk:k=x.1
  ·rw[if_pos hk]
   by_cases h:k'=k
   ·subst h;simp[jaS]
   ·have o:¬ k'=x.1:=fun e=>h (e.trans hk.symm)
    simp[jaS,h,o]
  ·rw[if_neg hk]
   by_cases h:k'=x.1
   ·have o:¬ k'=k:=fun e=>hk (e.symm.trans h)
    rw[if_neg o];simp[jaS,h]
   ·have q:∀ l,jaS (x :: l) k'=jaS l k':=fun l=>by simp[jaS,h]
    rw[q,q,z]
def cntB(l:vM)(x:vB):Nat:=(l.map (·.data.toList)).count x.data.toList
def cntV(n:Nat):Option vV:=if n=0 then none else some (.int .i64 (n:Int))
theorem Tryz.uMapSI:Tryz.prog.underlying 82=some (.map 9 3):=vY
noncomputable abbrev Tryz.ES:ja6 Tryz.prog 9 (vN):=jAy Tryz.uStr
theorem Tryz.zeroI(w:vW):(zeroValue 3).run Tryz.prog w=.ok (.int .i64 0) w:=vY
structure NodS(w:World)(g m:Nat)(A:Nat->Prop)(bx:Nat)(a:AT)(L:vM)(k:Nat)(W:World):Prop where
 ext:Ext w W
 var:∃ v n,Blk W g (.cells #[v] 22)/\W.ownsRow 0 9 1 v n ((ja7 (L.take k)).map Value.string)/\n<=k/\∀ b,v.ownBlock=some b->m+2<=b
 tab:∃ es ck,Blk W (g+1) (.map (Tryz.ES.arr es) ck)/\∀ x:vB,jaS es x.data.toList=cntV (cntB (L.take k) x)
 mv:Blk W (g+2) (.cells #[.map (some (g+1))] 82)
 box:Blk W bx (.cells #[ptrV a.root] 142)
 at':AtIs A a W
theorem NodS.st{w:vW}{g m:Nat}{A:Nat->Prop}{bx:Nat}{a:AT}{L:vM}{k:Nat}{W W':vW}(h:NodS w g m A bx a L k W)(e:Ext W W'):NodS w g m A bx a L k W':=
 let ⟨v,n,h1,h2,h3,h4⟩:=h.var
 let ⟨es,ck,h5,h6⟩:=h.tab
 ⟨h.ext.trans e,⟨v,n,h1.keeps e (fun h=>h),jbm h2 e,h3,h4⟩,⟨es,ck,h5.keeps e (fun h=>h),h6⟩,h.mv.keeps e (fun h=>h),h.box.keeps e (fun h=>h),AtIs.keeps e (fun _ _ h=>h) a h.at'⟩
theorem NodS.put{w:vW}{g m:Nat}{A:Nat->Prop}{bx:Nat}{a:AT}{L:vM}{k:Nat}{W:vW}(h:NodS w g m A bx a L k W){r:Nat}(hr:w.heap.size<=r)(h1:g+2 < r)(h2:r < m+2)(h3:bx≠r)(h4:∀ x,A x->x≠r)(o:Obj):NodS w g m A bx a L k (W.putObj r o):=
 let ⟨v,n,h5,h6,h7,h8⟩:=h.var
 let ⟨es,ck,h9,h10⟩:=h.tab
 ⟨h.ext.putObj (.inr hr) _,⟨v,n,h5.put_other vO _,jaY h6 (jag.onePut W r o) (fun b hb e=>by have:=h8 b hb;omega),h7,h8⟩,⟨es,ck,h9.put_other vO _,h10⟩,h.mv.put_other vO _,h.box.put_other h3 _,
  AtIs.keeps (jag.onePut W r o) (fun x q e=>h4 x q e) a h.at'⟩
end
def jdo(l:vL):Nat->Nat
 | 0=>0
 | n+1=>jdo l n+(cutL n l).length
def hN(L:vN)(n:Nat):Nat:=match L with | []=>0 | a :: _=>if a.toNat < n then 1 else 0
theorem jyp(p:Pair)(n:Nat):hN p.l (n+1)=hN p.l n+(if jfu n p=true then 1 else 0):=by
 have e:jfu n p=match p.l with | []=>false | a :: _=>a.toNat == n:=rfl
 rw[e];cases p.l with
 | nil=>rfl
 | cons a r =>
  simp only[hN,beq_iff_eq]
  by_cases h1:a.toNat=n
  ·rw[if_pos vO,if_neg vO,if_pos h1]
  ·by_cases h3:a.toNat < n
   ·rw[if_pos vO,if_pos h3,if_neg h1]
   ·rw[if_neg vO,if_neg h3,if_neg h1]
theorem jAt(L:vN)(n:Nat):hN L n<=1:=by
 cases L with
 | nil=>exact bY _
 | cons a r=>simp only[hN];split <;> omega
theorem jgc(p:Pair)(l:vL):∀ n,jdo (p :: l) n=jdo l n+hN p.l n
 | 0=>by
  have:hN p.l 0=0:=by cases p.l <;> simp[hN]
  rw[this];rfl
 | n+1=>by
  have h:(cutL n (p :: l)).length=(cutL n l).length+(if jfu n p=true then 1 else 0):=by
   unfold cutL;rw[dU];split <;> simp
  unfold jdo;rw[jgc p l n,h,jyp];omega
theorem jfi:∀ (l:vL) (n:Nat),jdo l n<=l.length
 | [],n=>by
  have:∀ n,jdo [] n=0:=fun n=>by induction n with
   | zero=>rfl
   | succ n ih=>unfold jdo;rw[ih];rfl
  rw[this];exact bY _
 | p :: l,n=>by
  rw[jgc,bO]
  have:=jfi l n
  have:=jAt p.l n
  omega
theorem jdI:∀ (a b:List PT),jaH (a++b)=jaH a++jaH b
 | [],b=>by simp[jaH]
 | x :: a,b=>by simp only[cQ,jaH,jdI a b,bX]
theorem jiO(T:PT):(jaH (jbG T)).length<=(jau T).length:=by
 unfold jbG;split <;> simp[jaH]
theorem jAz(B:vL->PT)(F:Nat)(l:vL)(hB:∀ i,(cutL i l).length≠0->(jau (B (jal 1 (cutL i l)))).length<=F * (cutL i l).length):∀ n,(jaH (ksK B l n)).length<=F * jdo l n
 | 0=>by simp[ksK,jaH,jdo]
 | n+1=>by
  rw[jic,jdI,bF];unfold jdo;rw[Nat.mul_add]
  have:=jAz B F l hB n
  by_cases h0:(cutL n l).length=0
  ·rw[if_pos h0];simp[jaH];omega
  ·rw[if_neg h0]
   have e:=hB n h0;have o:=jiO (B (jal 1 (cutL n l)));omega
theorem jn0:∀ (f:Nat) (l:vL),l≠[]->(jau (jab (f+1) l)).length<=(f+1) * l.length
 | f,l,hl=>by
  have z:1<=l.length:=gC.2 hl;show (jau (.mk (jaR (jao (jab f) l)) (jat (jab f) l))).length<=_;unfold jau;rw[bO];have A:(jaH (jat (jab f) l)).length<=f * l.length:=by
   unfold jat;split
   ·simp[jaH]
   ·split
    ·cases f with
     | zero =>
      have h:=jiO (jab 0 (jal (comK l) l));have E:jbG (jab 0 (jal (comK l) l))=[]:=rfl;rw[E];simp[jaH]
     | succ f =>
      have h:=jiO (jab (f+1) (jal (comK l) l));have o:=jn0 f (jal (comK l) l) (fun e=>by have:=jaJ (comK l) l;rw[e]at this;simp at this;omega);rw[jaJ]at o;omega
    ·cases f with
     | zero =>
      have:∀ n,ksK (jab 0) l n=[]:=fun n=>by
       induction n with
       | zero=>rfl
       | succ n o =>
        rw[jic,o];split
        ·rfl
        ·rfl
      have q:=this 16;unfold ksK at q;rw[q];simp[jaH]
     | succ f =>
      have h:=jAz (jab (f+1)) (f+1) l (fun i K=>by
       have o:=jn0 f (jal 1 (cutL i l)) (fun e=>by have:=jaJ 1 (cutL i l);rw[e]at this;simp at this;omega)
       rwa [jaJ]at o) 16
      have H:=Nat.mul_le_mul_left (f+1) (jfi l 16);have J:ksK (jab (f+1)) l 16=(List.range 16).flatMap fun i=>if (cutL i l).length=0 then []else jbG (jab (f+1) (jal 1 (cutL i l))):=rfl
      rw[<-J];exact bH h H
  have:(f+1) * l.length=f * l.length+l.length:=by rw[Nat.succ_mul]
  omega
theorem jqb{l:vL}(h:juO l):(jau (jay l)).length<=13 * l.length+1:=by
 by_cases h0:l=[]
 ·subst h0
  show (jau (.mk (jaR (jao (jab 12) [])) (jat (jab 12) []))).length<=_
  have:jat (jab 12) []=[]:=rfl
  rw[this];simp[jau,jaH]
 ·have o:(jau (jay l)).length<=13 * (jaO l).length:=jn0 12 (jaO l) (fun e=>h0 (by unfold jaO at e;simpa using e))
  have q:(jaO l).length=l.length:=by unfold jaO;rw[cB]
  rw[q]at o;omega
section
attribute [local go_sem] Oper.semAt_some
theorem Tryz.makeMapSI(W:vW):(Instr.makeMap 82 none).run Tryz.prog W=.ok (.map (some W.heap.size)) (W.alloc (.map #[] 0)):=vY
theorem jwb(w:vW)(v:vV)(l:vL)(hc:jbN w)(hv:RdP w v l)(h:jaD l=0):vQ 61 #[v] w fun e w'=>∃ u n,e=.returned (.tuple #[u,.int .i64 0])/\SRow w w' u n (ja7 (jau (jay l))):=by
 have hm:=jaE h
 obtain⟨a,c,rfl⟩:=hv.sl;have HV:=Hd hv;have HM:=Hd hm;have HC:=Hd hc;have H:=Hd h;have HL:=Hd hm.len
 obtain⟨T,hT⟩:=vE (jay l)
 rw[<-hT];have c9:=Hd hT;clear hv hm hc h hT;refine (callsIn_wide (n:=0)).1 ?_;refine callsIn_of_wp_marks Tryz.func61 rfl trivial ?_ rfl;simp only[Tryz.ntmps61,cT,bO,dG,Nat.reduceAdd,Nat.reduceSub,cY,cX,dI,dC,cM,cQ];gi_wp2_with fail
 refine⟨trivial,rfl,CallsIn.mono (callsIn_wide.2 (jhi w _ l HV.o (by have:=HL.o;omega) (fun p hp=>by have:=HM.o.size p hp;omega))) ?_⟩
 rintro e w1 ⟨rfl,z⟩;rw[H.o];have HE:=Hd z;have g9:=z.size;clear z;have f1:(Instr.makeMap 82 none).run Tryz.prog (w1.alloc (.cells #[.slice none 0 0] 22))=.ok (.map (some (w1.heap.size+1))) ((w1.alloc (.cells #[.slice none 0 0] 22)).alloc (.map #[] 0)):=by
  rw[<-bK w1 (.cells #[.slice none 0 0] 22)];exact Tryz.makeMapSI _
 gi_wp2_with fail
 obtain⟨W6,O⟩:=vE (((w1.alloc (.cells #[.slice none 0 0] 22)).alloc (.map #[] 0)).alloc (.cells #[.map (some (w1.heap.size+1))] 82))
 rw[<-O];have h7:W6.heap.size=w1.heap.size+3:=by rw[O];simp
 have E6:Ext w1 W6:=by rw[O];exact (((ExtR w1).alloc _).alloc _).alloc _
 have B5:Blk W6 w1.heap.size (.cells #[.slice none 0 0] 22):=by rw[O];exact ((Blk.new w1 _).alloc _).alloc _
 have BM:Blk W6 (w1.heap.size+1) (.map #[] 0):=by
  rw[O];have:=(Blk.new (w1.alloc (.cells #[.slice none 0 0] 22)) (.map #[] 0)).alloc (.cells #[.map (some (w1.heap.size+1))] 82);rwa [bK]at this
 have B6:Blk W6 (w1.heap.size+2) (.cells #[.map (some (w1.heap.size+1))] 82):=by
  rw[O];have:=Blk.new ((w1.alloc (.cells #[.slice none 0 0] 22)).alloc (.map #[] 0)) (.cells #[.map (some (w1.heap.size+1))] 82);rwa [bK,bK]at this
 clear O f1
 refine⟨trivial,rfl,CallsIn.mono (callsIn_wide.2 (jxy W6 _ l ((HV.o.ext HE.o).ext E6) (by have:=HL.o;omega) (fun p hp=>by have:=HM.o.size p hp;omega))) ?_⟩
 rintro e w7 ⟨u,rfl,hr⟩;have HR:=Hd hr.rd;have Q:Ext W6 w7:=hr.ext;clear hr
 obtain⟨a2,c2,hu⟩:=HR.o.sl
 subst hu;have f2:=Hd Q;have d0:=Hd (B5.keeps Q (fun h=>h));have d1:=Hd (BM.keeps Q (fun h=>h));have d2:=Hd (B6.keeps Q (fun h=>h));have b5:=Hd ((HE.o.trans E6).trans Q);have h8:=Q.size;clear B5 BM B6 E6 Q;gi_wp2_with fail
 refine⟨trivial,rfl,CallsIn.mono (callsIn_wide.2 (jkD 12 (jaO l) (jbt HM.o) (by unfold jaO;rw[cB];have:=HL.o;omega) w7 _ (HC.o.ext b5.o) HR.o)) ?_⟩
 rintro e w8 ⟨k,rfl,hk,z⟩;have hk:=jb2.mono (A':=fun x=>w7.heap.size<=x/\x < w8.heap.size) (fun x h1 h2=>⟨h1,h2⟩) _ _ hk
 obtain⟨q,d3,d4,d5⟩:=jz5 _ _ hk
 have i1:=z.size;have a3:=Hd (d0.o.keeps z (fun h=>h));have a4:=Hd (d1.o.keeps z (fun h=>h));have a5:=Hd (d2.o.keeps z (fun h=>h));have d6:=Hd (b5.o.trans z);have d7:=Hd d5;have Z:=Hd d4;rw[<-d3];clear hk d3 d4 d5 z d0 d1 d2 b5 f2 HR HE;gi_wp2_with fail
 refine⟨trivial,rfl,CallsIn.mono (callsIn_wide.2 (jBz w8 q.root)) ?_⟩
 rintro e w9 ⟨rfl,b6,z⟩;have b7:q.pt=T:=Z.o.trans c9.o.symm;have a6:(jau q.pt).length<=1000000:=by
  rw[b7,c9.o];have:=jqb HM.o;have:=HL.o;omega
 have i2:=b6.lt
 obtain⟨A,hA⟩:∃ A:Nat->Prop,A=fun x=>w7.heap.size<=x/\x < w8.heap.size:=⟨_,rfl⟩
 have S0:NodS w w1.heap.size w9.heap.size A w8.heap.size q (jau q.pt) 0 w9:=
  ⟨d6.o.trans z,⟨_,0,a3.o.keeps z (fun h=>h),by simpa [ja7]using fL _ _ _ _,bL _,fun b hb=>by cases hb⟩,⟨[],0,a4.o.keeps z (fun h=>h),fun x=>by simp[jaS,cntB,cntV]⟩,a5.o.keeps z (fun h=>h),b6,by rw[hA];exact AtIs.keeps z (fun _ _ h=>h) _ d7.o⟩
 have b2:=Hd S0;have a7:∀ x,A x->w1.heap.size+2 < x/\x < w9.heap.size:=fun x hx=>by rw[hA]at hx;omega
 have g5:w1.heap.size+2 < w8.heap.size:=vO
 obtain⟨L,b8⟩:=vE (jau q.pt)
 have b9:=jz2 A w8.heap.size q a6;rw[<-b8]at b9 a6 b2;have f3:=Hd b9;have f4:=Hd b8;have E:=Hd a7;have c8:=Hd b7;clear S0 z b6 hA d6 a3 a4 a5 d7 Z b7 b8 b9 a7;unfold ptrV;gi_wp2_with fail
 refine jd9 (N:=L.length) (gf:=122) (lb:=#[.pointer (some ⟨w8.heap.size,0,none⟩)]) rfl (vX 122) f3.o
  (fun k=>rfl) (NodS w w1.heap.size w9.heap.size A w8.heap.size q L) (fun _ _ _=>False) (fun k W W' h e=>h.st e) (fun _ _ _ _ h _=>h) (fun k W h=>⟨h.box,h.at'⟩)
  (fun k W o h=>h.put vO vO vO vO (fun x hx=>by have:=E.o x hx;omega) _)
  (fun k W o h=>h.put vO vO vO vO (fun x hx=>by have:=E.o x hx;omega) _) (fun _ _ _ _ h=>h)
  b2.o (fun k=>{ tmps:=#[.slice a l.length c,undef,.slice none 0 0,.int .i64 0,.int .i64 0,.pointer (some ⟨w1.heap.size,0,none⟩),.pointer (some ⟨w1.heap.size+1+1,0,none⟩),.string (L.getD k ⟨#[]⟩),.slice a l.length c,.int .i64 0,.int .i64 0,.bool false,undef,.map (some (w1.heap.size+1)),.slice a l.length c,.slice a2 (jaO l).length c2,.pointer (some ⟨q.root,0,none⟩),.func (.func 122) #[] #[.pointer (some ⟨w8.heap.size,0,none⟩)],.string (L.getD k ⟨#[]⟩),undef,undef,undef,undef,undef,undef,undef,undef,undef,undef,undef,undef,undef],defers:=[] })
  ?hassign ?hbody ?hdone ?hstop
 case hassign =>
  intro l2 j W K hK;unfold jrK;rw[jAq];simp only[dJ,dB];gi_wp2;exact hK
 case hbody =>
  intro l2 k W hk h i3
  obtain⟨v,n,h1,h2,h3,h4⟩:=h.var
  obtain⟨ad,cp,rfl⟩:=jaL h2
  obtain⟨es,ck,h5,h6⟩:=h.tab
  obtain⟨x,hx⟩:=vE (L.getD k ⟨#[]⟩)
  rw[<-hx];have c0:L.take (k+1)=L.take k++[x]:=by
   rw[cS hk,hx,bE,bA hk];rfl
  obtain⟨cn,a1⟩:=vE (cntB (L.take k) x)
  have i4:cn<=1000000:=by
   rw[a1];unfold cntB;refine bH iG ?_;rw[cB,dM];omega
  have e6:=h6 x;rw[<-a1]at e6;have d8:(Instr.lookup 82 (.map (some (w1.heap.size+1))) (.string x) false).run Tryz.prog W=.ok (.int .i64 (cn:Int)) W:=by
   have:=jcg Tryz.ES Tryz.uMapSI h5 (Tryz.zeroI W) x.data.toList false
   rw[e6]at this;unfold cntV at this
   by_cases h0:cn=0
   ·rw[if_pos h0]at this;rw[h0];exact this
   ·rw[if_neg h0]at this;exact this
  obtain⟨b3,X⟩:=vE (jbo es x.data.toList (.int .i64 ((cn:Int)+1)) ck)
  obtain⟨c1,a8⟩:=vE (if (jaS es x.data.toList).isSome then ck else ck+1)
  obtain⟨J,b4⟩:=vE (W.putObj (w1.heap.size+1) (.map (Tryz.ES.arr b3) c1))
  have d9:(Instr.mapUpdate 82 (.map (some (w1.heap.size+1))) (.string x) (.int .i64 ((cn:Int)+1))).run Tryz.prog W=.ok () J:=by
   have:=jb5 Tryz.ES Tryz.uMapSI h5 x.data.toList (.int .i64 ((cn:Int)+1))
   rw[<-X, <-a8, <-b4]at this;exact this
  have B2:Blk J (w1.heap.size+1) (.map (Tryz.ES.arr b3) c1):=by rw[b4];exact h5.put_same _
  have e7:∀ y:vB,jaS b3 y.data.toList=cntV (cntB (L.take (k+1)) y):=fun y=>by
   rw[X,jcy,h6 y,c0];have hc:cntB (L.take k++[x]) y=cntB (L.take k) y+(if x.data.toList=y.data.toList then 1 else 0):=by
    unfold cntB;rw[bZ,List.count_append,bV,iL,List.count_singleton]
    simp
   rw[hc]
   by_cases hxy:y.data.toList=x.data.toList
   ·have f5:y=x:=ByteArray.ext (Array.ext' hxy)
    subst f5;rw[if_pos rfl,if_pos rfl, <-a1];unfold cntV;rw[if_neg vO];simp
   ·rw[if_neg hxy,if_neg (fun e=>hxy e.symm)];rfl
  have a9:(Instr.lookup 82 (.map (some (w1.heap.size+1))) (.string x) false).run Tryz.prog J=.ok (.int .i64 ((cn:Int)+1)) J:=by
   have:=jcg Tryz.ES Tryz.uMapSI B2 (Tryz.zeroI J) x.data.toList false
   rw[X,jcy,if_pos rfl]at this;exact this
  have K2:jag (fun b=>b=w1.heap.size+1) W J:=by rw[b4];exact jag.onePut _ _ _
  have q6:W.cell? ⟨w1.heap.size+1+1,0,none⟩=some (.map (some (w1.heap.size+1))):=h.mv.cell (i:=0) vF;have M2:=h.mv.keeps K2 vO;have i5:J.cell? ⟨w1.heap.size+1+1,0,none⟩=some (.map (some (w1.heap.size+1))):=M2.cell (i:=0) vF;have V2:=h1.keeps K2 vO;have O2:=jaY h2 K2 (fun b hb e=>by have:=h4 b hb;omega);have X2:=h.box.keeps K2 vO;have A2:=AtIs.keeps K2 (fun y hy e=>by have:=E.o y hy;omega) _ h.at';have E2:=h.ext.trans' K2 (fun y hy e=>by omega);have i6:=V2.cell (i:=0) (v:=.slice ad n cp) vF;have g6:J.frozen? ⟨w1.heap.size,0,none⟩=false:=V2.frozen;have b0:=Hd (show memB (ja7 (L.take k)) x=true↔cn≠0 from by
   rw[jeZ,jaQ,a1];unfold cntB;rw[<-jA,gG,bI]
   exact⟨fun hm=>⟨x,hm,rfl⟩,fun ⟨y,hy,e⟩=>by rw[<-show y=x from ByteArray.ext (Array.ext' e)];exact hy⟩)
  have e0:=Hd (show ja7 (L.take (k+1))=addF (ja7 (L.take k)) x by rw[c0,jgh]);have b1:=Hd (show ∃ es ck,Blk J (w1.heap.size+1) (.map (Tryz.ES.arr es) ck)/\∀ y:vB,jaS es y.data.toList=cntV (cntB (L.take (k+1)) y)from⟨b3,c1,B2,e7⟩);have c3:=Hd K2;have e1:=Hd M2;have e2:=Hd V2;have e3:=Hd O2;have e4:=Hd X2;have Z:=Hd A2;have e5:=Hd E2;have H4:=Hd h4;clear h h1 h2 h4 h5 h6 hx c0 a1 e6 X a8 b4 B2 e7 K2 M2 V2 O2 X2 A2 E2 b2
  obtain⟨i0,hi,f6,f7,f8⟩:=info_parts Tryz.infoStr
  by_cases hc0:cn=0
  ·subst hc0
   have e8:memB (ja7 (L.take k)) x=false:=by
    cases hm:memB (ja7 (L.take k)) x with
    | false=>rfl
    | true=>exact absurd rfl (b0.o.1 hm)
   have c4:=Hd e8;have g7:(Instr.lookup 82 (.map (some (w1.heap.size+1))) (.string x) false).run Tryz.prog W=.ok (.int .i64 0) W:=d8;have g8:(Instr.mapUpdate 82 (.map (some (w1.heap.size+1))) (.string x) (.int .i64 1)).run Tryz.prog W=.ok () J:=d9;have f0:(Instr.lookup 82 (.map (some (w1.heap.size+1))) (.string x) false).run Tryz.prog J=.ok (.int .i64 1) J:=a9;clear e8 d8 d9 a9;gi_wp2_with (gi_at_builtin;refine jbU _ rfl (.tmp 27) (.tmp 29) 22 rfl 9 i0 _ 1 16 Tryz.uStrs hi f6 f7 f8 rfl vI (.slice ad n cp) n _ rfl (jbm e3.o ((ExtR J).alloc _)) ⟨J.heap.size,0,none⟩ 1 1 [.string x] rfl rfl (ja3 (Blk.new J _)) (by simp[Value.oneCell']) (by unfold maxLen;omega) vO ?_;intro v' w6 r1 r2 r3;obtain⟨c5,c6,rfl⟩:=jaL r1;have c7:=(e2.o.alloc _).keeps r2 (fun e=>by have:=H4.o _ e;omega);have i7:w6.cell? ⟨w1.heap.size,0,none⟩=some (.slice ad n cp):=c7.cell (i:=0) vF;have i8:w6.frozen? ⟨w1.heap.size,0,none⟩=false:=c7.frozen)
   have a0:ja7 (L.take (k+1))=ja7 (L.take k)++[x]:=by rw[e0.o];unfold addF;rw[if_neg (by rw[c4.o];simp)]
   have f9:w6.ownsRow 0 9 1 (.slice c5 (n+1) c6) (n+1) ((ja7 (L.take (k+1))).map Value.string):=by rw[a0,bZ];exact r1
   have K6:jag (fun b=>(Value.slice ad n cp).ownBlock=some b) J w6:=((jag.refl _ J).alloc _).trans r2;have e9:∀ b,(Value.slice c5 (n+1) c6).ownBlock=some b->w9.heap.size+2<=b:=fun b hb=>by
    rcases r3 with r3 | r3
    ·exact H4.o b (r3 ▸ hb)
    ·have h9:=r3 b hb;have:=c3.o.size;rw[bK]at h9;omega
   have K7:jag (fun b=>b=w1.heap.size) w6 (w6.setCell ⟨w1.heap.size,0,none⟩ (.slice c5 (n+1) c6)):=jag.oneSet w6 ⟨w1.heap.size,0,none⟩ _;have nO:∀ b,b < w9.heap.size+2->¬(Value.slice ad n cp).ownBlock=some b:=fun b hb e=>by have:=H4.o b e;omega
   refine⟨((c3.o.mono (fun y _ e=>?_)).trans (K6.mono (fun y _ e=>?_))).trans (K7.mono (fun y _ e=>?_)),?_⟩
   ·have e:y=_:=e;show y≠_/\y≠_;omega
   ·have:=H4.o y e;show y≠_/\y≠_;omega
   ·have e:y=_:=e;show y≠_/\y≠_;omega
   ·obtain⟨g0,g1,g2,g3⟩:=b1.o
    exact⟨(e5.o.trans' K6 (fun y hy e=>by have:=H4.o y e;omega)).trans' K7 (fun y hy e=>by have e:y=_:=e;omega),
     ⟨_,n+1,c7.set_same (i:=0) _,jaY f9 K7 (fun b hb e=>by have:=e9 b hb;omega),by omega,e9⟩,
     ⟨g0,g1,(g2.keeps K6 (nO _ vO)).keeps K7 vO,g3⟩,(e1.o.keeps K6 (nO _ vO)).keeps K7 vO,(e4.o.keeps K6 (nO _ vO)).keeps K7 vO,
     AtIs.keeps K7 (fun y hy e=>by have:=E.o y hy;omega) _ (AtIs.keeps K6 (fun y hy=>nO y (by have:=E.o y hy;omega)) _ Z.o)⟩
  ·have i9:¬((cn:Int)+1=1):=vO
   have j0:(((cn:Int)+1) == 1)=false:=by simp;omega
   have hm:=b0.o.2 hc0;have c4:=Hd hm;clear hm;gi_wp2_with fail
   have a0:ja7 (L.take (k+1))=ja7 (L.take k):=by rw[e0.o];unfold addF;rw[if_pos c4.o]
   refine⟨c3.o.mono (fun y _ e=>?_),?_⟩
   ·have e:y=_:=e;show y≠_/\y≠_;omega
   ·exact⟨e5.o,⟨_,n,e2.o,by rw[a0];exact e3.o,by omega,H4.o⟩,b1.o,e1.o,e4.o,Z.o⟩
 case hdone =>
  intro W h hd
  obtain⟨v,n,h1,h2,h3,h4⟩:=h.var
  obtain⟨ad,cp,rfl⟩:=jaL h2
  have q5:W.cell? ⟨w1.heap.size,0,none⟩=some (.slice ad n cp):=h1.cell (i:=0) vF;rw[cF,f4.o]at h2;have H2:=Hd h2;have H4:=Hd h4;have HX:=Hd h.ext;have HD:=Hd hd;have g4:Hid (q.pt=T):=c8.o;clear h h1 h2 h4 hd b2;gi_wp2_with fail
  refine⟨by simp,.inl ⟨_,_,rfl,run_takeDeferred HD.o,?_⟩⟩
  refine⟨_,results_tmp2 rfl _ _ _,?_⟩
  have hK:=jag.onePut W w9.heap.size (.deferred none)
  refine⟨.slice ad n cp,n,rfl,⟨_,_,rfl⟩,by rw[<-g4.o];exact jaY H2.o hK (fun b hb e=>by have:=H4.o b hb;omega),HX.o.putObj (.inr vO) _,fun b hb=>by have:=H4.o b hb;omega⟩
 case hstop=>intro c k W _ _ h;exact h.elim
end
theorem jnZ(x:vB)(r:vM):(ja7 (x :: r))[0]?=some x:=by
 unfold ja7;rw[fI];have h:∀ (r e:vM),e[0]?=some x->(r.foldl addF e)[0]?=some x:=by
  intro r;induction r with
  | nil=>intro e h;exact h
  | cons y r ih =>
   intro e h;rw[fI];refine ih _ ?_;unfold addF;split
   ·exact h
   ·rw[cW (bW.1 h).1];exact h
 exact h r _ (by simp[addF,memB])
theorem jjX(T:PT):(ja7 (jau T))[0]?=some T.text:=by
 obtain⟨t,ks⟩:=T
 unfold jau;exact jnZ t _
theorem jej(x y:vB):(x.toList == y.toList)=decide (x=y):=by
 by_cases h:x=y
 ·simp[h]
 ·have e:¬ x.toList=y.toList:=fun o=>h (jhI o)
  simp only[h,decide_false];exact beq_eq_false_iff_ne.2 e
theorem jbB{t:vB}:∀ {ks:List PT},t∈jaH ks↔∃ T∈ks,t∈jau T
 | []=>by simp[jaH]
 | T :: ks=>by
  unfold jaH;rw[bT,jbB (ks:=ks)];constructor
  ·rintro (h |⟨q,e,o⟩)
   ·exact⟨T,bD,h⟩
   ·exact⟨q,bC _ e,o⟩
  ·rintro⟨q,e,o⟩
   rcases bM.1 e with rfl | e
   ·exact .inl o
   ·exact .inr ⟨q,e,o⟩
theorem jBy{P:Program}{f:FuncId}{args:Array vV}{w:vW}{R R':vV->vW->Prop}
  (h:Calls P f args w fun | .returned v,w'=>R v w' | _,_=>False) (h':Calls P f args w fun | .returned v,w'=>R' v w' | _,_=>False) (hi:P.inits.idxOf? f=none) :
  ∃ v w',R v w'/\R' v w':=by
 obtain⟨n,v,w1,e,o⟩:=h.done hi
 obtain⟨m,A,E,q,z⟩:=h'.done hi
 have a:=runN_ended e m;have b:=runN_ended q n;rw[gO,a]at b;injection b with ho hw;injection ho with hv;subst hv hw
 exact⟨_,_,o,z⟩
theorem juV{P:Program}{f:FuncId}{args:Array vV}{w:vW}{a b:vV}{R R':vW->Prop}
  (h:Calls P f args w fun e w'=>e=.returned a/\R w') (h':Calls P f args w fun e w'=>e=.returned b/\R' w') (hi:P.inits.idxOf? f=none):a=b:=by
 obtain⟨v,w',q,z⟩:=jBy (R:=fun v _=>v=a) (R':=fun v _=>v=b)
  (h.mono fun e w' o=>by obtain⟨rfl,_⟩:=o;rfl) (h'.mono fun e w' o=>by obtain⟨rfl,_⟩:=o;rfl) hi
 exact q.symm.trans z
theorem jtA{n m:jad}(h:n.V=m.V):n=m:=by
 obtain⟨k,p,v,q⟩:=n
 obtain⟨z,K,O,e⟩:=m
 unfold jad.V jad.cells at h;injection h with h;have h:=congrArg Array.toList h;simp only[List.toList_toArray,List.cons.injEq,Value.int.injEq,Value.string.injEq]at h
 obtain⟨⟨_,o⟩,A,E,H⟩:=h
 have J:q=e:=by
  have:∀ a b:vM,a.map Value.string=b.map Value.string->a=b:=fun a=>by
   induction a with
   | nil=>intro b hb;cases b with | nil=>rfl | cons x y=>cases hb
   | cons x r ih =>
    intro b hb;cases b with
    | nil=>cases hb
    | cons y t =>
     simp only[bV,List.cons.injEq,Value.string.injEq]at hb;rw[hb.1,ih t hb.2]
  exact this _ _ H
 have o:k=z:=vO
 subst o A E J;rfl
theorem jdu(w:vW){f g:Nat}{n m:jad}(hn:jbd (InlD f) n)(hm:jbd (InlD g) m)(h:jaR n=jaR m):n=m:=by
 have e:=jf3 (inlP f) w n hn;have o:=jf3 (inlP g) w m hm;rw[h]at e
 have:=juV e o vY
 injection this with this
 have:=congrArg Array.toList this
 simp only[List.toList_toArray,List.cons.injEq]at this;exact jtA this.1
theorem jkq{a b:vB}(ha:a.size=32)(hb:b.size=32)(h:jaz a=jaz b):a=b:=by
 obtain⟨r,e,o⟩:=jdr a ha
 obtain⟨s,q,z⟩:=jdr b hb
 rw[h]at e o;rw[e]at q;obtain rfl:=bQ q;rw[o]at z;exact bQ z
theorem jeH{T:PT}(h:T.text.size < 32):refB T.text=T.text:=by unfold refB;rw[if_pos h]
theorem jfT{T:PT}(h:¬ T.text.size < 32):refB T.text=jaz (shaB T.text):=by unfold refB;rw[if_neg h]
theorem jhp{f:Nat}{T:PT}{n:jad}(h:jdZ f T n)(hs:T.text.size < 32):jau T=[T.text]:=by
 have e:=h.small hs
 obtain⟨x,ks⟩:=T
 have e:ks=[]:=e;subst e;unfold jau jaH;rfl
theorem jgH{T:PT}(h:¬ T.text.size < 32):jaH (jbG T)=jau T:=by
 unfold jbG;rw[if_neg h];simp[jaH]
theorem jbE(T:PT):T.text∈jau T:=by cases T;unfold jau;exact bD
theorem jbD{l:vL}(h:jav 0 l):l.length<=1:=by
 rcases fO l.length 2 with h2 | h2
 ·omega
 ·obtain⟨a,o⟩:∃ a,l[0]?=some a:=⟨_,bA vO⟩
  obtain⟨b,hb⟩:∃ b,l[1]?=some b:=⟨_,bA vO⟩
  have e:=jcN h.rise vO o hb
  have:=(h.size b (bJ hb)).1
  rw[show b.l=[]from bG (by show b.1.size=0;omega)]at e;exact absurd e (not_lt_nil _)
theorem jck{a b:vB}(h:a.data.toList=b.data.toList):a=b:=by
 obtain⟨⟨a⟩⟩:=a
 obtain⟨⟨b⟩⟩:=b
 simp only at h;subst h;rfl
def jcH(r:vB):Option vB:=(cutN r).bind (jfm r)
def jaK(n:jad):vM:=n.refs.filterMap jcH
theorem jfn:jcH ⟨#[]⟩=none:=by
 unfold jcH cutN;rw[dif_neg vI];rfl
theorem jdc{h:vB}(hs:h.size=32):jcH (jaz h)=some h:=by
 obtain⟨r,e,o⟩:=jdr h hs
 unfold jcH;rw[e];exact o
theorem jc4{I:vB->jad->Prop}(HI:InlP I){r:vB}{m:jad}(h:I r m):jcH r=none:=by
 obtain⟨q,e,o⟩:=HI.nohash r m h
 unfold jcH;rw[e];exact o
theorem jmy{f:Nat}{T:PT}{n:jad}(h:jdZ f T n):(jcH (refB T.text)).toList=(jbG T).map fun k=>shaB k.text:=by
 by_cases hs:T.text.size < 32
 ·rw[jc4 (inlP (f+1)) (h.may.2 hs)]
  unfold jbG;rw[if_pos hs];rfl
 ·rw[jfT hs,jdc (jbb _)]
  unfold jbG;rw[if_neg hs];rfl
theorem jey(k:Nat):(jar k).filterMap jcH=[]:=by
 unfold jar;rw[List.filterMap_eq_nil_iff];intro r e;rw[fV e,jfn]
theorem jiI{α:Type}(g:α->vB)(k:α->List PT):∀ L:List α,(∀ i∈L,(jcH (g i)).toList=(k i).map fun k=>shaB k.text)->(L.map g).filterMap jcH=(L.flatMap k).map fun k=>shaB k.text
 | [],_=>rfl
 | x :: L,h=>by
  rw[bV,cG,bZ, <-jiI g k L fun i e=>h i (bC _ e), <-h x bD,gB];cases jcH (g x) <;> rfl
theorem jeh(f:Nat)(l:vL)(h:jav f l):jaK (jao (jab f) l)=(jat (jab f) l).map fun k=>shaB k.text:=by
 unfold jaK
 by_cases h0:l.length=0
 ·have z:jao (jab f) l=jak:=by unfold jao;rw[if_pos h0]
  have A:jat (jab f) l=[]:=by unfold jat;rw[if_pos vO]
  rw[z,A];exact jey 16
 by_cases h1:l.length=1
 ·have z:jao (jab f) l=⟨1,(l.getD 0 pd).1,(l.getD 0 pd).2,jar 16⟩:=by unfold jao;rw[if_neg h0,if_pos h1]
  have A:jat (jab f) l=[]:=by unfold jat;rw[if_pos vO]
  rw[z,A];exact jey 16
 have O:2<=l.length:=vO
 cases f with
 | zero=>have:=jbD h;omega
 | succ f =>
  by_cases hk:0 < comK l
  ·have o:=jby h O
   have E:jav f (jal (comK l) l):=(jcx (comK l) h (fun p H q Q=>(o p H).1.trans (o q Q).1.symm) (fun p H=>(o p H).2)).mono vO;have J:jal (comK l) l≠[]:=fun e=>by have:=jaJ (comK l) l;rw[e]at this;simp at this;omega
   have K:=(good f _ E).2.1 J;have z:jao (jab (f+1)) l=⟨2,(l.getD 0 pd).1.extract 0 (comK l),⟨#[]⟩,refB (jab (f+1) (jal (comK l) l)).text :: jar 15⟩:=by unfold jao;rw[if_neg h0,if_neg h1,if_pos hk]
   have A:jat (jab (f+1)) l=jbG (jab (f+1) (jal (comK l) l)):=by unfold jat;rw[if_neg vO,if_pos hk]
   rw[z,A, <-jmy K];show (refB (jab (f+1) (jal (comK l) l)).text :: jar 15).filterMap jcH=_;rw[gB,jey];cases jcH (refB (jab (f+1) (jal (comK l) l)).text) <;> rfl
  ·have z:(jao (jab (f+1)) l).refs=(List.range 16).map fun i=>if (cutL i l).length=0 then ⟨#[]⟩else refB (jab (f+1) (jal 1 (cutL i l))).text:=by unfold jao;rw[if_neg h0,if_neg h1,if_neg hk]
   have A:jat (jab (f+1)) l=(List.range 16).flatMap fun i=>if (cutL i l).length=0 then []else jbG (jab (f+1) (jal 1 (cutL i l))):=by unfold jat;rw[if_neg vO,if_neg hk]
   rw[z,A];refine jiI _ _ _ fun i X=>?_
   by_cases hc:(cutL i l).length=0
   ·rw[if_pos hc,if_pos hc,jfn];rfl
   ·rw[if_neg hc,if_neg hc]
    exact jmy ((good f _ (jd8 i h)).2.1 (fun e=>by have:=jaJ 1 (cutL i l);rw[e]at this;simp at this;omega))
theorem jim{f:Nat}{l:vL}(h:jav f l){K:PT}(o:K∈jat (jab f) l):∃ g m,f=g+1/\K=jab (g+1) m/\jav g m/\32<=K.text.size:=by
 have A:∀ {T:PT},K∈jbG T->K=T/\32<=K.text.size:=fun {T} h=>by
  unfold jbG at h;split at h
  ·cases h
  ·rw[bP]at h;subst h;exact⟨rfl,by omega⟩
 unfold jat at o
 by_cases h1:l.length<=1
 ·rw[if_pos h1]at o;cases o
 rw[if_neg h1]at o;cases f with
 | zero=>have:=jbD h;omega
 | succ f =>
  by_cases hk:0 < comK l
  ·rw[if_pos hk]at o
   have z:=jby h vO;have E:jav f (jal (comK l) l):=(jcx (comK l) h (fun p H q O=>(z p H).1.trans (z q O).1.symm) (fun p H=>(z p H).2)).mono vO
   obtain⟨e,J⟩:=A o
   exact⟨f,_,rfl,e,E,J⟩
  ·rw[if_neg hk]at o
   obtain⟨i,_,o⟩:=cP.1 o
   split at o
   ·cases o
   ·obtain⟨e,J⟩:=A o
    exact⟨f,_,rfl,e,jd8 i h,J⟩
def jbc(t:vB)(n:jad):Prop:=t=jaR n/\∃ g,jbd (InlD g) n
structure jry(L B:vM):Prop where
 node:∀ t∈L,∃ n,jbc t n/\∀ h∈jaK n,∃ t'∈L,h=shaB t'
 told:∀ t∈B,32<=t.size/\∃ t'∈L,∃ n,jbc t' n/\shaB t∈jaK n
theorem jxg:∀ (f:Nat) (l:vL),jav f l->jry (jau (jab (f+1) l)) (jaH (jat (jab f) l)):=by
 intro f;induction f with
 | zero =>
  intro l h;have e2:jat (jab 0) l=[]:=by have:=jbD h;unfold jat;rw[if_pos vO]
  have O:jau (jab (0+1) l)=[jaR (jao (jab 0) l)]:=by
   show jau (.mk (jaR (jao (jab 0) l)) (jat (jab 0) l))=_;rw[jau,e2];simp[jaH]
  have Q:=jeh 0 l h;rw[e2]at Q;rw[O,e2]
  refine⟨fun t o=>?_,fun t o=>by simp[jaH]at o⟩
  rw[bP]at o
  exact⟨_,⟨o,0,(good 0 l h).1⟩,fun x H=>by rw[Q]at H;cases H⟩
 | succ f ih =>
  intro l h;have O:jau (jab (f+1+1) l)=jaR (jao (jab (f+1)) l) :: jaH (jat (jab (f+1)) l):=by
   show jau (.mk (jaR (jao (jab (f+1)) l)) (jat (jab (f+1)) l))=_;rw[jau]
  have Q:=jeh (f+1) l h;have z:jbc (jaR (jao (jab (f+1)) l)) (jao (jab (f+1)) l):=⟨rfl,f+1,(good (f+1) l h).1⟩;have A:∀ {K:PT},K∈jat (jab (f+1)) l->∀ t∈jau K,t∈jau (jab (f+1+1) l):=fun {K} q t o=>by
   rw[O];exact bC _ (jbB.2 ⟨K,q,o⟩)
  have E:∀ {K:PT},K∈jat (jab (f+1)) l->∃ m,K=jab (f+1) m/\jav f m/\32<=K.text.size:=fun {K} q=>by
   obtain⟨g,m,e,X,Z,h3⟩:=jim h q
   obtain rfl:f=g:=vO
   exact⟨m,X,Z,h3⟩
  constructor
  ·intro t o
   rw[O]at o;rcases bM.1 o with rfl | o
   ·refine⟨_,z,fun x H=>?_⟩
    rw[Q]at H
    obtain⟨K,q,rfl⟩:=bI.1 H
    exact⟨_,A q _ (jbE K),rfl⟩
   ·obtain⟨K,q,o⟩:=jbB.1 o
    obtain⟨m,rfl,hm,_⟩:=E q
    obtain⟨n,X,Z⟩:=(ih m hm).node t o
    exact⟨n,X,fun x H=>by obtain⟨t',J,e⟩:=Z x H;exact⟨t',A q _ J,e⟩⟩
  ·intro t o
   obtain⟨K,q,o⟩:=jbB.1 o
   obtain⟨m,rfl,hm,a0⟩:=E q
   have eK:jau (jab (f+1) m)=jaR (jao (jab f) m) :: jaH (jat (jab f) m):=by
    show jau (.mk (jaR (jao (jab f) m)) (jat (jab f) m))=_;rw[jau]
   rw[eK]at o;rcases bM.1 o with rfl | o
   ·refine⟨a0,_,?_,_,z,?_⟩
    ·rw[O];exact bD
    ·rw[Q];exact bI.2 ⟨_,q,rfl⟩
   ·obtain⟨X,t',J,n,Z,h3⟩:=(ih m hm).told t o
    exact⟨X,t',A q _ J,n,Z,h3⟩
theorem jhO(l:vM):(ja7 l).Nodup:=by
 unfold ja7
 have:∀ (l o:vM),o.Nodup->(l.foldl addF o).Nodup:=fun l=>by
  induction l with
  | nil=>exact fun _ h=>h
  | cons x r ih =>
   intro o h;rw[fI];refine ih _ ?_;unfold addF;split
   ·exact h
   ·rename_i hn
    have q:x ∉ o:=fun z=>hn ((jeZ o x).2 z);rw[fF]
    exact⟨h,by simp,fun a A b hb e=>by simp at hb;subst hb;subst e;exact q A⟩
 exact this l [] (by simp)
structure jz0(L:vM)(top:vB):Prop where
 head:L[0]?=some top
 nodup:L.Nodup
 node:∀ t∈L,∃ n,jbc t n/\∀ h∈jaK n,∃ t'∈L,h=shaB t'
 told:∀ (i:Nat) t,L[i+1]?=some t->32<=t.size/\∃ t'∈L,∃ n,jbc t' n/\shaB t∈jaK n
theorem jjg{l:vL}(h:jaD l=0):jz0 (ja7 (jau (jay l))) (jay l).text:=by
 have E:=jxg 12 (jaO l) (jbt (jaE h));have Q:jau (jay l)=(jay l).text :: jaH (jat (jab 12) (jaO l)):=by
  show jau (.mk (jaR (jao (jab 12) (jaO l))) (jat (jab 12) (jaO l)))=_;rw[jau];rfl
 have E:jry (jau (jay l)) (jaH (jat (jab 12) (jaO l))):=E;have q:=jhO (jau (jay l))
 refine⟨jjX _,q,fun t H=>?_,fun i t H=>?_⟩
 ·obtain⟨n,z,A⟩:=E.node t ((jaQ _ _).1 H)
  exact⟨n,z,fun x X=>by obtain⟨K,o,e⟩:=A x X;exact⟨K,(jaQ _ _).2 o,e⟩⟩
 ·have J:=(jaQ _ _).1 (bJ H)
  have O:t≠(jay l).text:=fun e=>by
   have Z:=jjX (jay l)
   obtain⟨z,e1⟩:=bW.1 H
   obtain⟨A,e2⟩:=bW.1 Z
   exact gP.1 q 0 (i+1) A z vO (e2.trans (e.symm.trans e1.symm))
  rw[Q]at J;rcases bM.1 J with e | J
  ·exact absurd e O
  ·obtain⟨z,K,o,n,A⟩:=E.told t J
   exact⟨z,K,(jaQ _ _).2 o,n,A⟩
theorem jdR(w:vW){t:vB}{n m:jad}(h:jbc t n)(k:jbc t m):n=m:=by
 obtain⟨e,f,o⟩:=h
 obtain⟨q,g,z⟩:=k
 exact jdu w o z (e.symm.trans q)
def Inf(v t:vB):Prop:=v.data.toList <:+: t.data.toList
theorem Inf.trans{a b c:vB}(h:Inf a b)(k:Inf b c):Inf a c:=List.IsInfix.trans h k
theorem Inf.rfl'(a:vB):Inf a a:=List.infix_refl _
theorem jfa(a b:vB):Inf b (a++b):=⟨a.data.toList,[],by rw[dH,fC,bU]⟩
theorem jpq(v:vB):Inf v (jaz v):=by
 unfold jaz;split
 ·exact Inf.rfl' v
 ·exact jfa _ _
theorem jsW{x:vB}:∀ {l:vM},x∈l->Inf x (catB l)
 | y :: l,h=>by
  rcases bM.1 h with rfl | h
  ·refine⟨[],(l.map (·.data.toList)).flatten,?_⟩
   show _=x.data.toList++(l.map (·.data.toList)).flatten
   simp
  ·obtain⟨s,t,e⟩:=jsW h
   have e:s++x.data.toList++t=(l.map (·.data.toList)).flatten:=e
   refine⟨y.data.toList++s,t,?_⟩
   show _=y.data.toList++(l.map (·.data.toList)).flatten;rw[<-e];simp
theorem jib{x:vB}{l:vM}(h:x∈l):Inf x (jcm l):=(jsW h).trans (jfa _ _)
theorem jdZ.inf{f:Nat}{T:PT}{n:jad}(h:jdZ f T n){v t:vB}(ht:t∈jau T)(hv:Inf v t):(∃ t∈jaH (jbG T),Inf v t)\/Inf v (refB T.text):=by
 by_cases hs:T.text.size < 32
 ·have e:=h.small hs
  obtain⟨x,ks⟩:=T
  have e:ks=[]:=e;subst e;unfold jau jaH at ht;rw[bP]at ht;right;unfold refB;rw[if_pos hs, <-(show t=(PT.mk x []).text from ht)];exact hv
 ·left
  refine⟨t,?_,hv⟩
  unfold jbG;rw[if_neg hs,jbB]
  exact⟨T,bP.2 rfl,ht⟩
def partsN(l:vL):Nat->Nat
 | 0=>0
 | n+1=>partsN l n+(if (cutL n l).length=0 then 0 else 1)
theorem jhx(l:vL)(n:Nat):∀ d,partsN l n<=partsN l (n+d)
 | 0=>bL _
 | d+1=>by have:=jhx l n d;rw[show n+(d+1)=(n+d)+1 from rfl,partsN];omega
theorem jiX{l:vL}{i n:Nat}(h:(cutL i l).length≠0)(hi:i < n):1<=partsN l n:=by
 have:=jhx l (i+1) (n - (i+1))
 rw[show i+1+(n - (i+1))=n by omega,partsN,if_neg h]at this;omega
theorem jgQ{l:vL}{i j n:Nat}(h:(cutL i l).length≠0)(hj:(cutL j l).length≠0)(hij:i < j)(hn:j < n):2<=partsN l n:=by
 have e:=jiX h hij
 have:=jhx l (j+1) (n - (j+1))
 rw[show j+1+(n - (j+1))=n by omega,partsN,if_neg hj]at this;omega
theorem js3(B:vL->PT)(l:vL)(hB:∀ i,(cutL i l).length≠0->(jau (B (jal 1 (cutL i l)))).length+2<=3 * (cutL i l).length):∀ n,(jaH (ksK B l n)).length+2 * partsN l n<=3 * jdo l n
 | 0=>by simp[ksK,jaH,jdo,partsN]
 | n+1=>by
  rw[jic,jdI,bF,jdo,partsN]
  have:=js3 B l hB n
  by_cases h0:(cutL n l).length=0
  ·rw[if_pos h0,if_pos h0];simp[jaH];omega
  ·rw[if_neg h0,if_neg h0]
   have e:=hB n h0;have o:=jiO (B (jal 1 (cutL n l)));omega
theorem jmb{l:vL}(h:∃ p∈l,p.l=[])(n:Nat):jdo l n+1<=l.length:=by
 obtain⟨p,o,e⟩:=h
 induction l with
 | nil=>cases o
 | cons q r ih =>
  rw[jgc,bO];rcases bM.1 o with rfl | o
  ·have:=jfi r n
   rw[e]
   have:hN [] n=0:=rfl
   omega
  ·have:=ih o
   have:=jAt q.l n
   omega
theorem jsm{l:vL}{p:Pair}{x:vU}{r:vN}(hp:p∈l)(hpx:p.l=x :: r):p∈cutL x.toNat l:=cN.2 ⟨hp,by unfold jfu;rw[show p.1.data.toList=x :: r from hpx];simp⟩
theorem jgd{l:vL}{p:Pair}{x:vU}{r:vN}(hp:p∈l)(hpx:p.l=x :: r):(cutL x.toNat l).length≠0:=fun e=>by
 have:=jsm hp hpx
 rw[bG e]at this;cases this
theorem jpa{k:Nat}{l:vL}{p:Pair}(h:p∈l):∃ q∈jal k l,q.2=p.2:=⟨_,jB h,rfl⟩
structure jxH(T:PT)(l:vL):Prop where
 all:(jau T).length+2<=3 * l.length
 two:2<=l.length->comK l=0->(jau T).length+3<=3 * l.length
 inf:∀ p∈l,∃ t∈jau T,Inf p.2 t
theorem jpp(f:Nat){l:vL}(h:l.length=1):jxH (jab (f+1) l) l:=by
 obtain⟨p,rfl⟩:=fJ.1 h
 have e:jau (jab (f+1) [p])=[jmG ⟨1,p.1,p.2,jar 16⟩]:=by
  show jau (.mk (jaR (jao (jab f) [p])) (jat (jab f) [p]))=_;have A:jao (jab f) [p]=⟨1,p.1,p.2,jar 16⟩:=rfl;have o:jat (jab f) [p]=[]:=rfl;rw[A,o];rfl
 refine⟨by rw[e];simp,fun o=>by simp at o,fun q z=>?_⟩
 rw[bP]at z;subst z;rw[e]
 refine⟨_,bP.2 rfl,(jpq q.2).trans ?_⟩
 unfold jmG;exact jib (by simp)
theorem grow:∀ (f:Nat) (l:vL),jav f l->l≠[]->jxH (jab (f+1) l) l:=by
 intro f;induction f with
 | zero =>
  intro l h hn;have h0:l.length≠0:=fun e=>hn (bG e);have hl:l.length<=1:=by
   rcases fO l.length 2 with h2 | h2
   ·omega
   ·obtain⟨a,O⟩:∃ a,l[0]?=some a:=⟨_,bA vO⟩
    obtain⟨b,hb⟩:∃ b,l[1]?=some b:=⟨_,bA vO⟩
    have o:=jcN h.rise vO O hb
    have:=(h.size b (bJ hb)).1
    rw[show b.l=[]from bG (by show b.1.size=0;omega)]at o;exact absurd o (not_lt_nil _)
  exact jpp 0 vO
 | succ f ih =>
  intro l h hn;have h0:l.length≠0:=fun e=>hn (bG e)
  by_cases h1:l.length=1
  ·exact jpp (f+1) h1
  have h2:2<=l.length:=vO
  have z:=jby h h2;have eT:jau (jab (f+1+1) l)=jaR (jao (jab (f+1)) l) :: jaH (jat (jab (f+1)) l):=by
   show jau (.mk (jaR (jao (jab (f+1)) l)) (jat (jab (f+1)) l))=_;rw[jau]
  by_cases hk:0 < comK l
  ·have a0:jav f (jal (comK l) l):=(jcx (comK l) h (fun p A q hq=>(z p A).1.trans (z q hq).1.symm) (fun p A=>(z p A).2)).mono vO
   have Q:jal (comK l) l≠[]:=fun e=>by have:=jaJ (comK l) l;rw[e]at this;simp at this;omega
   have hg:=ih _ a0 Q
   obtain⟨_,i2,_⟩:=good f _ a0
   have H:=i2 Q;have eB:jat (jab (f+1)) l=jbG (jab (f+1) (jal (comK l) l)):=by
    unfold jat;rw[if_neg vO,if_pos hk]
   have eN:jao (jab (f+1)) l=⟨2,(l.getD 0 pd).1.extract 0 (comK l),⟨#[]⟩,refB (jab (f+1) (jal (comK l) l)).text :: jar 15⟩:=by unfold jao;rw[if_neg h0,if_neg h1,if_pos hk]
   have J:=hg.two (by rw[jaJ];omega) (jgy vO);rw[jaJ]at J;have hh:=jiO (jab (f+1) (jal (comK l) l))
   refine⟨by rw[eT,eB,bO];omega,fun _ hz=>by omega,fun p A=>?_⟩
   obtain⟨q,hq,e2⟩:=jpa (k:=comK l) A
   obtain⟨t,ht,hv⟩:=hg.inf q hq
   rw[e2]at hv;rw[eT,eB];rcases H.inf ht hv with⟨t',ht',hv'⟩ | hv'
   ·exact⟨t',bC _ ht',hv'⟩
   ·refine⟨_,bD,hv'.trans ?_⟩
    have:jaR (jao (jab (f+1)) l)=extB (jao (jab (f+1)) l):=by rw[eN];rfl
    rw[this,eN];unfold extB;exact jib (by simp)
  ·have K:∀ i,(cutL i l).length≠0->jal 1 (cutL i l)≠[]:=fun i E e=>by have:=jaJ 1 (cutL i l);rw[e]at this;simp at this;omega
   have hg:∀ i,(cutL i l).length≠0->jxH (jab (f+1) (jal 1 (cutL i l))) (jal 1 (cutL i l)):=fun i E=>ih _ (jd8 i h) (K i E);have H:∀ i,(cutL i l).length≠0->jdZ f (jab (f+1) (jal 1 (cutL i l))) (jao (jab f) (jal 1 (cutL i l))):=fun i E=>(good f _ (jd8 i h)).2.1 (K i E);have eB:jat (jab (f+1)) l=ksK (jab (f+1)) l 16:=by
    unfold jat;rw[if_neg vO,if_neg hk];rfl
   obtain⟨a,O⟩:∃ a,l[0]?=some a:=⟨_,bA vO⟩
   obtain⟨b,hb⟩:∃ b,l[l.length - 1]?=some b:=⟨_,bA vO⟩
   have ga:l.getD 0 pd=a:=by rw[bE,O];rfl
   have gb:l.getD (l.length - 1) pd=b:=by rw[bE,hb];rfl
   have X:=bJ O;have a1:=bJ hb;have o:=jcN h.rise vO O hb
   obtain⟨rs,Z⟩:=vE ((List.range 16).map fun i=>if (cutL i l).length=0 then (⟨#[]⟩:vB)else refB (jab (f+1) (jal 1 (cutL i l))).text)
   have eN:jao (jab (f+1)) l=⟨3,⟨#[]⟩,if a.1.size=0 then a.2 else ⟨#[]⟩,rs⟩:=by unfold jao;rw[if_neg h0,if_neg h1,if_neg hk,ga,Z]
   have J:(jaH (jat (jab (f+1)) l)).length+4<=3 * l.length:=by
    rw[eB];have b0:=js3 (jab (f+1)) l (fun i E=>by have:=(hg i E).all;rwa [jaJ]at this) 16;have a2:jbh a.l b.l=0:=by have:comK l=jbh a.l b.l:=(by unfold comK jam;rw[ga,gb]);omega
    cases hbl:b.l with
    | nil=>rw[hbl]at o;exact absurd o (not_lt_nil _)
    | cons y t =>
     have hy:=jco (h.size b a1).2.2.1 hbl;have cb:=jgd a1 hbl;cases hal:a.l with
     | nil =>
      have:=jmb ⟨a,X,hal⟩ 16
      have:=jiX cb hy
      omega
     | cons x r =>
      have hx:=jco (h.size a X).2.2.1 hal;have ca:=jgd X hal;have a5:x≠y:=by
       intro e;rw[hal,hbl,e]at a2;simp[jbh]at a2
      have Q:x.toNat≠y.toNat:=fun e=>a5 (dX.1 e)
      have:=jfi l 16
      have:2<=partsN l 16:=by
       rcases fO x.toNat y.toNat with e | e
       ·exact jgQ ca cb e hy
       ·exact jgQ cb ca vO hx
      omega
   refine⟨by rw[eT,bO];omega,fun _ _=>by rw[eT,bO];omega,fun p A=>?_⟩
   have a3:jaR (jao (jab (f+1)) l)=jfg (jao (jab (f+1)) l):=by rw[eN];rfl
   have a4:jb8 (jao (jab (f+1)) l)=jbZ rs (if a.1.size=0 then a.2 else ⟨#[]⟩):=by
    rw[jfI _ (by rw[eN,Z];simp),eN]
   cases hpl:p.l with
   | nil =>
    have a6:p=a:=by
     obtain⟨i,E⟩:=gL A
     by_cases h00:i=0
     ·subst h00;rw[O]at E;exact (bQ E).symm
     ·have:=jcN h.rise vO O E
      rw[hpl]at this;exact absurd this (not_lt_nil _)
    subst a6;have hz:p.1.size=0:=by show p.1.data.toList.length=0;rw[show p.1.data.toList=[]from hpl];rfl
    rw[eT]
    refine⟨_,bD,(jpq p.2).trans ?_⟩
    rw[a3];unfold jfg;rw[a4,if_pos hz];refine jib ?_;unfold jbZ;simp
   | cons x r =>
    have hx:=jco (h.size p A).2.2.1 hpl;have hc:=jgd A hpl
    obtain⟨q,hq,e2⟩:=jpa (k:=1) (jsm A hpl)
    obtain⟨t,ht,hv⟩:=(hg _ hc).inf q hq
    rw[e2]at hv;rw[eT,eB];rcases (H _ hc).inf ht hv with⟨t',ht',hv'⟩ | hv'
    ·refine⟨t',bC _ ?_,hv'⟩
     obtain⟨T',a7,a8⟩:=jbB.1 ht'
     refine jbB.2 ⟨T',?_,a8⟩;unfold ksK;refine cP.2 ⟨x.toNat,dR.2 hx,?_⟩;rw[if_neg hc];exact a7
    ·refine⟨_,bD,hv'.trans ?_⟩
     rw[a3];unfold jfg;rw[a4];refine jib ?_;unfold jbZ;refine bT.2 (.inl ?_);have a9:refB (jab (f+1) (jal 1 (cutL x.toNat l))).text∈rs:=by
      rw[Z];refine bI.2 ⟨x.toNat,dR.2 hx,?_⟩;rw[if_neg hc]
     refine bI.2 ⟨_,a9,?_⟩;rw[if_neg (H _ hc).may.1.pos]
theorem jrq{l:vL}(h:jaD l=0):(ja7 (jau (jay l))).length<=1+3 * l.length/\∀ p∈l,∃ t∈ja7 (jau (jay l)),Inf p.2 t:=by
 by_cases h0:l=[]
 ·subst h0
  refine⟨?_,by simp⟩
  have:=jhm (jau (jay []))
  have A:=jqb (jaE h);simp at A ⊢;omega
 ·have E:=jbt (jaE h)
  have o:jaO l≠[]:=fun e=>h0 (by unfold jaO at e;simpa using e);have q:=grow 12 (jaO l) E o;have H:(jaO l).length=l.length:=by unfold jaO;rw[cB]
  have z:=q.all;rw[H]at z;have X:=jhm (jau (jay l));have J:jay l=jab (12+1) (jaO l):=rfl;rw[<-J]at z
  refine⟨by omega,fun p K=>?_⟩
  obtain⟨t,O,Q⟩:=q.inf _ (jB K)
  exact⟨t,(jaQ _ _).2 O,Q⟩
theorem jhA{f:Nat}{l:vL}(h:jav f l)(hn:l≠[]):(refB (jab (f+1) l).text).size≠0:=((good f l h).2.1 hn).may.1.pos
theorem jfN(g:Nat->vB){i n:Nat}(h:i < n):((List.range n).map g).getD i ⟨#[]⟩=g i:=by
 rw[bE,cA,fB h];rfl
theorem jh5{f:Nat}{l m:vL}(hm:m≠[])(ho:jav f m)(hk:jbG (jab (f+1) m) ⊆ jat (jab (f+1)) l):∀ x∈jau (jab (f+1) m),32<=x.size->x∈jau (jab (f+1+1) l):=fun x e q=>by
 have z:jau (jab (f+1+1) l)=jaR (jao (jab (f+1)) l) :: jaH (jat (jab (f+1)) l):=by
  show jau (.mk (jaR (jao (jab (f+1)) l)) (jat (jab (f+1)) l))=_;rw[jau]
 rw[z];have o:=(good f m ho).2.1 hm
 by_cases hs:(jab (f+1) m).text.size < 32
 ·rw[jhp o hs,bP]at e
  subst e;omega
 ·refine bC _ (jbB.2 ⟨jab (f+1) m,hk ?_,e⟩)
  unfold jbG;rw[if_neg hs];exact bP.2 rfl
section
attribute [local go_sem] Oper.semAt_some
def preB(p s:vB):Bool:=p.data.toList.isPrefixOf s.data.toList
theorem jp8:∀ (p s:vN),p.isPrefixOf s=(decide (p.length<=s.length) && (s.take p.length == p))
 | [],s=>by simp
 | x :: p,[]=>by simp
 | x :: p,y :: s=>by
  have o:=jp8 p s;simp only[List.isPrefixOf,bO,dW,o,Nat.add_le_add_iff_right]
  by_cases h:x=y
  ·subst h;simp
  ·have:(y == x)=false:=by simpa using fun e=>h e.symm
   simp[h,this]
theorem jwN(s:vB)(n:Nat):(s.extract 0 n).toList=s.data.toList.take n:=by
 rw[bN,dP,dZ,dO];simp
theorem jln(w:vW)(s p:vB)(hs:s.size<=1000000)(hp:p.size<=1000000):vQ 79 #[.string s,.string p] w fun e w'=>e=.returned (.bool (preB p s))/\w'=w:=by
 have o:=jp8 p.data.toList s.data.toList;have q:p.data.toList.length=p.size:=rfl;have z:s.data.toList.length=s.size:=rfl;rw[q,z, <-jwN]at o;have o:preB p s=_:=o
 by_cases hl:p.size<=s.size
 ·have A:(p.size:Int)<=(s.size:Int):=vO
  have E:¬(s.size:Int) < (p.size:Int):=vO
  have H:((p.size:Int)).toNat=p.size:=vO
  rw[decide_eq_true hl,Bool.true_and, <-bN]at o;rw[o];clear o q z;go_enter Tryz.func79,Tryz.ntmps79;go_wp2_with fail
  go_ret
  exact⟨rfl,rfl⟩
 ·have A:(s.size:Int) < (p.size:Int):=vO
  rw[decide_eq_false hl,Bool.false_and]at o;rw[o];clear o q z;go_enter Tryz.func79,Tryz.ntmps79;go_wp2_with fail
  go_ret
  exact⟨rfl,rfl⟩
theorem jbQ(w:vW)(s p:vB)(hs:s.size<=1000000)(hp:p.size<=1000000):vQ 50 #[.string s,.string p] w fun e w'=>e=.returned (.bool (preB p s))/\w'=w:=by
 go_enter Tryz.func50,Tryz.ntmps50;go_wp2_with fail
 refine (jln w s p hs hp).mono ?_;rintro e w1 ⟨rfl,rfl⟩;go_wp2_with fail
 go_ret
 exact⟨rfl,rfl⟩
theorem jxw{W:vW}{B:Nat}{T:TypeId}{sz:Nat}{v:vV}{n:Nat}{xs:List vV}(h:W.ownsRow B T sz v n xs){b:Nat}(hb:v.ownBlock=some b):b < W.heap.size:=by
 obtain⟨E,o |⟨g,q,z,o,H,A,J⟩⟩:=h
 ·rw[o.1]at hb;cases hb
 ·rw[o]at hb
  have e:some g=some b:=hb;obtain rfl:=bQ e;exact (dK.1 A).1
end
theorem jtE(w:vW)(v:vV)(l:vL)(hv:RdP w v l)(hn:l.length<=9223372036854775807)(hs:∀ p∈l,p.1.size<=9223372036854775807/\p.2.size<=9223372036854775807)(h:jaD l≠0):vR 61 #[v] w (.tuple #[.slice none 0 0,.int .i64 (jaD l)]):=by
 have q:=jhi w v l hv hn hs
 obtain⟨a,c,rfl⟩:=hv.sl
 obtain⟨x,z⟩:=vE (jaD l)
 rw[<-z]at h q ⊢;have E:(x == 0)=false:=by simpa using h
 have H:=Hd q;clear q hv z hs;refine (callsIn_wide (n:=0)).1 ?_;refine callsIn_of_wp_marks Tryz.func61 rfl trivial ?_ rfl;simp only[Tryz.ntmps61,cT,bO,dG,Nat.reduceAdd,Nat.reduceSub,cY,cX,dI,dC,cM,cQ];gi_wp2_with fail
 refine⟨trivial,rfl,CallsIn.mono (callsIn_wide.2 H.o) ?_⟩
 rintro e w1 ⟨rfl,A⟩;have J:=Hd A;clear A;gi_wp2_with fail
 refine⟨_,results_tmp2 rfl _ _ _,?_⟩
 exact⟨rfl,J.o⟩
def jfC(p:Pair):Bool:=decide (p.1.size<=20) && decide (p.2.size<=100)
def fewB(l:vL):Bool:=l.all jfC && decide (l.length<=45)
def jBi(w:vW)(l:vL)(i:vV)(wr:vW):Prop:=∃ k:Nat,k<=l.length/\k<=46/\i=.int .i64 k/\Ext w wr/\(l.take k).all jfC=true
theorem juW{l:vL}{k:Nat}{p:Pair}(h:l[k]?=some p):(l.take (k+1)).all jfC=((l.take k).all jfC && jfC p):=by
 rw[cE,h,List.all_append];simp
theorem jrM{l:vL}{k:Nat}{p:Pair}(h:l[k]?=some p)(hb:jfC p=false):fewB l=false:=by
 unfold fewB
 have:l.all jfC=false:=by
  rw[cU];intro e
  have:=dN.1 e p (bJ h)
  rw[hb]at this;cases this
 rw[this];rfl
theorem jAn(w:vW)(v:vV)(l:vL)(hv:RdP w v l)(hn:l.length<=9223372036854775807)(hs:∀ p∈l,p.1.size<=9223372036854775807/\p.2.size<=9223372036854775807) :
  vR 60 #[v] w (.bool (fewB l)):=by
 have HV:=Hd hv;have HS:=Hd hs
 obtain⟨a,c,rfl⟩:=hv.sl;clear hv hs
 obtain⟨R,K⟩:=vE (fewB l)
 rw[<-K];have H:=Hd K;clear K;go_enter Tryz.func60,Tryz.ntmps60;go_wp2_with fail
 go_loopw [3] (fun i wr=>jBi w l i wr) (fun i _=>l.length - (intOf i).toNat)
 case atStart=>exact⟨0,by omega,by omega,rfl,ExtR w,rfl⟩
 case round =>
  obtain⟨k,hk,a0,rfl,hE,e⟩:=hrel
  have z:=Hd hE;have A:=Hd e;clear hE e
  by_cases hlt:k < l.length
  ·have b1:(k:Int) < (l.length:Int):=vO
   by_cases h45:k<=45
   ·have O:(k:Int)<=45:=vO
    obtain⟨p,J⟩:∃ p,l[k]?=some p:=⟨_,bA hlt⟩
    rcases HV.o with⟨_,_,_,h0⟩ |⟨b,o,c1,hh,hb,hc,hcell⟩
    ·rw[h0]at hlt;cases hlt
    cases hh
    obtain⟨Q,X⟩:=hcell k p J
    have Q:=jaa Q z.o;have X:=jaa X z.o;have Z:=HS.o p (bJ J);have HP:=Hd J
    obtain⟨x,y⟩:=p
    simp only at Q X Z;clear hcell hb hc J
    by_cases hx:20 < x.size
    ·have b3:(20:Int) < (x.size:Int):=vO
     have q:=Hd (show R=false by rw[H.o];exact jrM HP.o (by unfold jfC;simp;omega));clear hx;go_wp2_with fail
     go_ret
     exact⟨by rw[q.o];rfl,z.o⟩
    ·have b3:¬(20:Int) < (x.size:Int):=vO
     by_cases hy:100 < y.size
     ·have b4:(100:Int) < (y.size:Int):=vO
      have q:=Hd (show R=false by rw[H.o];exact jrM HP.o (by unfold jfC;simp;omega));clear hx hy;go_wp2_with fail
      go_ret
      exact⟨by rw[q.o];rfl,z.o⟩
     ·have b4:¬(100:Int) < (y.size:Int):=vO
      have HG:=Hd (show (l.take (k+1)).all jfC=true by rw[juW HP.o,A.o];unfold jfC;simp;omega);clear hx hy;go_wp2_with fail
      go_roundw
      case rel=>exact⟨k+1,by omega,by omega,by go_num,z.o,HG.o⟩
      case measure=>exact vJ
   ·have O:¬(k:Int)<=45:=vO
    have b3:¬(l.length:Int)<=45:=vO
    have q:=Hd (show R=false by rw[H.o];unfold fewB;simp;omega);clear h45;go_wp2_with fail
    go_ret
    exact⟨by rw[q.o];rfl,z.o⟩
  ·have E:k=l.length:=vO
   have b1:¬(k:Int) < (l.length:Int):=vO
   have e:=A.o;rw[E,cF]at e
   by_cases h45:l.length<=45
   ·have O:(l.length:Int)<=45:=vO
    have q:=Hd (show R=true by rw[H.o];unfold fewB;rw[e];simp;omega);clear E e h45;go_wp2_with fail
    go_ret
    exact⟨by rw[q.o];rfl,z.o⟩
   ·have O:¬(l.length:Int)<=45:=vO
    have q:=Hd (show R=false by rw[H.o];unfold fewB;simp;omega);clear E e h45;go_wp2_with fail
    go_ret
    exact⟨by rw[q.o];rfl,z.o⟩
def jw5(l:vL):Prop:=∀ p∈l,p.1.size<=9223372036854775807/\p.2.size<=9223372036854775807
theorem jbS(a b:vB):jb0 a b=true↔Lt a.data.toList b.data.toList:=by
 unfold jb0;rw[bN,bN]
abbrev Pair.k(p:Pair):vN:=p.1.data.toList
def look(m:vL)(k:vN):Option vB:=(m.find? (fun p=>decide (k=p.k))).map (·.2)
theorem jbl(q:Pair)(r:vL)(k:vN):look (q :: r) k=if k=q.k then some q.2 else look r k:=by
 unfold look
 by_cases h:k=q.k <;> simp[fT,h]
def jnA(l:vL):Prop:=l.Pairwise fun p q=>Lt p.k q.k
theorem jeB{k:vN}:∀ {m:vL},k ∉ m.map Pair.k->look m k=none
 | [],_=>rfl
 | q :: r,h=>by
  simp only[bV,bM,not_or]at h;rw[jbl,if_neg h.1,jeB h.2]
theorem jj5:∀ (a b:vN),Lt a b\/a=b\/Lt b a
 | [],[]=>.inr (.inl rfl)
 | [],_ :: _=>.inl jpD
 | _ :: _,[]=>.inr (.inr jpD)
 | a :: x,b :: y=>by
  rcases Nat.lt_trichotomy a.toNat b.toNat with h | h | h
  ·exact .inl (jbH.2 (.inl (fD.2 h)))
  ·have e:=dX.1 h
   subst e;rcases jj5 x y with h | h | h
   ·exact .inl (jbH.2 (.inr ⟨rfl,h⟩))
   ·exact .inr (.inl (by rw[h]))
   ·exact .inr (.inr (jbH.2 (.inr ⟨rfl,h⟩)))
  ·exact .inr (.inr (jbH.2 (.inl (fD.2 h))))
theorem jgP{p q:Pair}(h1:p.k=q.k)(h2:p.2=q.2):p=q:=by
 obtain⟨⟨⟨a⟩⟩,b⟩:=p
 obtain⟨⟨⟨c⟩⟩,d⟩:=q
 simp only[Pair.k]at h1 h2;subst h1;subst h2;rfl
theorem ji7:∀ {a b:vL},jnA a->jnA b->(∀ k,look a k=look b k)->a=b
 | [],[],_,_,_=>rfl
 | [],q :: b,_,_,h=>by have:=h q.k;rw[jbl,if_pos rfl]at this;cases this
 | p :: a,[],_,_,h=>by have:=h p.k;rw[jbl,if_pos rfl]at this;cases this
 | p :: a,q :: b,h1,h2,h=>by
  have A:=dE.1 h1;have E:=dE.1 h2;have out:∀ (x:vN) (y:Pair) (m:vL),(∀ z∈m,Lt y.k z.k)->Lt x y.k->look (y :: m) x=none:=fun x y m H K=>by
   refine jeB fun o=>?_;rw[bV,bM]at o;rcases o with e | o
   ·exact lt_irrefl _ (e ▸ K)
   ·obtain⟨z,J,e⟩:=bI.1 o
    exact lt_irrefl _ (jd5 _ _ _ K (e ▸ H z J))
  have O:p.k=q.k:=by
   rcases jj5 p.k q.k with e | e | e
   ·have:=h p.k
    rw[out p.k q b E.1 e,jbl,if_pos rfl]at this;cases this
   ·exact e
   ·have:=h q.k
    rw[out q.k p a A.1 e,jbl,if_pos rfl]at this;cases this
  have Z:p.2=q.2:=by
   have:=h p.k
   rw[jbl,if_pos rfl,jbl,if_pos O]at this;exact bQ this
  have e:=jgP O Z;subst e
  have:a=b:=ji7 A.2 E.2 fun k=>by
   have Q:=h k;rw[jbl,jbl]at Q
   by_cases e:k=p.k
   ·have X:∀ m:vL,(∀ z∈m,Lt p.k z.k)->look m k=none:=fun m H=>jeB fun o=>by
     obtain⟨z,J,e2⟩:=bI.1 o
     have:=H z J
     rw[e2,e]at this;exact lt_irrefl _ this
    rw[X a A.1,X b E.1]
   ·rwa [if_neg e,if_neg e]at Q
  rw[this]
end Go.Proofs.YtepbencaoiompaaGreatDoor
