/- Lemmas; each is under no condition but those that it states. -/
import Derived.Test.YtgppadbgofalpaaGreatDoorPa0
import Derived.Test.YtgppadbgofalpaaGreatDoorPa21
namespace Go.Proofs.YtgppadbgofalpaaGreatDoor
set_option linter.unusedSimpArgs false
set_option linter.unusedVariables false
set_option maxRecDepth 100000
set_option maxHeartbeats 16000000
open Go Go.RowKit
variable (w:vW){l:List Au}{i c:Nat}{x:Au}
section
attribute [local go_sem] Oper.semAt_some
theorem Cz.at'{D:Nat->Prop}{w:vW}{a:Option Addr}(h:Cz D w (.slice a l.length c) l)(hi:l[i]?=some x):∃ b o e q A H,a=some ⟨b,o,none⟩/\w.cell? ⟨b,o+i * 4,none⟩=some (.int .i64 (x.block:Int))/\w.cell? ⟨b,o+i * 4+1,none⟩=some (.slice e x.ents.length q)/\w.cell? ⟨b,o+i * 4+2,none⟩=some (.slice A x.chgs.length H)/\w.cell? ⟨b,o+i * 4+3,none⟩=some (.int .i64 (x.pins:Int))/\Ga D w (.slice e x.ents.length q) x.ents/\Fz D w (.slice A x.chgs.length H) x.chgs:=by
 rcases h with⟨_,_,_,h⟩ |⟨b,o,c',h1,_,_,_,h2⟩
 ·rw[h]at hi;simp at hi
 ·obtain⟨X,_,_⟩:=dH h1;have J:=h2 i x hi;obtain⟨ev,Z,K⟩:=J.ents;obtain⟨cv,e4,O⟩:=J.chgs;obtain⟨e,q,rfl⟩:=K.1.sl;obtain⟨A,H,rfl⟩:=O.1.sl;exact⟨b,o,e,q,A,H,X,J.block,Z,e4,J.pins,K,O⟩
theorem rO(D:Nat->Prop)(M:Cn)(a:Option Addr)(c:Nat)(hv:Cz D w (.slice a M.all.length c) M.all)(i:Nat)(x:Au)(hi:M.all[i]?=some x)(hl:M.all.length<=100000)(hw:M.win<=8)(hn:M.next<=2000000)(hb:x.block<=2000000)(hp:x.pins<=2000000):vR 132 #[.agg #[(M.win:Int),(M.next:Int),.slice a M.all.length c],(i:Int)] w (decide (i+1=M.all.length) || Qb M.win M.next x:):=by
 have A:=(bI.1 hi).1
 obtain⟨b,o,a1,c1,a2,c2,rfl,H,J,O,X,_,_⟩:=hv.at' hi
 have H:=Am H ((Aa w).alloc (.cells #[(M.win:Int),(M.next:Int),.slice (some ⟨b,o,none⟩) M.all.length c] 70));have J:=Am J ((Aa w).alloc (.cells #[(M.win:Int),(M.next:Int),.slice (some ⟨b,o,none⟩) M.all.length c] 70));have O:=Am O ((Aa w).alloc (.cells #[(M.win:Int),(M.next:Int),.slice (some ⟨b,o,none⟩) M.all.length c] 70));have X:=Am X ((Aa w).alloc (.cells #[(M.win:Int),(M.next:Int),.slice (some ⟨b,o,none⟩) M.all.length c] 70));have K:=Hd (show Qb M.win M.next x=(decide ((M.next:Int) - (M.win:Int)<=(x.block:Int)) || decide ((0:Int) < (x.pins:Int)))from by unfold Qb;congr 1;{rw[decide_eq_decide];omega};rw[decide_eq_decide];omega)
 obtain⟨n,e⟩:=vE M.all.length
 rw[<-e]at H J O X A hl ⊢;have b1:(i:Int) < (n:Int):=vO
 clear hv hi e;unfold vR vQ;go_in
 by_cases h1:i+1=n
 ·have e1:(i:Int)=(n:Int) - 1:=vO;(have q:=Hd h1;have e2:((i:Int) ==(n:Int) - 1)=true:=by simpa using e1);(clear h1 e1;go_wp2_with fail);go_ret;exact⟨by rw[decide_eq_true q.o];rfl,((Aa w).alloc _).alloc _⟩
 ·(have e2:((i:Int) ==(n:Int) - 1)=false:=by simp;omega);have q:=Hd h1;clear h1;by_cases h2:(M.next:Int) - (M.win:Int)<=(x.block:Int);{have Z:=Hd h2;(go_wp2_with fail);go_ret;exact⟨by rw[decide_eq_false q.o,K.o,decide_eq_true Z.o];rfl,((Aa w).alloc _).alloc _⟩};have Z:=Hd h2;(go_wp2_with fail);go_ret;have a0:=Z.o;refine⟨?_,((Aa w).alloc _).alloc _⟩;rw[decide_eq_false q.o,K.o,decide_eq_false (show ¬((M.next:Int) - (M.win:Int)<=(x.block:Int)) by omega)];show Ending.returned (decide (0 < x.pins))=_;simp
theorem juV(x:VX)(hx:Io w x.ev x.v.ents/\Jb w x.cv x.v.chgs)(h1:x.v.ents.length<=1000)(h2:x.v.chgs.length<=1000):vQ 131 #[.agg x.cells.toArray] w fun e w'=>∃ y:VX,e=.returned (.agg y.cells.toArray)/\y.v=x.v/\(Ga (Fo w w') w' y.ev y.v.ents/\Fz (Fo w w') w' y.cv y.v.chgs)/\Af w w':=by
 obtain⟨⟨bk,q,cs,pn⟩,ev,cv⟩:=x
 have hp:Io w ev q:=hx.1;have hc:Jb w cv cs:=hx.2;have h1:q.length<=1000:=h1;have h2:cs.length<=1000:=h2;clear hx
 obtain⟨a1,c1,rfl⟩:=hp.sl
 obtain⟨a2,c2,rfl⟩:=hc.sl
 have HP:=Hd hp;have HC:=Hd hc;have HL:=Hd (bA h1 h2);clear hp hc h1 h2;show Calls _ _ #[.agg #[(bk:Int),.slice a1 q.length c1,.slice a2 cs.length c2,(pn:Int)]] w _;go_enter Tryz.func131,Tryz.ntmps131;go_wp2_with fail
 obtain⟨W0,A⟩:=vE ((w.alloc (.cells #[(bk:Int),.slice a1 q.length c1,.slice a2 cs.length c2,(pn:Int)] 91)).alloc (.cells #[.int .i64 0,.slice none 0 0,.slice none 0 0,.int .i64 0] 91))
 have b5:Af w W0:=by rw[A];exact ((Aa w).alloc _).alloc _
 have c7:=Hd (show W0.heap.size=w.heap.size+2 from by rw[A,bG,bG]);have b6:Ae W0 w (.cells #[(bk:Int),.slice a1 q.length c1,.slice a2 cs.length c2,(pn:Int)] 91):=by rw[A];exact (Ae.new w _).alloc _
 have b7:Ae W0 (w.heap.size+1) (.cells #[.int .i64 0,.slice none 0 0,.slice none 0 0,.int .i64 0] 91):=by rw[A, <-bG w (.cells #[(bk:Int),.slice a1 q.length c1,.slice a2 cs.length c2,(pn:Int)] 91)];exact Ae.new _ _
 rw[<-A];have H0:=Hd (bA b5 (bA b6 b7));clear A b5 b6 b7;refine (eM W0 _ q (HP.o.ext H0.o.1) HL.o.1).mono ?_;rintro e w2 ⟨v1,rfl,a7,a8⟩
 obtain⟨a3,c3,rfl⟩:=a7.1.sl
 have J:=H0.o.2.1.keeps a8 kI;have q1:=J.cell (i:=1) (v:=.slice a1 q.length c1) vF;have f1:w2.frozen? ⟨w.heap.size,1,none⟩=false:=J.frozen;have a9:=J.set_same (i:=1) (.slice a3 q.length c3);have q2:=a9.cell (i:=2) (v:=.slice a2 cs.length c2) vF;have K:=Hd (bA a7 a8);have b8:=Hd a9;clear a7 a8 J a9;go_wp2_with fail
 obtain⟨W3,b0⟩:=vE (w2.setCell ⟨w.heap.size,1,none⟩ (.slice a3 q.length c3))
 have b1:Ad (fun z=>z=w.heap.size) w2 W3:=by rw[b0];exact Ad.oneSet w2 ⟨w.heap.size,1,none⟩ _
 rw[<-b0]at b8 ⊢;have b2:=Hd b1;have b9:=Hd ((H0.o.1.trans K.o.2).trans' b1 kJ);clear b0 b1 q1 f1 q2;refine (eL W3 _ cs (HC.o.ext b9.o) HL.o.2).mono ?_;rintro e w4 ⟨v2,rfl,b3,O⟩
 obtain⟨a4,c4,rfl⟩:=b3.1.sl
 have X:=b8.o.keeps O kI;have q2:=X.cell (i:=2) (v:=.slice a2 cs.length c2) vF;have f2:w4.frozen? ⟨w.heap.size,2,none⟩=false:=X.frozen;have H:=X.set_same (i:=2) (.slice a4 cs.length c4);have r0:=H.cell (i:=0) (v:=.int .i64 (bk:Int)) vF;have r1:=H.cell (i:=1) (v:=.slice a3 q.length c3) vF;have r2:=H.cell (i:=2) (v:=.slice a4 cs.length c4) vF;have r3:=H.cell (i:=3) (v:=.int .i64 (pn:Int)) vF;have c0:=((H0.o.2.2.keeps K.o.2 kI).keeps b2.o vO).keeps O kI;have c5:=c0.set_other (p:=⟨w.heap.size,2,none⟩) (by show w.heap.size+1≠w.heap.size;omega) (.slice a4 cs.length c4);have Z:=Hd (bA b3 O);have a0:=Hd (show Ad (fun z=>z=w.heap.size) w4 (w4.setCell ⟨w.heap.size,2,none⟩ (.slice a4 cs.length c4))from Ad.oneSet w4 ⟨w.heap.size,2,none⟩ _);have c8:=Hd c5;clear b3 O X H c0 c5;go_wp2_with (refine Bv (vs:=[(bk:Int),.slice a3 q.length c3,.slice a4 cs.length c4,(pn:Int)]) rfl rfl rfl rfl c8.o rfl Bt (by simp[Value.oneCell']) ?_;intro W8 c9 a5)
 go_wp2_with fail
 refine bodyPost_ret (Zd rfl rfl (RB W8 (w.heap.size+1) 0 [(bk:Int),.slice a3 q.length c3,.slice a4 cs.length c4,(pn:Int)] rfl (fun i v hv=>by rw[bX];exact c9.cellL hv))) rfl ?_;have d2:=H0.o.2.1.lt;have d0:=H0.o.2.2.lt;have k1:=K.o.2.size;have k2:=b2.o.size;have k3:=Z.o.2.size;have k4:=a0.o.size;have k5:=a5.size;have b4:Af w W8:=((b9.o.trans Z.o.2).trans' a0.o kJ).trans' a5 kJ;have kp:∀ {b:Nat},w.heap.size+2<=b->b≠w.heap.size/\b≠w.heap.size+1:=fun h=>by omega
 have d1:W0.heap.size=w.heap.size+2:=c7.o;have n1:Ga (Fo W0 w2) W8 (.slice a3 q.length c3) q:=(((K.o.1.keeps b2.o (fun b hb e=>by have e:b=w.heap.size:=e;have:=hb.1;omega)).keeps Z.o.2 (fun _ _ e=>e)).keeps a0.o (fun b hb e=>by have e:b=w.heap.size:=e;have:=hb.1;omega)).keeps a5 (fun b hb e=>by have e:b=w.heap.size+1:=e;have:=hb.1;omega);have n2:Fz (Fo W3 w4) W8 (.slice a4 cs.length c4) cs:=(Z.o.1.keeps a0.o (fun b hb e=>by have e:b=w.heap.size:=e;have:=hb.1;omega)).keeps a5 (fun b hb e=>by have e:b=w.heap.size+1:=e;have:=hb.1;omega)
 refine⟨⟨⟨bk,q,cs,pn⟩,.slice a3 q.length c3,.slice a4 cs.length c4⟩,rfl,rfl,⟨n1.mono fun b hb=>⟨?_,?_⟩,n2.mono fun b hb=>⟨?_,?_⟩⟩,b4⟩
 ·have:=hb.1;omega
 ·have:=hb.2;omega
 ·have:=hb.1;omega
 ·have:=hb.2;omega
def BI(l:List Au)(i:Nat):Int:=match i with | 0 => -1 | k+1=>match l[k]? with | some v=>(v.block:Int) | none => -1
theorem jur(h:l.Pairwise fun a b=>a.block < b.block)(hx:l[i]?=some x):¬(x.block:Int)<=BI l i:=by
 cases i with
 | zero=>show ¬(x.block:Int) <= -1;omega
 | succ k =>obtain⟨e,q⟩:=bI.1 hx;have A:l[k]?=some (l[k]'(by omega)):=bB vO;have:=fV.1 h k (k+1) vO e vO;unfold BI;simp only[A];rw[<-q];omega
theorem jpH(hx:l[i]?=some x):BI l (i+1)=(x.block:Int):=by
 unfold BI;simp only[hx]
theorem juq(l:List Au)(i:Nat) : -1<=BI l i:=by
 unfold BI;split
 ·exact jG _
 ·split;{omega};exact jG _
def yO(w:vW)(o:Obj)(l:List Au)(av iv:vV)(wr:vW):Prop:=∃ i:Nat,i<=l.length/\iv=.int .i64 i/\av=.int .i64 (BI l i)/\Af w wr/\Ae wr w o
theorem Pt{x:Int}(h1 : -9000000000000000000<=x)(h2:x<=9000000000000000000):IntKind.i64.wrap x=x:=by
 simp[IntKind.wrap,IntKind.bits,IntKind.signed];omega
theorem Ew.lastAt{M:Cn}(h:Ew M):∃ v,M.all[M.all.length - 1]?=some v/\v.block+1=M.next:=by
 obtain⟨v,q,e⟩:=h.last
 rw[iP]at q
 exact⟨v,q,e⟩
theorem UZ(D:Nat->Prop)(M:Cn)(a:Option Addr)(c:Nat)(hv:Cz D w (.slice a M.all.length c) M.all)(hM:Ew M)(hl:M.all.length<=1000):vR 77 #[.agg #[(M.win:Int),(M.next:Int),.slice a M.all.length c]] w true:=by
 have HV:=Hd hv;have HM:=Hd hM;have a7:M.all.length≠0:=fun e=>hM.ne (bH e)
 obtain⟨lv,a8,c8⟩:=hM.lastAt
 have hX:=(Aa w).alloc (.cells #[(M.win:Int),(M.next:Int),.slice a M.all.length c] 70)
 obtain⟨b,o,a1,c9,a2,d0,rfl,q0,q1,q2,q3,_,_⟩:=(hv.ext hX).at' a8
 have w1:=hM.win;have w2:=hM.next
 obtain⟨n,Z⟩:=vE M.all.length
 have HN:=Hd Z;rw[<-Z]at q0 q1 q2 q3 hl a7 HV ⊢;have d1:¬(M.win:Int) < 1:=vO
 have d2:¬(8:Int) < (M.win:Int):=vO
 have d3:¬(M.next:Int) < 1:=vO
 have d4:¬(1048576:Int) < (M.next:Int):=vO
 have d5:((n:Int) == 0)=false:=by simpa using a7
 have d6:((lv.block:Int) !=(M.next:Int) - 1)=false:=by simp;omega
 obtain⟨k,hk⟩:∃ k,n=k+1:=⟨n - 1,by omega⟩
 have d9:IntKind.i64.wrap ((n:Int) - 1)=(k:Int):=by rw[Pt vO vO];omega
 have c4:=Pt (x:=(M.next:Int) - 1) vO vO;have d7:(k:Int) < (n:Int):=vO
 have d8:(n:Int) - 1=(k:Int):=vO
 have c5:(w.alloc (.cells #[(M.win:Int),(M.next:Int),.slice (some ⟨b,o,none⟩) n c] 70)).cell? ⟨b,o+k * 4,none⟩=some (.int .i64 (lv.block:Int)):=by rw[show k=n - 1 by omega];exact q0
 clear hv hM a8 hX Z q0 q1 q2 q3 hk;unfold vR vQ;go_in;go_wp2_with fail
 go_quiet (fail)
 go_wp2_with fail
 clear d1 d2 d3 d4 d5 d6 d7 d8 d9 c4 c5;go_loopw [3,46] (fun av iv wr=>yO w (.cells #[(M.win:Int),(M.next:Int),.slice (some ⟨b,o,none⟩) n c] 70) M.all av iv wr) (fun _ iv _=>n - (intOf iv).toNat)
 case atStart=>exact⟨0,cE _,rfl,rfl,((Aa w).alloc _).drewN _,Ae.new w _⟩
 case round =>obtain⟨i,hi,rfl,rfl,hE,a9⟩:=hrel;have HE:=Hd hE;have c7:=Hd a9;clear hE a9;rw[<-HN.o]at hi;by_cases hlt:i < n;{obtain⟨x,O⟩:∃ x,M.all[i]?=some x:=⟨_,bB (by rw[<-HN.o];exact hlt)⟩;have b0:=HV.o.ext HE.o;have A:=b0;rw[HN.o]at A;obtain⟨b',o',a1,c1,a2,c2,e0,q0,q1,q2,q3,b2,_⟩:=A.at' O;(cases e0;have H:=HM.o.ver x (bD O);have b3:=Fr H.map;have a0:=jur HM.o.rise O;have b4:=jpH O;have b5:=juq M.all i;have b6:=HM.o.less x (bD O);have b7:=H.pins;have b8:(decide (i+1=M.all.length) || Qb M.win M.next x)=true:=by rcases pW HM.o.kept O with e | e;{rw[decide_eq_true e];rfl};rw[e,Bool.or_true]);have HH:=Hd (bA b2 (bA H (bA b3 (bA b4 (bA b8 O)))));have b9:BI M.all i<=2000000:=vO;obtain⟨ah,X⟩:=vE (BI M.all i);rw[<-X]at a0 b5 b9 ⊢;have e1:¬(x.block:Int)<=ah:=a0;have e2:¬(x.pins:Int) < 0:=vO;have e3:¬(1048576:Int) < (x.pins:Int):=vO;have b1:(i:Int) < (n:Int):=vO;(have HQ:=Hd (bA b6 b7);clear b0 A b2 H b3 b4 b8 O X a0 b5 b9 b6 b7;go_wp2_with fail);(have J:=(Aa wr).alloc (.cells #[(x.block:Int),.slice a1 x.ents.length c1,.slice a2 x.chgs.length c2,(x.pins:Int)] 91);refine vC (GC _ _ x.ents (HH.o.1.1.ext J) (kL HH.o.2.2.1.len) (fun p hp=>kL (HH.o.2.2.1.size p hp))) fun w2 K=>?_;rw[HH.o.2.1.map];have c0:=Hd (HE.o.trans (J.trans K));have c3:=Hd (rO w2 D M (some ⟨b,o,none⟩) c (by have:=HV.o.ext c0.o;rwa [HN.o]at this) i x HH.o.2.2.2.2.2 (by rw[<-HN.o];omega) vO vO (kL HQ.o) (kL HQ.o));rw[HH.o.2.2.2.2.1, <-HN.o]at c3;have a3:=(Ae.new wr (.cells #[(x.block:Int),.slice a1 x.ents.length c1,.slice a2 x.chgs.length c2,(x.pins:Int)] 91)).keeps K kI;have p0:=a3.cell (i:=0) rfl;have q:=(c7.o.keeps J kI).keeps K kI;have m0:=q.cell (i:=0) rfl;have m1:=q.cell (i:=1) rfl;have m2:=q.cell (i:=2) rfl;have a5:=Hd q;clear q J K e1 e2 e3 b1;go_wp2_with fail);(refine c3.o.mono ?_;rintro e w3 ⟨rfl,a4⟩;have e4:=(a3.keeps a4 kI).cell (i:=0) rfl;clear p0 m0 m1 m2 a3;go_wp2_with fail);go_roundw;{refine⟨i+1,by rw[<-HN.o];exact hlt,by simp,?_,c0.o.trans a4,a5.o.keeps a4 kI⟩;rw[HH.o.2.2.2.1]};show n - ((i:Int)+1).toNat < n - (i:Int).toNat;omega};obtain rfl:i=n:=vO;(go_wp2_with fail);go_ret;exact⟨rfl,HE.o⟩
end
