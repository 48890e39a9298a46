/- Lemmas. -/
import Derived.Test.YtgmmpefjadjajaaGreatDoorPa0
import Derived.Test.YtgmmpefjadjajaaGreatDoorPa21
namespace Go.Proofs.YtgmmpefjadjajaaGreatDoor
set_option linter.unusedSimpArgs false
set_option linter.unusedVariables false
set_option maxRecDepth 100000
set_option maxHeartbeats 16000000
open Go Go.RowKit
variable (w:vW){l:List Au}{i c:Nat}{x:Au}
section
attribute [local go_sem] Oper.semAt_some
theorem Dh.at'{D:Nat->Prop}{w:vW}{a:Option Addr}(h:Dh D w (.slice a l.length c) l)(hi:l[i]?=some x):∃ b o e q A H,a=some ⟨b,o,none⟩/\w.cell? ⟨b,o+i*4,none⟩=some (.int .i64 (x.block:Int))/\w.cell? ⟨b,o+i*4+1,none⟩=some (.slice e x.ents.length q)/\w.cell? ⟨b,o+i*4+2,none⟩=some (.slice A x.chgs.length H)/\w.cell? ⟨b,o+i*4+3,none⟩=some (.int .i64 (x.pins:Int))/\Ga D w (.slice e x.ents.length q) x.ents/\Fz D w (.slice A x.chgs.length H) x.chgs:=by
 rcases h with⟨_,_,_,h⟩|⟨b,o,c',h1,_,_,_,h2⟩
 ·rw[h]at hi;simp at hi
 ·obtain⟨Z,_,_⟩:=dF h1;have K:=h2 i x hi;obtain⟨ev,e2,O⟩:=K.ents;obtain⟨cv,e4,X⟩:=K.chgs;obtain⟨e,q,rfl⟩:=O.1.sl;obtain⟨A,H,rfl⟩:=X.1.sl;exact⟨b,o,e,q,A,H,Z,K.block,e2,e4,K.pins,O,X⟩
theorem sZ(D:Nat->Prop)(M:Dm)(a:Option Addr)(c:Nat)(hv:Dh D w (.slice a M.all.length c) M.all)(i:Nat)(x:Au)(hi:M.all[i]?=some x)(hl:M.all.length<=100000)(hw:M.win<=8)(hn:M.next<=2000000)(hb:x.block<=2000000)(hp:x.pins<=2000000):vR 130 #[.agg #[(M.win:Int),(M.next:Int),.slice a M.all.length c],(i:Int)] w (decide (i+1=M.all.length) || Si M.win M.next x:):=by
 have A:=(bI.1 hi).1
 obtain⟨b,o,a1,c1,a2,c2,rfl,H,O,X,Z,_,_⟩:=hv.at' hi
 have H:=Am H ((Aa w).alloc (.cells #[(M.win:Int),(M.next:Int),.slice (some ⟨b,o,none⟩) M.all.length c] 72));have O:=Am O ((Aa w).alloc (.cells #[(M.win:Int),(M.next:Int),.slice (some ⟨b,o,none⟩) M.all.length c] 72));have X:=Am X ((Aa w).alloc (.cells #[(M.win:Int),(M.next:Int),.slice (some ⟨b,o,none⟩) M.all.length c] 72));have Z:=Am Z ((Aa w).alloc (.cells #[(M.win:Int),(M.next:Int),.slice (some ⟨b,o,none⟩) M.all.length c] 72));have K:=J (show Si M.win M.next x=(decide ((M.next:Int)-(M.win:Int)<=(x.block:Int)) || decide ((0:Int)<(x.pins:Int)))from by unfold Si;congr 1;{rw[decide_eq_decide];omega};rw[decide_eq_decide];omega)
 obtain⟨n,e⟩:=vE M.all.length
 rw[<-e]at H O X Z A hl ⊢;have b1:(i:Int)<(n:Int):=vO
 clear hv hi e;unfold vR vQ;go_in
 by_cases h1:i+1=n
 ·have e1:(i:Int)=(n:Int)-1:=vO;(have q:=J h1;have e2:((i:Int) ==(n:Int)-1)=true:=by simpa using e1);(clear h1 e1;go_wp2);go_ret;exact⟨by rw[decide_eq_true q.o];rfl,((Aa w).alloc _).alloc _⟩
 ·(have e2:((i:Int) ==(n:Int)-1)=false:=by simp;omega);have q:=J h1;clear h1;by_cases h2:(M.next:Int)-(M.win:Int)<=(x.block:Int);{have H2:=J h2;(go_wp2);go_ret;exact⟨by rw[decide_eq_false q.o,K.o,decide_eq_true H2.o];rfl,((Aa w).alloc _).alloc _⟩};have H2:=J h2;(go_wp2);go_ret;have a0:=H2.o;refine⟨?_,((Aa w).alloc _).alloc _⟩;rw[decide_eq_false q.o,K.o,decide_eq_false (show ¬((M.next:Int)-(M.win:Int)<=(x.block:Int)) by omega)];show Ending.returned (decide (0<x.pins))=_;simp
theorem A6(x:VX)(hx:Jv w x.ev x.v.ents/\Jj w x.cv x.v.chgs)(h1:x.v.ents.length<=1000)(h2:x.v.chgs.length<=1000):vQ 129 #[.agg x.cells.toArray] w λe w'=>∃ y:VX,e=.returned (.agg y.cells.toArray)/\y.v=x.v/\(Ga (Fs w w') w' y.ev y.v.ents/\Fz (Fs w w') w' y.cv y.v.chgs)/\Af w w':=by
 obtain⟨⟨bk,q,cs,pn⟩,ev,cv⟩:=x
 have hp:Jv w ev q:=hx.1;have hc:Jj w cv cs:=hx.2;have h1:q.length<=1000:=h1;have h2:cs.length<=1000:=h2
 obtain⟨a1,c1,rfl⟩:=hp.sl
 obtain⟨a2,c2,rfl⟩:=hc.sl
 have HP:=J hp;have HC:=J hc;have HL:=J (bA h1 h2);show Calls _ _ #[.agg #[(bk:Int),.slice a1 q.length c1,.slice a2 cs.length c2,(pn:Int)]] w _;go_enter Tryz.func129,Tryz.ntmps129;go_wp2_with fail
 obtain⟨W0,A⟩:=vE ((w.alloc (.cells #[(bk:Int),.slice a1 q.length c1,.slice a2 cs.length c2,(pn:Int)] 91)).alloc (.cells #[qa,qe,qe,qa] 91))
 have b8:Af w W0:=by rw[A];exact ((Aa w).alloc _).alloc _
 have b9:=J (show (W0:Nat)=↑w+2 from by rw[A,bJ,bJ]);have c0:Ae W0 w (.cells #[(bk:Int),.slice a1 q.length c1,.slice a2 cs.length c2,(pn:Int)] 91):=by rw[A];exact (Ae.new w _).alloc _
 have c5:Ae W0 ((w:Nat)+1) (.cells #[qa,qe,qe,qa] 91):=by rw[A, <-bJ w (.cells #[(bk:Int),.slice a1 q.length c1,.slice a2 cs.length c2,(pn:Int)] 91)];exact Ae.new _ _
 rw[<-A];have H0:=J (kT b8 c0 c5);refine (jV W0 _ q (HP.o.ext H0.o.1) HL.o.1).mono ?_;rintro e w2 ⟨v1,rfl,b0,b1⟩
 obtain⟨a3,c3,rfl⟩:=b0.1.sl
 have a0:=H0.o.2.1.Z b1 kI;have q1:=a0.cell (i:=1) (v:=.slice a1 q.length c1) vF;have f1:w2.frozen? ⟨↑w,1,none⟩=false:=a0.frozen;have b2:=a0.z2 (i:=1) (.slice a3 q.length c3);have q2:=b2.cell (i:=2) (v:=.slice a2 cs.length c2) vF;have H:=J (bA b0 b1);have b3:=J b2;go_wp2_with fail
 obtain⟨W3,b4⟩:=vE (w2.setCell ⟨↑w,1,none⟩ (.slice a3 q.length c3))
 have b5:Ad (λz=>z=(w:Nat)) w2 W3:=by rw[b4];exact Ad.z4 w2 ⟨↑w,1,none⟩ _
 rw[<-b4]at b3 ⊢;have a5:=J b5;have b6:=J ((H0.o.1.trans H.o.2).O b5 kJ);refine (jU W3 _ cs (HC.o.ext b6.o) HL.o.2).mono ?_;rintro e w4 ⟨v2,rfl,b7,a7⟩
 obtain⟨a4,c4,rfl⟩:=b7.1.sl
 have a8:=b3.o.Z a7 kI;have q2:=a8.cell (i:=2) (v:=.slice a2 cs.length c2) vF;have f2:w4.frozen? ⟨↑w,2,none⟩=false:=a8.frozen;have K:=a8.z2 (i:=2) (.slice a4 cs.length c4);have r0:=K.cell (i:=0) (v:=.int .i64 (bk:Int)) vF;have r1:=K.cell (i:=1) (v:=.slice a3 q.length c3) vF;have r2:=K.cell (i:=2) (v:=.slice a4 cs.length c4) vF;have r3:=K.cell (i:=3) (v:=.int .i64 (pn:Int)) vF;have c7:=((H0.o.2.2.Z H.o.2 kI).Z a5.o vO).Z a7 kI;have c8:=c7.z6 (p:=⟨↑w,2,none⟩) (by show (w:Nat)+1≠↑w;omega) (.slice a4 cs.length c4);have O:=J (bA b7 a7);have X:=J (show Ad (λz=>z=(w:Nat)) w4 (w4.setCell ⟨↑w,2,none⟩ (.slice a4 cs.length c4))from Ad.z4 w4 ⟨↑w,2,none⟩ _);have c9:=J c8;go_wp2_with (refine Bt (vs:=[(bk:Int),.slice a3 q.length c3,.slice a4 cs.length c4,(pn:Int)]) rfl rfl rfl rfl c9.o rfl Bo zc ?_;intro W8 d0 Z)
 go_wp2_with fail
 refine bodyPost_ret (Zq rfl rfl (SA W8 ((w:Nat)+1) 0 [(bk:Int),.slice a3 q.length c3,.slice a4 cs.length c4,(pn:Int)] rfl λi v hv=>by rw[bX];exact d0.z1 hv)) rfl ?_;have d3:=H0.o.2.1.lt;have d1:=H0.o.2.2.lt;have k1:=H.o.2.size;have k2:=a5.o.size;have k3:=O.o.2.size;have k4:=X.o.size;have k5:=Z.size;have a9:Af w W8:=((b6.o.trans O.o.2).O X.o kJ).O Z kJ;have kp:∀ {b:Nat},(w:Nat)+2<=b->b≠(w:Nat)/\b≠(w:Nat)+1:=λh=>by omega
 have d2:(W0:Nat)=↑w+2:=b9.o;have n1:Ga (Fs W0 w2) W8 (.slice a3 q.length c3) q:=(((H.o.1.Z a5.o λb hb e=>by have e:b=(w:Nat):=e;have:=hb.1;omega).Z O.o.2 λ_ _ e=>e).Z X.o λb hb e=>by have e:b=(w:Nat):=e;have:=hb.1;omega).Z Z (λb hb e=>by have e:b=(w:Nat)+1:=e;have:=hb.1;omega);have n2:Fz (Fs W3 w4) W8 (.slice a4 cs.length c4) cs:=(O.o.1.Z X.o λb hb e=>by have e:b=(w:Nat):=e;have:=hb.1;omega).Z Z (λb hb e=>by have e:b=(w:Nat)+1:=e;have:=hb.1;omega)
 refine⟨⟨⟨bk,q,cs,pn⟩,.slice a3 q.length c3,.slice a4 cs.length c4⟩,rfl,rfl,⟨n1.mono λb hb=>⟨?_,?_⟩,n2.mono λb hb=>⟨?_,?_⟩⟩,a9⟩
 ·have:=hb.1;omega
 ·have:=hb.2;omega
 ·have:=hb.1;omega
 ·have:=hb.2;omega
def CA(l:List Au)(i:Nat):Int:=match i with|0 => -1|k+1=>match l[k]? with|some v=>(v.block:Int)|none => -1
theorem B1(h:l.Pairwise λa b=>a.block<b.block)(hx:l[i]?=some x):¬(x.block:Int)<=CA l i:=by
 cases i with
 |zero=>show ¬(x.block:Int) <= -1;omega
 |succ k =>obtain⟨e,q⟩:=bI.1 hx;have A:l[k]?=some (l[k]'(by omega)):=bB vO;have:=gD.1 h k (k+1) vO e vO;unfold CA;simp only[A];rw[<-q];omega
theorem e7(hx:l[i]?=some x):CA l (i+1)=(x.block:Int):=by
 unfold CA;simp only[hx]
theorem B0(l:List Au)(i:Nat) : -1<=CA l i:=by
 unfold CA;split
 ·exact jA _
 ·split;{omega};exact jA _
def yN(w:vW)(o:Obj)(l:List Au)(av iv:vV)(wr:vW):Prop:=∃ i:Nat,i<=l.length/\iv=.int .i64 i/\av=.int .i64 (CA l i)/\Af w wr/\Ae wr w o
theorem Qh{x:Int}(h1 : -9000000000000000000<=x)(h2:x<=9000000000000000000):IntKind.i64.wrap x=x:=by
 simp[IntKind.wrap,IntKind.bits,IntKind.signed];omega
theorem Fh.lastAt{M:Dm}(h:Fh M):∃ v,M.all[M.all.length-1]?=some v/\v.block+1=M.next:=by
 obtain⟨v,q,e⟩:=h.last
 rw[gX]at q
 exact⟨v,q,e⟩
theorem VS(D:Nat->Prop)(M:Dm)(a:Option Addr)(c:Nat)(hv:Dh D w (.slice a M.all.length c) M.all)(hM:Fh M)(hl:M.all.length<=1000):vR 74 #[.agg #[(M.win:Int),(M.next:Int),.slice a M.all.length c]] w true:=by
 have HV:=J hv;have HM:=J hM;have a8:M.all.length≠0:=λe=>hM.ne (bF e)
 obtain⟨lv,a9,c9⟩:=hM.lastAt
 have hX:=(Aa w).alloc (.cells #[(M.win:Int),(M.next:Int),.slice a M.all.length c] 72)
 obtain⟨b,o,a1,d0,a2,e4,rfl,q0,q1,q2,q3,_,_⟩:=(hv.ext hX).at' a9
 have w1:=hM.win;have w2:=hM.next
 obtain⟨n,a0⟩:=vE M.all.length
 have HN:=J a0;rw[<-a0]at q0 q1 q2 q3 hl a8 HV ⊢;have d1:¬(M.win:Int)<1:=vO
 have d2:¬(8:Int)<(M.win:Int):=vO
 have d3:¬(M.next:Int)<1:=vO
 have d4:¬(1048576:Int)<(M.next:Int):=vO
 have d5:((n:Int) == 0)=false:=by simpa using a8
 have d6:((lv.block:Int) !=(M.next:Int)-1)=false:=by simp;omega
 obtain⟨k,hk⟩:∃ k,n=k+1:=⟨n-1,by omega⟩
 have d9:IntKind.i64.wrap ((n:Int)-1)=(k:Int):=by rw[Qh vO vO];omega
 have c5:=Qh (x:=(M.next:Int)-1) vO vO;have d7:(k:Int)<(n:Int):=vO
 have d8:(n:Int)-1=(k:Int):=vO
 have c7:(w.alloc (.cells #[(M.win:Int),(M.next:Int),.slice (some ⟨b,o,none⟩) n c] 72)).cell? ⟨b,o+k*4,none⟩=some (.int .i64 (lv.block:Int)):=by rw[show k=n-1 by omega];exact q0
 clear hv hM a9 hX a0 q0 q1 q2 q3 hk;unfold vR vQ;go_in;go_wp2_with fail
 go_quiet (fail)
 go_wp2_with fail
 clear d1 d2 d3 d4 d5 d6 d7 d8 d9 c5 c7;go_loopw [3,46] (λav iv wr=>yN w (.cells #[(M.win:Int),(M.next:Int),.slice (some ⟨b,o,none⟩) n c] 72) M.all av iv wr) (λ_ iv _=>n-(intOf iv).toNat)
 case atStart=>exact⟨0,cD _,rfl,rfl,((Aa w).alloc _).drewN _,Ae.new w _⟩
 case round =>obtain⟨i,hi,rfl,rfl,hE,b0⟩:=hrel;have HE:=J hE;have c8:=J b0;clear hE b0;rw[<-HN.o]at hi;by_cases hlt:i<n;{obtain⟨x,X⟩:∃ x,M.all[i]?=some x:=⟨_,bB (by rw[<-HN.o];exact hlt)⟩;have b2:=HV.o.ext HE.o;have A:=b2;rw[HN.o]at A;obtain⟨b',o',a1,c1,a2,c2,e0,q0,q1,q2,q3,b3,_⟩:=A.at' X;(cases e0;have H:=HM.o.ver x (bD X);have b4:=Ge H.map;have a3:=B1 HM.o.rise X;have b5:=e7 X;have b6:=B0 M.all i;have b7:=HM.o.less x (bD X);have b8:=H.pins;have b9:(decide (i+1=M.all.length) || Si M.win M.next x)=true:=by rcases qS HM.o.kept X with e|e;{rw[decide_eq_true e];rfl};rw[e,Bool.or_true]);have HH:=J (kY b3 H b4 b5 b9 X);have c0:CA M.all i<=2000000:=vO;obtain⟨ah,Z⟩:=vE (CA M.all i);rw[<-Z]at a3 b6 c0 ⊢;have e1:¬(x.block:Int)<=ah:=a3;have e2:¬(x.pins:Int)<0:=vO;have e3:¬(1048576:Int)<(x.pins:Int):=vO;have b1:(i:Int)<(n:Int):=vO;(have HQ:=J (bA b7 b8);clear b2 A b3 H b4 b5 b9 X Z a3 b6 c0 b7 b8;go_wp2_with fail);(have K:=(Aa wr).alloc (.cells #[(x.block:Int),.slice a1 x.ents.length c1,.slice a2 x.chgs.length c2,(x.pins:Int)] 91);refine vC (GZ _ _ x.ents (HH.o.1.1.ext K) (kL HH.o.2.2.1.len) λp hp=>kL (HH.o.2.2.1.size p hp)) λw2 O=>?_;rw[HH.o.2.1.map];have c3:=J (HE.o.trans (K.trans O));have c4:=J (sZ w2 D M (some ⟨b,o,none⟩) c (by have:=HV.o.ext c3.o;rwa [HN.o]at this) i x HH.o.I (by rw[<-HN.o];omega) vO vO (kL HQ.o) (kL HQ.o));rw[HH.o.e, <-HN.o]at c4;have a4:=(Ae.new wr (.cells #[(x.block:Int),.slice a1 x.ents.length c1,.slice a2 x.chgs.length c2,(x.pins:Int)] 91)).Z O kI;have p0:=a4.cell (i:=0) rfl;have q:=(c8.o.Z K kI).Z O kI;have m0:=q.cell (i:=0) rfl;have m1:=q.cell (i:=1) rfl;have m2:=q.cell (i:=2) rfl;have a7:=J q;clear q K O e1 e2 e3 b1;go_wp2_with fail);(refine c4.o.mono ?_;rintro e w3 ⟨rfl,a5⟩;have e5:=(a4.Z a5 kI).cell (i:=0) rfl;clear p0 m0 m1 m2 a4;go_wp2);go_roundw;{refine⟨i+1,by rw[<-HN.o];exact hlt,by simp,?_,c3.o.trans a5,a7.o.Z a5 kI⟩;rw[HH.o.d]};show n-((i:Int)+1).toNat<n-(i:Int).toNat;omega};obtain rfl:i=n:=vO;(go_wp2);go_ret;exact⟨rfl,HE.o⟩
end
