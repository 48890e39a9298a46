/- Lemmas. -/
import Derived.Test.YtebhlcllhigkcaaGreatDoorPa0
import Derived.Test.YtebhlcllhigkcaaGreatDoorPa28
import Derived.Test.YtebhlcllhigkcaaGreatDoorPa29
import Derived.Lib.SmallJoins
import Derived.Test.YtebhlcllhigkcaaGreatDoorCards
import Derived.Test.YtebhlcllhigkcaaGreatDoorTie
import Derived.Deep.DeepHandedRow
import Derived.Lay
namespace Go.Proofs.YtebhlcllhigkcaaGreatDoor
open Go.Proofs.Tryz
set_option linter.unusedSimpArgs false
set_option linter.unusedVariables false
set_option maxRecDepth 100000
set_option maxHeartbeats 16000000
variable {N N':Int}{H:Int->vL->Prop}{es:List (Ce Int)}{M:Dm}{b rm sb cb mb bm i j b' rm' sb' cb' mb' bm' k k' i' j':Nat}{Q:Nat->Prop}{L L':vL}{U:vM}{S:vT}{w0 W:vW}
section
open Go Go.RowKit
attribute [local go_sem] Oper.semAt_some
theorem Jg.up(h:Jg Q w0 W b rm sb cb mb bm N U H L M es S i)(hj:i<=j):Jg Q w0 W b rm sb cb mb bm N U H L M es S j:=by
 obtain⟨D,a,c,e,n,q,O,A,K⟩:=h.inv
 exact⟨⟨D,a,c,e,n,q,by omega,A,K⟩,h.cac,h.far,h.all,kL h.len,h.ext,h.lo,h.jf,kL h.sl,h.nw,kL h.nx,h.his⟩
theorem Ke.up(h:Ke w0 W b rm sb cb mb bm N b' rm' sb' cb' mb' bm' N' U H L k i L' k' i')(hj:i<=j)(hj':i'<=j'):Ke w0 W b rm sb cb mb bm N b' rm' sb' cb' mb' bm' N' U H L k j L' k' j':=by
 obtain⟨Q,q,M,A,S,K,e,O,X,Z,h3⟩:=h.two
 exact⟨Q,q,M,A,S,K,e,O,X.up hj,Z.up hj',h3⟩
def uI(w0:vW)(l:List Eu)(b rm sb cb mb bm b' rm' sb' cb' mb' bm':Nat)(U:vM)(iv:vV)(W:vW):Prop:=∃ k:Nat,k<=l.length/\iv=.int .i64 (k:Int)/\Ke w0 W b rm sb cb mb bm 0 b' rm' sb' cb' mb' bm' 5 U (Pm l) (Iw l k) (Gw l k+1) k (Iw l k) (Gw l k+1) k
theorem Jg.root(h:Jg Q w0 W b rm sb cb mb bm N U H L M es S i)(hi:i<=15)(hU:Gi U)(hH:∀ k m,H k m->Em m=0/\∀ t∈Ld m,t∈U)(bk:Int):vQ 9 #[b,.int .i64 bk] W fun e w'=>∃ (r:vB) (x:Int),e=.returned (.tuple #[r,.int .i64 x])/\Af W w'/\(x=0->∃ m j v,r=Bi m/\H bk m/\Jp M.all bk=some j/\M.all[j]?=some v/\Cp es bk=some (.string (Bi m))/\Iy S m):=by
 obtain⟨D,a,c,A,n,K, -⟩:=h.inv
 have O:=h.len;rcases h.at W hU hH bk with hn|⟨m,j,v,hm,hp,hv,hr,hM⟩
 ·refine (m2 W D b M a c rm sb cb es A K.m bk hn).mono ?_;rintro e w' ⟨rfl,q⟩;exact⟨_,_,rfl,q,fun h=>absurd h vI⟩
 ·refine (mE W D b M a c rm sb cb es A K.m vO bk j v (Bi m) hp hv hr).mono ?_;rintro e w' ⟨rfl,q⟩;exact⟨_,_,rfl,q,fun _=>⟨m,j,v,rfl,hm,hp,hv,hr,hM⟩⟩
theorem X4(o:Option vB):∃ val er,Kg o=.tuple #[.string val,.int .i64 er]:=by
 cases o with
 |none=>exact⟨_,_,rfl⟩
 |some u=>exact⟨_,_,rfl⟩
theorem V9(m:vL)(key:vB):∃ val er,CJ m key=.tuple #[.string val,.int .i64 er]:=by
 unfold CJ;split
 ·exact⟨_,_,rfl⟩
 ·exact⟨_,_,rfl⟩
theorem R_(w:vW)(hc:Ha w)(he:Gh w)(wa wb:Int)(v:vV)(l:List Eu)(hv:AI w v l)(hn:l.length<=9223372036854775807)(hs:KR l)(bk lm:Int)(key to:vB)(hk:key.size<=9223372036854775807)(ht:to.size<=9223372036854775807):vR 3 #[.int .i64 wa,.int .i64 wb,v,.agg #[.int .i64 bk,key,to,.int .i64 lm]] w true:=by
 have HC:=J (bA hc he);have HV:=J hv;have HS:=J (bA hn (bA hs (bA hk ht)))
 obtain⟨a0,c0,rfl⟩:=hv.sl
 obtain⟨ln,d8⟩:=vE l.length
 have A:=J d8;rw[<-d8];have h9:=(Aa w).alloc (.cells #[.int .i64 bk,key,to,.int .i64 lm] 24);have d9:=Ae.new w (.cells #[.int .i64 bk,key,to,.int .i64 lm] 24)
 obtain⟨ga,e0⟩:=vE w.heap.size
 rw[<-e0]at d9;have H0:=J (bA h9 d9);have i9:=J e0;clear hc he hv hn hs hk ht d8 h9 d9 e0;unfold vR vQ;go_in;go_wp2_with fail
 refine vC (E1 _ (HC.o.1.ext H0.o.1) (HC.o.2.ext H0.o.1)) fun w1 e4=>?_;rw[<-i9.o];have K:=J (bA (H0.o.1.trans e4) (H0.o.2.keeps e4 fun h=>h));clear e4 H0;go_wp2_with fail
 refine (WC w1 (HC.o.1.ext K.o.1) (HC.o.2.ext K.o.1) wa 2000 0 vI vI vI).mono ?_;rintro e w2 ⟨D,b,a,c,rm,sb,cb,mb,bm,z,rfl,hI,e5,hC,O,b7,a3, -,a4⟩;have H2:=J (bA e5 fun(U:vM) (H:Int->vL->Prop) (hU:Gf∈U) (hH:H 0 [])=>Jg.first (w0:=w1) (N:=0) (Aa w1) hU hH hI e5 hC O b7 a3 a4);clear hI e5 hC O b7 a3 a4;go_wp2_with fail
 refine (WC w2 (HC.o.1.ext (K.o.1.trans H2.o.1)) (HC.o.2.ext (K.o.1.trans H2.o.1)) wb 2000 5 vI vI vI).mono ?_;rintro e w3 ⟨D',b',a',c',b8,b9,a7,Z,c3,z',rfl,hI,c4,hC,O,b7,a3,i0,a4⟩;have H3:=J (bA (H2.o.1.trans c4) (bA i0 (bA (bA (O a7 (.inl rfl)).2.1 (O Z (.inr rfl)).2.1) fun(U:vM) (H:Int->vL->Prop) (hU:Gf∈U) (hH:H 0 [])=>(⟨_,_,_,_,_,_,_,_,(H2.o.2 U H hU hH).grow c4,Jg.first (w0:=w1) (N:=5) H2.o.1 hU hH hI c4 hC O b7 a3 a4,fun z h1 h2=>by have h1:=h1.2;have h2:=h2.1;omega,fun z h1=>by have h1:=h1.2;have:=c4.size;omega,fun z h1=>h1.2,rfl,rfl⟩:Ke w1 w3 b rm sb cb mb bm 0 b' b8 b9 a7 Z c3 5 U H [] 1 0 [] 1 0))));have j0:=J (K.o.2.keeps H3.o.1 fun h=>h);clear hI c4 hC O b7 a3 i0 a4;go_wp2_with (refine Gz 24 (.tmp 7) rfl rfl (.agg #[.int .i64 bk,key,to,.int .i64 lm]) ga rfl (T_ _ _ [.int .i64 bk,key,to,.int .i64 lm] rfl j0.o) ?_)
 have c5:=(Aa w3).alloc (.cells #[.int .i64 bk,key,to,.int .i64 lm] 24);have e6:=Ae.new w3 (.cells #[.int .i64 bk,key,to,.int .i64 lm] 24);generalize w3.alloc (.cells #[.int .i64 bk,key,to,.int .i64 lm] 24)=w4 at c5 e6 ⊢;have hf:=F8 w4 _ l (HV.o.ext (K.o.1.trans (H3.o.1.trans c5))) HS.o.1 HS.o.2.1 w3 bk lm key to HS.o.2.2.1 HS.o.2.2.2 e6;rw[<-A.o]at hf;refine hf.mono ?_;rintro e w5 ⟨⟨r,rfl,hr⟩,e7⟩;have HF:=J hr;have H5:=J (bA (H3.o.1.trans (c5.trans e7)) (c5.trans e7));clear c5 e6 hf hr e7;cases r with
 |false =>(go_wp2_with fail);go_ret;exact⟨rfl,K.o.1.trans H5.o.1⟩
 |true =>
 have b2:=J (HF.o rfl);clear HF;go_wp2_with fail
 have e8:=n3 w5 (HC.o.1.ext (K.o.1.trans H5.o.1)) _ l (HV.o.ext (K.o.1.trans H5.o.1)) (by rw[<-A.o];exact b2.o.2.1) b2.o.1;rw[<-A.o]at e8;refine e8.mono ?_;rintro e w6 ⟨r,rfl,hr,e9⟩;have i1:=J hr;have H6:=J (bA (H5.o.1.trans e9) (H5.o.2.trans e9));clear e8 hr e9;cases r with
 |false =>(go_wp2_with fail);go_ret;exact⟨rfl,K.o.1.trans H6.o.1⟩
 |true =>
 obtain⟨U,hU⟩:=vE (Df l ln)
 have HU:=J (show Gi U by rw[hU];exact i1.o rfl);have HN:=J (show IQ U by rw[hU];exact ZM ln);have b3:Hid (∀ j,j<=ln->∀ t∈Ld (Iw l j),t∈U):=(fun j hj t ht=>by rw[hU];exact UM hj (by rw[A.o];exact bM _) t ht);have j3:=J ((H3.o.2.2.2 U (Pm l) (b3.o 0 (cE _) Gf (by have:Iw l 0=[]:=rfl;rw[this,eL];exact bL.2 rfl)) ⟨0,cE _,rfl,rfl⟩).grow H6.o.2);clear hU i1;go_wp2_with fail
 go_loopw [16] (fun iv wr=>uI w1 l b rm sb cb mb bm b' b8 b9 a7 Z c3 U iv wr) (fun iv _=>ln-(intOf iv).toNat)
 case atStart=>exact⟨0,cE _,rfl,j3.o⟩
 case round =>obtain⟨k,hk,rfl,hT⟩:=hrel;rw[<-A.o]at hk;obtain⟨cn,f0⟩:=vE (Gw l k+1);(rw[<-f0]at hT;have HT:=J hT;have d5:=J f0;have h7:k<=10:=by have:=b2.o.2.1;have:=A.o;omega);have HK:=J h7;clear hT f0;by_cases hlt:k<ln;{have b1:(k:Int)<(ln:Int):=vO;obtain⟨p,hp⟩:∃ p,l[k]?=some p:=⟨_,bB (by rw[<-A.o];exact hlt)⟩;rcases HV.o with⟨_,_,_,h0⟩|⟨vb,vo,vc,hh,hvb,hvc,hcell⟩;{rw[A.o,h0]at hlt;cases hlt};obtain⟨rfl, -,rfl⟩:=dH hh;obtain⟨h0,h1,h2,f1⟩:=hcell k p hp;obtain⟨ua,uc,f2⟩:=f1.sl;rw[f2]at h1;have i2:=J (bA h0 h1);have f3:Af w wr:=K.o.1.trans HT.o.ext;have p0:=Am h0 f3;have p1:=Am h1 f3;have f4:=J (show Jj w (.slice ua p.cs.length uc) p.cs by rw[<-f2];exact f1);have b4:=J (eE (b2.o.1 p (bE hp)));have HP:=J hp;clear hcell hh hvb hvc h0 h1 h2 f1 f2 hp f3;by_cases hpk:p.k=0;(case neg =>(have j4:(p.k != 0)=true:=by simpa using hpk);(have a8:=J (WO (l:=l) (i:=k) fun ⟨q,e1,e2,_⟩=>hpk (by rw[HP.o]at e1;injection e1 with e1;rw[e1];exact e2));clear hpk;go_wp2_with fail);go_roundw;(case rel=>exact⟨k+1,by rw[<-A.o];omega,by go_num,by rw[a8.o.1,a8.o.2, <-d5.o];exact HT.o.up vO vO⟩);case measure=>exact vJ);(have j4:(p.k != 0)=false:=by simpa using hpk);(have c7:=J hpk;clear hpk;have d2:Ez (Iw l k) p.cs=0->∀ t∈Ld (Gp (Iw l k) p.cs),t∈U:=fun h0=>by have:=(JW HP.o c7.o h0).2;rw[<-this];exact b3.o (k+1) hlt);(have d3:Ez (Iw l k) p.cs=0->Pm l (cn:Int) (Gp (Iw l k) p.cs):=fun h0=>⟨k+1,by rw[<-A.o];exact hlt,by rw[VJ ⟨p,HP.o,c7.o,h0⟩,d5.o],(JW HP.o c7.o h0).2.symm⟩;have HI:=J (bA d2 d3);clear d2 d3;go_wp2_with fail);refine (TD w1 wr (HC.o.1.ext K.o.1) (HC.o.2.ext K.o.1) b rm sb cb mb bm 0 b' b8 b9 a7 Z c3 5 U HU.o HN.o (Pm l) _ _ k _ _ k HT.o (kL HK.o) _ p.cs (f4.o.ext K.o.1) b4.o.1 b4.o.2 (b3.o k hk) HI.o.1 HI.o.2).mono ?_;rintro e w7 (⟨d6,rfl,a9⟩|⟨a5,rfl,a9⟩);{have f5:=J a9.swap;obtain⟨x,hx⟩:=vE (Ez (Iw l k) p.cs);(have HX:=J (bA hx d6);rw[<-hx];have p1:=Am i2.o.2 (K.o.1.trans a9.ext);clear a9 hx d6 p0;go_wp2_with fail);refine (TD w1 w7 (HC.o.1.ext K.o.1) (HC.o.2.ext K.o.1) b' b8 b9 a7 Z c3 5 b rm sb cb mb bm 0 U HU.o HN.o (Pm l) _ _ k _ _ _ f5.o (kL HK.o) _ p.cs (f4.o.ext K.o.1) b4.o.1 b4.o.2 (b3.o k hk) HI.o.1 HI.o.2).mono ?_;rintro e w8 (⟨_,rfl,c8⟩|⟨a5,_⟩);{have f6:=J c8.swap;(rw[<-HX.o.1];have a8:=J (WO (l:=l) (i:=k) fun ⟨q,e1,_,e3⟩=>HX.o.2 (by rw[HP.o]at e1;injection e1 with e1;rw[e1];exact e3));clear c8 p1;go_wp2_with fail);go_roundw;(case rel=>exact⟨k+1,by rw[<-A.o];omega,by go_num,by rw[a8.o.1,a8.o.2, <-d5.o];exact f6.o⟩);case measure=>exact vJ};exact absurd a5 HX.o.2};have f5:=J a9.swap;(have HY:=J a5;have p1:=Am i2.o.2 (K.o.1.trans a9.ext);clear a9 a5 p0;go_wp2_with fail);refine (TD w1 w7 (HC.o.1.ext K.o.1) (HC.o.2.ext K.o.1) b' b8 b9 a7 Z c3 5 b rm sb cb mb bm 0 U HU.o HN.o (Pm l) _ _ k _ _ _ f5.o (kL HK.o) _ p.cs (f4.o.ext K.o.1) b4.o.1 b4.o.2 (b3.o k hk) HI.o.1 HI.o.2).mono ?_;rintro e w8 (⟨d6,_⟩|⟨_,rfl,c8⟩);{exact absurd HY.o d6};have f6:=J c8.swap;(have a8:=J (bA (VJ ⟨p,HP.o,c7.o,HY.o⟩) (JW HP.o c7.o HY.o).2);clear c8 p1;go_wp2_with fail);go_roundw;(case rel=>exact⟨k+1,by rw[<-A.o];omega,by go_num,by rw[a8.o.1,a8.o.2, <-d5.o];exact f6.o⟩);case measure=>exact vJ};have b1:¬(k:Int)<(ln:Int):=vO;obtain⟨Q,Q',M,es,S,M',k2,S',F1,F2,hd, -, -, -, -⟩:=HT.o.two;(have d4:∀ (j:Int) (m:vL),Pm l j m->Em m=0/\∀ t∈Ld m,t∈U:=fun j m ⟨i,h1,_,h2⟩=>by rw[h2];exact⟨NM i,b3.o i (by rw[A.o];exact h1)⟩);(have X:=J (bA F1 (bA F2 (bA hd d4)));have HQ:=J (fun W (e:Af w1 W)=>bA ((K.o.2.keeps e fun h=>h).cell (i:=0) (v:=.int .i64 bk) rfl) ((K.o.2.keeps e fun h=>h).cell (i:=1) (v:=.string key) rfl));have g0:=(HQ.o wr F1.ext).1;have k1:=HK.o;clear F1 F2 hd d4;go_wp2_with fail);(refine (X.o.1.root vO HU.o X.o.2.2.2 bk).mono ?_;rintro e w7 ⟨r1,x1,rfl,f7,c9⟩;have H7:=J (bA f7 c9);have g0:=(HQ.o w7 (X.o.1.ext.trans f7)).1;clear f7 c9;go_wp2_with fail);refine ((X.o.2.1.grow H7.o.1).root vO HU.o X.o.2.2.2 bk).mono ?_;rintro e w8 ⟨r2,x2,rfl,i3,d0⟩;have H8:=J (bA (H7.o.1.trans i3) d0);have g0:=(HQ.o w8 (X.o.1.ext.trans H8.o.1)).1;have g1:=(HQ.o w8 (X.o.1.ext.trans H8.o.1)).2;have HX:=J (K.o.1.trans (X.o.1.ext.trans H8.o.1));clear i3 d0;by_cases hx1:x1=0;(case neg =>(have e1:(x1 == 0)=false:=by simpa using hx1);(clear hx1 g0 g1;go_wp2_with fail);go_ret;exact⟨rfl,HX.o⟩);by_cases hx2:x2=0;(case neg =>(have e2:(x2 == 0)=false:=by simpa using hx2);(subst hx1;clear hx2 g0 g1;go_wp2_with fail);go_ret;exact⟨rfl,HX.o⟩);obtain⟨m,j1,v1,c9,i4,f8,f9,g2,g3⟩:=H7.o.2 hx1;obtain⟨m2,j2,v2,d0,i5,g4,g5,g6,g7⟩:=H8.o.2 hx2;obtain rfl:m=m2:=i4.one i5;obtain⟨D1,a1,c1,k3,n1,I1,j5,i6⟩:=X.o.1.open;obtain⟨D2,a2,c2,k4,n2,I2,g8,j6⟩:=X.o.2.1.open;have j7:=X.o.1.len;have j8:=X.o.2.1.len;subst hx1 hx2;rw[c9,d0];have g9:=zZ (I1.ext H8.o.1) vO bk m j1 v1 f8 f9 g2 g3 key (kL b2.o.2.2) mb (X.o.1.cac.keeps H8.o.1 kI fun h=>h);have h3:=fun w9 (e:Af wr w9)=>a_ (I2.ext e) vO bk m j2 v2 g4 g5 g6 g7 key (kL b2.o.2.2) Z 5 vI vI (X.o.2.1.cac.keeps e kI fun h=>h) H3.o.2.1 (fun W k=>g8 W ((e.mono kZ).trans k));have h4:=fun b5 (k:Ad (fun z=>z=a7\/z=Z) wr b5)=>tJ (i6 _ b5 (fun z hz e=>X.o.2.2.1 z hz (X.o.2.1.cacOwn z e)) X.o.2.1.cacRow k) vO bk m j1 v1 f8 f9 g2 g3 key;have h5:=fun b6 (k:Ad (fun z=>z=a7\/z=Z) wr b6)=>tJ (g8 b6 k) vO bk m j2 v2 g4 g5 g6 g7 key;obtain⟨k5,er,hV⟩:=X4 (Dt (Cq m) (Bw key));obtain⟨pv,pe,hP⟩:=V9 m key;rw[hV]at g9 h3;rw[hP]at h4 h5;obtain⟨rt,i7⟩:=vE (Bi m);(rw[<-i7];have HH:=J (bA h3 (bA h4 h5));have j9:=J g9;clear g9 h3 h4 h5 hV hP i7 c9 d0 i4 i5 f8 g4 f9 g5 g2 g6 g3 g7 I1 j5 i6 I2 g8 j6 j7 j8;go_wp2_with fail);(refine j9.o.mono ?_;rintro e w9 ⟨rfl,i8⟩;have H9:=J (H8.o.1.trans i8);have g0:=(HQ.o w9 (X.o.1.ext.trans H9.o)).1;have g1:=(HQ.o w9 (X.o.1.ext.trans H9.o)).2;clear i8;go_wp2_with fail);(refine vC (HH.o.1 w9 H9.o) fun b5 h6=>?_;have d1:=J (bA ((H9.o.mono kZ).trans h6) ((X.o.1.ext.trans H9.o).trans' h6 fun x hx e=>by have h:=H3.o.2.2.1;have h0:=H2.o.1.size;rcases e with e|e<;>omega));have g0:=(HQ.o b5 d1.o.2).1;have g1:=(HQ.o b5 d1.o.2).2;clear h6;go_wp2_with fail);(refine vC (HH.o.2.1 b5 d1.o.1) fun b6 b0=>?_;have d7:=J (bA (d1.o.1.trans (b0.mono kZ)) (d1.o.2.trans b0));have g0:=(HQ.o b6 d7.o.2).1;have g1:=(HQ.o b6 d7.o.2).2;clear b0;go_wp2_with fail);(refine vH (HH.o.2.2 b6 d7.o.1) fun k6 h8=>?_;have k0:=J (K.o.1.trans (d7.o.2.trans h8));clear g0 g1;go_wp2_with fail);go_ret;exact⟨rfl,k0.o⟩
end
section
open Go Go.ChangeShapes Go.WideShapes Go.ChangeAt Go.RowKit Go.Deep
theorem Ws:ownKnob prog.godebug=none:=vY
theorem Kl:laidOutB prog=true:=vY
theorem Ps:prog.cellsOf 9=1:=vY
theorem Oa:prog.cellsOf 4=1:=vY
theorem FY:maxLen<=9223372036854775807:=by unfold maxLen;omega
section
variable {H:Type} {enc:TypeId × vV->H} {w:vW} {base:Nat} {spare:Nat->Bool} {held:Bool}
theorem qV{α:Type}(n:Nat)(d:α)(P:Nat->α->Prop)(h:∀ i,i<n->∃ x,P i x):∃ l:List α,l.length=n/\∀ i x,l[i]?=some x->P i x:=by
 induction n with
 |zero=>exact⟨[],rfl,fun i x q=>by simp at q⟩
 |succ n ih =>obtain⟨l,A,H⟩:=ih fun i K=>h i vO;obtain⟨x,q⟩:=h n vO;refine⟨l++[x],by simp[A],fun i y e=>?_⟩;by_cases K:i<n;{rw[cN vO]at e;exact H i y e};rw[cO vO]at e;(have:i-l.length=0:=by have:=(bI.1 e).1;simp at this;omega);rw[this]at e;simp at e;subst e;rw[show i=n by omega];exact q
end
end
section
open Go Go.ChangeShapes Go.WideShapes Go.ChangeAt Go.RowKit Go.Deep
theorem Pr:prog.cellsOf 43=3:=vY
section
variable {H:Type} {enc:TypeId × vV->H} {w:vW} {base:Nat} {spare:Nat->Bool} {held:Bool}
theorem N7{n:Nat}{a:Addr}{cs:List vV}{x:DataW H × List MemPlace}(hc:w.cells? base a 3=some cs)(h:DataW.trod enc prog w base spare held n 43 cs=some x):∃ p:Br,w.cell? (a.add 0)=some (.string p.key)/\w.cell? (a.add 1)=some (.string p.value)/\w.cell? (a.add 2)=some (.bool p.gone)/\p.key.size<=9223372036854775807/\p.value.size<=9223372036854775807:=by
 obtain⟨_,hl,K⟩:=World.cells?_some hc
 obtain⟨xs,m,_,_,_,O,X⟩:=DataW.trod_struct underlying43 h
 match cs,hl with
 |[c0,c1,c2],_ =>have e:DataW.trod enc prog w base spare held m 9 (([c0,c1,c2].drop 0).take (prog.cellsOf 9))=xs[0]?:=X 0 _ rfl;have q:DataW.trod enc prog w base spare held m 9 (([c0,c1,c2].drop 1).take (prog.cellsOf 9))=xs[1]?:=X 1 _ rfl;have A:DataW.trod enc prog w base spare held m 4 (([c0,c1,c2].drop 2).take (prog.cellsOf 4))=xs[2]?:=X 2 _ rfl;rw[Ps]at e q;rw[Oa]at A;dsimp only[List.drop,List.take]at e q A;have Z:∀ i,i<3->∃ y,xs[i]?=some y:=fun i hi=>⟨_,bB (by rw[O];exact hi)⟩;obtain⟨y0,e0⟩:=Z 0 vO;obtain⟨y1,e1⟩:=Z 1 vO;obtain⟨y2,e2⟩:=Z 2 vO;rw[e0]at e;rw[e1]at q;rw[e2]at A;obtain⟨r,q0,_,w0⟩:=DataW.trod_string underlying9 e;obtain⟨s,q1,_,w1⟩:=DataW.trod_string underlying9 q;obtain⟨b,q2,_⟩:=DataW.trod_bool underlying4 A;simp only[List.cons.injEq,and_true]at q0 q1 q2;subst q0 q1 q2;exact⟨⟨r,s,b⟩,K 0 vO,K 1 vO,K 2 vO,bF w0 FY,bF w1 FY⟩
theorem a7{v:vV}{d:DataW H}{p:List MemPlace}(hv:∃ a n c,v=.slice a n c)(h:DataW.Trod enc prog w 0 spare held 33 v d p):∃ l:List Br,Jj w v l/\l.length<=9223372036854775807/\∀ p∈l,p.key.size<=9223372036854775807/\p.value.size<=9223372036854775807:=by
 obtain⟨a0,n0,c0,rfl⟩:=hv
 obtain⟨a2,hf⟩:=h
 rcases open_slice underlying33 hf with⟨hcs,_⟩|⟨a,len,cap,m,n,D,Pl,hcs,_,hl,hm,hmm,_,Z⟩
 ·simp only[Value.cells]at hcs;(have e:Value.slice a0 n0 c0=.slice none 0 0:=by simpa using hcs);rw[e];exact⟨[],.inl ⟨none,0,rfl,rfl⟩,by simp,by simp⟩
 ·(have e:Value.slice a0 n0 c0=.slice (some a) len cap:=by simpa [Value.cells]using hcs);(rw[e];have a3:len<=m:=by rw[hmm];split<;>omega);obtain⟨l,K,A⟩:=qV len (⟨⟨#[]⟩,⟨#[]⟩,false⟩:Br) (fun i p=>w.cell? ((a.add (i*3)).add 0)=some (.string p.key)/\w.cell? ((a.add (i*3)).add 1)=some (.string p.value)/\w.cell? ((a.add (i*3)).add 2)=some (.bool p.gone)/\p.key.size<=9223372036854775807/\p.value.size<=9223372036854775807) (fun i a4=>by obtain⟨a5,h1,h2⟩:=Z i vO;rw[Pr]at h1;exact N7 h1 h2);(have a1:∀ p∈l,p.key.size<=9223372036854775807/\p.value.size<=9223372036854775807:=fun p hp=>by obtain⟨i,Z⟩:=fE hp;exact (A i p Z).2.2.2);have O:l.length<=9223372036854775807:=kL FY;refine⟨l,?_,O,a1⟩;by_cases h0:len=0;{subst h0;exact .inl ⟨some a,cap,rfl,bH K⟩};obtain⟨p0,X⟩:∃ p,l[0]?=some p:=⟨_,bB vO⟩;(have q:a.spot=none:=by simpa [Addr.add]using World.cell?_spot (A 0 p0 X).1);obtain⟨b,o,sp⟩:=a;dsimp only at q;subst q;refine .inr ⟨b,o,cap,by rw[K],dU w _ (A 0 p0 X).1,by omega,fun j x hx=>?_⟩;obtain⟨q1,q2,q3,_⟩:=A j x hx;rw[Go.Deep.add_add,Go.WideShapes.add_plain]at q1 q2 q3;exact⟨q1,q2,q3⟩
end
end
section
open Go Go.ChangeShapes Go.WideShapes Go.ChangeAt Go.RowKit Go.Deep
theorem Nf:prog.cellsOf 35=3:=vY
theorem Nh:prog.cellsOf 3=1:=vY
theorem Ni:prog.cellsOf 33=1:=vY
section
variable {H:Type} {enc:TypeId × vV->H} {w:vW} {spare:Nat->Bool} {held:Bool}
theorem k0{n:Nat}{a:Addr}{cs:List vV}{x:DataW H × List MemPlace}(hc:w.cells? 0 a 3=some cs)(h:DataW.trod enc prog w 0 spare held n 35 cs=some x):∃ p:Eu,w.cell? (a.add 0)=some (.int .i64 p.k)/\w.cell? (a.add 1)=some p.v/\w.cell? (a.add 2)=some (.int .i64 p.n)/\Jj w p.v p.cs/\p.cs.length<=9223372036854775807/\∀ c∈p.cs,c.key.size<=9223372036854775807/\c.value.size<=9223372036854775807:=by
 obtain⟨_,hl,K⟩:=World.cells?_some hc
 obtain⟨xs,m,_,_,_,O,X⟩:=DataW.trod_struct underlying35 h
 match cs,hl with
 |[c0,c1,c2],_ =>have q:DataW.trod enc prog w 0 spare held m 3 (([c0,c1,c2].drop 0).take (prog.cellsOf 3))=xs[0]?:=X 0 _ rfl;have e:DataW.trod enc prog w 0 spare held m 33 (([c0,c1,c2].drop 1).take (prog.cellsOf 33))=xs[1]?:=X 1 _ rfl;have A:DataW.trod enc prog w 0 spare held m 3 (([c0,c1,c2].drop 2).take (prog.cellsOf 3))=xs[2]?:=X 2 _ rfl;rw[Nh]at q A;rw[Ni]at e;dsimp only[List.drop,List.take]at q e A;have Z:∀ i,i<3->∃ y,xs[i]?=some y:=fun i hi=>⟨_,bB (by rw[O];exact hi)⟩;obtain⟨y0,e0⟩:=Z 0 vO;obtain⟨y1,e1⟩:=Z 1 vO;obtain⟨y2,e2⟩:=Z 2 vO;rw[e0]at q;rw[e1]at e;rw[e2]at A;obtain⟨k,q0,_,_⟩:=DataW.trod_int underlying3 q;obtain⟨r,q2,_,_⟩:=DataW.trod_int underlying3 A;(simp only[List.cons.injEq,and_true]at q0 q2;subst q0 q2;have hs:∃ a n c,c1=.slice a n c:=by rcases open_slice underlying33 e with⟨hcs,_⟩|⟨b,len,cap,_,_,_,_,hcs,_⟩;{exact⟨none,0,0,by simpa [Value.cells]using hcs⟩};exact⟨some b,len,cap,by simpa [Value.cells]using hcs⟩);obtain⟨l,r1,r2,r3⟩:=a7 (v:=c1) (d:=y1.1) (p:=y1.2) hs ⟨m,by obtain⟨a1,n1,a0,rfl⟩:=hs;exact e⟩;exact⟨⟨k,c1,l,r⟩,K 0 vO,K 1 vO,K 2 vO,r1,r2,r3⟩
theorem d9{v:vV}{d:DataW H}{p:List MemPlace}(hv:∃ a n c,v=.slice a n c)(h:DataW.Trod enc prog w 0 spare held 22 v d p):∃ l:List Eu,AI w v l/\l.length<=9223372036854775807/\KR l:=by
 obtain⟨a0,n0,c0,rfl⟩:=hv
 obtain⟨a2,hf⟩:=h
 rcases open_slice underlying22 hf with⟨hcs,_⟩|⟨a,len,cap,m,n,D,Pl,hcs,_,hl,hm,hmm,_,Z⟩
 ·simp only[Value.cells]at hcs;(have e:Value.slice a0 n0 c0=.slice none 0 0:=by simpa using hcs);rw[e];exact⟨[],.inl ⟨none,0,rfl,rfl⟩,by simp,fun p hp=>by cases hp⟩
 ·(have e:Value.slice a0 n0 c0=.slice (some a) len cap:=by simpa [Value.cells]using hcs);(rw[e];have a3:len<=m:=by rw[hmm];split<;>omega);obtain⟨l,K,A⟩:=qV len (⟨0,false,[],0⟩:Eu) (fun i p=>w.cell? ((a.add (i*3)).add 0)=some (.int .i64 p.k)/\w.cell? ((a.add (i*3)).add 1)=some p.v/\w.cell? ((a.add (i*3)).add 2)=some (.int .i64 p.n)/\Jj w p.v p.cs/\p.cs.length<=9223372036854775807/\∀ c∈p.cs,c.key.size<=9223372036854775807/\c.value.size<=9223372036854775807) (fun i a4=>by obtain⟨a5,h1,h2⟩:=Z i vO;rw[Nf]at h1;exact k0 h1 h2);(have a1:KR l:=fun p hp=>by obtain⟨i,Z⟩:=fE hp;exact (A i p Z).2.2.2.2);have O:l.length<=9223372036854775807:=kL FY;refine⟨l,?_,O,a1⟩;by_cases h0:len=0;{subst h0;exact .inl ⟨some a,cap,rfl,bH K⟩};obtain⟨p0,X⟩:∃ p,l[0]?=some p:=⟨_,bB vO⟩;(have q:a.spot=none:=by simpa [Addr.add]using World.cell?_spot (A 0 p0 X).1);obtain⟨b,o,sp⟩:=a;dsimp only at q;subst q;refine .inr ⟨b,o,cap,by rw[K],dU w _ (A 0 p0 X).1,by omega,fun j x hx=>?_⟩;obtain⟨q1,q2,q3,q4,_⟩:=A j x hx;rw[Go.Deep.add_add,Go.WideShapes.add_plain]at q1 q2 q3;exact⟨q1,q2,q3,q4⟩
end
end
section
open Go Go.RowKit
def XE:List Int:=EZ.map fun x=>(x.toNat:Int)
theorem k8:(Rows.laid_guilloche_sha_cubes:DataW Unit)=Lib.tabData .u32 XE:=vY
theorem Mw:prog.globalNamed "guilloche/sha.cubes"=some 1:=vY
theorem Nj:(prog.globals[1]?).map (·.type)=some 316:=vY
theorem Ta:prog.underlying 316=some (.array 64 258):=vY
theorem Pt:prog.cellsOf 258=1:=vY
theorem Ng:prog.cellsOf 316=64:=vY
theorem H8(h:laidMetH prog [("errors.errorType",Rows.laid_errors_errorType),("guilloche/sha.cubes",Rows.laid_guilloche_sha_cubes)] W):Ha W:=by
 have e:laidMet prog [("guilloche/sha.cubes",Rows.laid_guilloche_sha_cubes)] W:=(laidMetH_iff.1 h).1;rw[k8]at e;have q:=Lib.tabIs_of_head Mw Nj Ta Bl Pt Ng e;intro i A
 have:=q.cell Mw i (by unfold XE;rw[bT];exact A)
 rw[this];unfold XE wv;simp only[bK,bZ];cases EZ[i]? <;> rfl
theorem Wq:prog.globalNamed "errors.errorType"=some 0:=vY
theorem Pw:(prog.cutTypes.find? (·.1 == "internal/reflectlite.rtype")).map (·.2)=some 241:=vY
theorem Sp:(List.range prog.types.size).all (fun t => !(prog.rowNamed t [101,114,114,111,114]) || t == 93)=true:=vY
theorem Oc:typeHandle prog 93=.pointer (some ⟨3,93,none⟩):=vY
theorem xH(h:laidMetH prog [("errors.errorType",Rows.laid_errors_errorType),("guilloche/sha.cubes",Rows.laid_guilloche_sha_cubes)] W):Gh W:=by
 have H:=(laidMetH_iff.1 h).2 ("errors.errorType",Rows.laid_errors_errorType) (by simp[Rows.laid_errors_errorType,DataW.handleName?]);have K:∃ e u ty,(Rows.laid_errors_errorType:DataW Unit).handleName?=some e/\(prog.cutTypes.find? (·.1 == "internal/reflectlite.rtype")).map (·.2)=some u/\ty<prog.types.size/\prog.rowNamed ty e=true/\W.var? prog "errors.errorType"=some #[.iface u (.agg #[typeHandle prog ty])]:=H
 obtain⟨e,u,ty,O,X,Z,e4,q⟩:=K
 obtain rfl:u=241:=bV (X.symm.trans Pw);obtain rfl:e=[101,114,114,111,114]:=(bV (show some [101,114,114,111,114]=some e from O)).symm;have A:=fF.1 Sp ty (fA.2 Z);rw[e4]at A;obtain rfl:ty=93:=by simpa using A
 rw[Oc]at q
 have:=World.var?_cell Wq q 0
 exact this
end
section
open Go Go.ChangeShapes Go.WideShapes Go.ChangeAt Go.RowKit
def L3:Obj->Obj
 |.cells _ t frozen=>.cells (EZ.map wv).toArray t frozen
 |o=>o
def zI:Obj->Obj
 |.cells _ t frozen=>.cells #[.iface 241 (.agg #[.pointer (some ⟨3,93,none⟩)])] t frozen
 |o=>o
noncomputable def Mq(os:Os):vW:=
 { World.holding prog os ⟨#[],#[],[]⟩with heap:=((World.holding prog os ⟨#[],#[],[]⟩).heap.modify 1 L3).modify 0 zI }
theorem E4(os:Os)(args:Array vV):laidMetH prog [("errors.errorType",Rows.laid_errors_errorType),("guilloche/sha.cubes",Rows.laid_guilloche_sha_cubes)] ((Mq os).forCall (fun _ _=>0) ⟨#[],args,[]⟩).memory:=
 laidMetH_of_parts (laidMet_of_run' 8 vY vY) vY
end
section
open Go Go.ChangeShapes Go.WideShapes Go.ChangeAt Go.RowKit Go.ChangeMaps
theorem h3:laidOutB Tryz.pinned.checked.prog=true:=vY
theorem V_:mapsRowed Tryz.pinned.checked.prog=true:=vY
theorem L5:(Tryz.pinned.checked.prog.stops == [])=true:=vY
theorem X_:(Tryz.pinned.checked.prog.stopKnobs == [])=true:=vY
theorem W_:(Rows.chainSameRow.plainKeys == Tryz.pinned.checked.prog.plainKeys)=true:=vY
theorem y_:Tryz.pinned.checked.prog.stopsHeard=true:=vY
theorem a5:Tryz.pinned.checked.prog.mayEnter=true:=vY
theorem t5:(Rows.chainSameRow.lifted == Tryz.pinned.checked.prog.liftsFinal)=true:=vY
theorem jzj:(Tryz.pinned.checked.prog.make == some Rows.chainSameRow.make)=true:=vY
theorem jzi:Tryz.pinned.checked.prog.mainIs=some (true, "d3651dca1afbddd334ba962a2e82c07d6c96165f243026b3bb7375d19caa8cc9".toList):=vY
theorem L4:true=Tryz.pinned.checked.prog.looks []:=vY
end
