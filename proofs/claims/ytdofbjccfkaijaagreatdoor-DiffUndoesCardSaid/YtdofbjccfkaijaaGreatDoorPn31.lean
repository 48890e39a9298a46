/- Lemmas; each is under no condition but those that it states. -/
import Derived.Test.YtdofbjccfkaijaaGreatDoorPn30
namespace Go.Proofs.YtdofbjccfkaijaaGreatDoor
set_option linter.unusedSimpArgs false
set_option linter.unusedVariables false
set_option maxRecDepth 100000
set_option maxHeartbeats 16000000
section
open Go Go.RowKit
attribute [local go_sem] Oper.semAt_some
theorem juW{W0 W:vW}(hc:jbY W)(he:ErrT W){s bm:Nat}{room:Int}{U:vM}{S:vT}{n:Nat}(h:Tst W0 W s bm room U S n)(hn:n<=5000)(hU:InjL U)(hN:jnc U){l:vL}(hM:HasM S l)(u:vV)(cs:List Chg)(hu:RdC W u cs)(hnc:cs.length<=9223372036854775807)(hsc:∀ c∈cs,c.key.size<=9223372036854775807/\c.value.size<=9223372036854775807)(hr0:0<=room)(hr1:room<=9223372036854775807)(h0:jaW l cs=0)(hs:∀ t∈ja5 (ja6 l cs),t∈U){k:Nat}(hk:(newM S (ja6 l cs)).length<=k)(hroom:(n:Int)+k<=room)(hk1:1<=k) :
  vQ 17 #[.pointer (some ⟨s,0,none⟩),.string (rootM l),u] W fun e E=>e=.returned (.tuple #[.string (rootM (ja6 l cs)),.int .i64 0])/\∃ o,Tst W0 E s bm room U o (n+k)/\HasM o (ja6 l cs)/\AddK W U S (ja6 l cs) (newM S (ja6 l cs)) o/\jaf (fun z=>z=bm\/z∈S.map (·.2.1)) W E:=by
 have hb:=h.bds hn;refine (juV W hc he s bm room S h.st (h.kp.nodes hN) l hM u cs hu hnc hsc hr0 hr1 hb.1 hb.2.1 hb.2.2).mono ?_;intro e E H
 obtain⟨o,A⟩:=juU W hU h.kp h0 hs H (by have:=h.len;omega)
 exact⟨A.res,o,h.add hk hk1 A,A.add.has hU (jbZ h0) hs,A.add,A.kp⟩
theorem Tst.o{W0 W:vW}{s bm:Nat}{room:Int}{U:vM}{S:vT}{n:Nat}(h:Tst W0 W s bm room U S n){z:Nat}(hz:W.heap.size<=z):¬(z=bm\/z∈S.map (·.2.1)):=by
 rintro (rfl | e)
 ·obtain⟨E,H,hb,_⟩:=h.st.mp.mp
  have:=hb.lt;omega
 ·obtain⟨x,A,rfl⟩:=bJ.1 e
  obtain⟨J,hb,_⟩:=(h.st.mp.items x A).cells
  have:=hb.lt;omega
theorem jn5{W:vW}{b:Nat}(xs:List Chg){T:TypeId}(hB:Blk W b (.cells (jd1 xs).toArray T)):RdC W (.slice (some ⟨b,0,none⟩) xs.length xs.length) xs:=
 .inr ⟨b,0,xs.length,rfl,hB.lt,bL _,fun j x e=>by
  obtain⟨o,z,A⟩:=jeL xs j x e
  exact⟨by rw[cG];exact hB.cellL o,by rw[cG];exact hB.cellL z,by rw[cG];exact hB.cellL A⟩⟩
theorem jBx:makesN twP dwC (rootM dwQ)=0:=by unfold makesN;rw[if_pos dw_e,dw_a,if_pos rfl]
theorem jBy:makesN twP [] (rootM dwQ)=9:=by unfold makesN;rw[if_pos jBv,jBr,if_neg (fun e=>jzV e.symm)]
theorem jAK(x:vB):(x.toList == x.toList)=true:=by rw[jd6];exact decide_eq_true rfl
theorem jun(w:vW)(hc:jbY w)(he:ErrT w):vR 4 #[] w (.bool true):=by
 have HC:=Hd hc;have Z:=Hd he;clear hc he;unfold vR vQ;go_in;go_wp2_with fail
 have a2:=(ExtR w).alloc (.cells (jb8 twP).toArray 47);refine (jo2 _ (HC.o.ext a2) (Z.o.ext a2) _ twP (jv4 w twP 47) (by show 2<=9223372036854775807;omega) jzW).mono ?_;rintro e w2 (⟨rfl,hE,d9⟩ |⟨s,bm,S,rfl,hH⟩)
 ·exact absurd ⟨jzR,tw_p,jxD⟩ d9
 rw[show shaB (jaF twP).text=rootM twP from rfl];have b2:=Hd a2;have b3:=Hd (hH.tst.more jse);have HM:=Hd hH.has;clear hH a2;go_wp2_with fail
 have c3:=(ExtR w2).alloc (.cells (jd1 dwC).toArray 49);have b4:=Hd (b3.o.grow c3);have c4:=Hd (jv3 w2 dwC 49);have b5:Ext w (w2.alloc (.cells (jd1 dwC).toArray 49)):=b2.o.trans b4.o.ext;have hn:(newM S (ja6 twP dwC)).length<=1:=by rw[dw_a,jx7 dw_b];exact bL _
 have b6:=juW (HC.o.ext b5) (Z.o.ext b5) b4.o vI jjK joN HM.o _ dwC c4.o (by show 2<=9223372036854775807;omega) jsd vI vI dw_e (by rw[dw_a];exact jzS) hn vI (bL _);rw[dw_a]at b6;clear c3 hn;refine b6.mono ?_;rintro e w4 ⟨rfl,S4,a3,c5,c9,d0⟩;have a4:=Hd ((Blk.new w2 (.cells (jd1 dwC).toArray 49)).keeps d0 (b3.o.o (bL _)));have A:=Hd a3;have d1:=Hd c5;have H:=Hd (c9.more jjK jse HM.o);have hK:jdC S4 ⟨#[63]⟩=false:=by unfold jdC;rw[jBD A.o.kp vI];rfl
 have HK:=Hd hK;have a5:Hid (AllN S4):=a3.kp.nodes joN;have a9:Hid (∀ x∈jax (jaF twP),x∈dwU):=fun x hx=>jse x (jfE.1 hx);have d2:Hid (∀ x∈jax (jaF dwQ),x∈dwU):=fun x hx=>jzS x (jfE.1 hx);have Q:Hid (Ext w w4):=b2.o.trans a3.ext;clear a3 c5 c9 d0 b6 hK b4 b3 HM c4 b5 b2
 obtain⟨cb,d3⟩:=vE w2.heap.size
 rw[<-d3]at a4 ⊢;clear d3;go_wp2_with fail
 have hO:=jwW w4 s bm 2000 S4 A.o.st H.o d1.o jjK a9.o d2.o;unfold OfP at hO;rw[jBs]at hO;refine hO.mono ?_;rintro e w5 ⟨v5,rfl,b7⟩;have d4:=Hd b7.rdT;have b8:=Hd b7.ext;clear b7 hO;go_wp2_with fail
 have hO:=jwW w5 s bm 2000 S4 (A.o.st.ext b8.o) H.o H.o jjK a9.o a9.o;unfold OfP at hO;rw[jBu]at hO;refine hO.mono ?_;rintro e w6 ⟨v6,rfl,b0⟩;have b9:=Hd (b8.o.trans b0.ext);have d5:=Hd (d4.o.ext b0.ext)
 obtain⟨a6,c6,rfl⟩:=b0.sl
 clear b0 hO b8 d4;go_wp2_with fail
 obtain⟨B,hB,hF⟩:=jsk w6 s bm 2000 S4 (A.o.st.ext b9.o) a5.o (by have:=A.o.len;omega) H.o d1.o jjK a9.o d2.o
 obtain rfl:=dw_f hB;unfold jrg at hF;rw[dw_s]at hF;refine hF.mono ?_;rintro e w7 ⟨v7,rfl,O⟩;have b1:=Hd (b9.o.trans O.ext);have d6:=Hd (d5.o.ext O.ext)
 obtain⟨a7,c7,rfl⟩:=O.sl
 obtain⟨g7,rfl⟩:=jgX O vI
 have q7:=jev O.own (j:=0) (u:=.string (rootM dwQ)) vF;have Q7:=Hd q7;clear O hF hB b9 d5 q7;go_wp2_with fail
 have d7:=jpX w7 s bm 2000 S4 (A.o.st.ext b1.o) a5.o H.o (.slice (some ⟨cb,0,none⟩) 2 2) dwC (jn5 dwC (a4.o.keeps b1.o (fun h=>h))) (by show 2<=9223372036854775807;omega) jsd;refine d7.mono ?_;intro e w8 hU;unfold jrl at hU;rw[if_pos dw_e]at hU;unfold OfP at hU;rw[dw_a,jBt]at hU
 obtain⟨v8,rfl,J⟩:=hU
 have c0:=Hd (b1.o.trans J.ext);have d8:=Hd (d6.o.ext J.ext);have Q8:=Hd (jaa Q7.o J.ext)
 obtain⟨a8,c8,rfl⟩:=J.sl
 obtain⟨g8,rfl⟩:=jgX J vI
 have q9:=J.own.cellAt 5 vI;have Q9:=Hd (show w8.cell? ⟨g8,5,none⟩=some (.bool true)from q9);clear J d7 b1 d6 Q7 q9;go_wp2_with fail
 refine vC (jBK w8 s bm 2000 S4 (A.o.st.ext c0.o) (rootM twP) ⟨#[63]⟩ (by rw[HK.o,iF])) fun w9 X=>?_;have c1:=Hd (c0.o.trans X);have e0:=Hd (d8.o.ext X);have Q8:=Hd (jaa Q8.o X);have Q9:=Hd (jaa Q9.o X);clear X c0 d8;go_wp2_with fail
 refine vC (joc w9 v5 (.slice (some ⟨cb,0,none⟩) 2 2) dwC e0.o (jn5 dwC (a4.o.keeps c1.o (fun h=>h))) (by show 2<=1000000;omega)) fun e1 K=>?_;have z:=Hd (c1.o.trans K);have q8:=jaa Q8.o K;have q9:=jaa Q9.o K;have hq:=jAK (rootM dwQ);clear K c1;go_wp2_with fail
 have hM:=jiN e1 (HC.o.ext (Q.o.trans z.o)) (Z.o.ext (Q.o.trans z.o)) s bm 2000 S4 (A.o.st.ext z.o) a5.o H.o (.slice (some ⟨cb,0,none⟩) 2 2) dwC (jn5 dwC (a4.o.keeps z.o (fun h=>h))) (by show 2<=9223372036854775807;omega) jsd (rootM dwQ);rw[jBx]at hM;refine hM.mono ?_;rintro e e2 ⟨rfl,a0⟩;have E:=Hd (z.o.trans a0);clear a0 hM z q8 q9 hq;go_wp2_with fail
 have hM:=jiN e2 (HC.o.ext (Q.o.trans E.o)) (Z.o.ext (Q.o.trans E.o)) s bm 2000 S4 (A.o.st.ext E.o) a5.o H.o (.slice none 0 0) [] (.inl ⟨_,_,rfl,rfl⟩) (cE _) (fun c hc=>(cN hc).elim) (rootM dwQ);rw[jBy]at hM;refine hM.mono ?_;rintro e e3 ⟨rfl,a1⟩;have c2:=Hd (E.o.trans a1);clear a1 hM E;go_wp2_with fail
 go_ret
 exact⟨rfl,Q.o.trans c2.o⟩
def jzk(l:vL)(w:vW)(e:Ending)(w':vW):Prop:=∃ a n c k L,e=.returned (.tuple #[.slice a n c,.int .i64 k])/\SRow w w' (.slice a n c) n L/\n=L.length/\n<=121/\k=jaw l/\(jaw l=0->L=ja5 l)
theorem jiR(w:vW)(hc:jbY w)(v:vV)(l:vL)(hv:RdP w v l)(hn:l.length<=9223372036854775807)(hs:jb7 l) :
  vQ 6 #[v] w (jzk l w):=by
 by_cases h:jaw l=0
 ·refine (jpn w v l hc hv h).mono ?_
  rintro e w' ⟨u,n,rfl,o⟩;have o:SRow w w' u n (ja5 l):=o;have z:(ja5 l).length=n:=by have:=o.len;simpa using this
  obtain⟨a,c,rfl⟩:=o.sl
  exact⟨a,n,c,0,_,rfl,o,z.symm,by rw[<-z];exact jc4 h,h.symm,fun _=>rfl⟩
 ·refine (jmr w v l hv hn hs h).mono ?_
  rintro e w' ⟨rfl,A⟩
  exact⟨none,0,0,jaw l,[],rfl,ORow.nil _ _ A,rfl,by omega,rfl,fun E=>absurd E h⟩
theorem jgo{ops:Array Oper}{rest:List Oper}{d:Option Tmp}{ty:TypeId}{pos:String}{af:Array Edge}{a:Act}{w0 w1 w:vW}{Q:Exit->Act->vW->Prop}{s x:Operand}{v pv:vV}{n m N:Nat}{xs:List vV}{ys:vM}
  (hR:ORow 9 1 w0 w v n xs) (hP:SRow w1 w pv m ys) (hN:n+m=N) (hs:a.eval s=v) (hx:a.eval x=pv) (h63:N<=1000000)
  (h:∀ o w',ORow 9 1 w0 w' o N (xs++ys.map Value.string)->wpList Tryz.prog ops Q rest (a.put d o) w') :
  wpList Tryz.prog ops Q (⟨d,.call { callee:=.builtin .append,args:=#[s,x],argTypes:=#[28,28] },ty,pos,af,none⟩ :: rest) a w:=by
 subst hN
 obtain⟨Z,⟨rfl,z⟩ |⟨g,A,E,rfl,z,h4,h5,h6,h7⟩⟩:=hP.own
 ·have H:ys=[]:=by
   have:=hP.len
   rw[z]at this;exact bD (by simpa using this)
  subst H
  obtain⟨ad,c,rfl⟩:=hR.sl
  have J:n<=c:=by
   obtain⟨_,⟨e,e2⟩ |⟨g,A,E,e,_,_,k5,_⟩⟩:=hR.own
   ·omega
   ·obtain⟨_,_,e⟩:=cW e;omega
  refine jgn Tryz.sStrs hs hx J (h _ _ ?_);subst z;simpa using hR
 ·exact jaK Tryz.sStrs hR s x rfl hs hx (fun j u K=>hP.own.cells (g:=g) rfl j u K) (fun u O=>by obtain⟨y,_,rfl⟩:=bJ.1 O;rfl) (by have:=hP.len;simpa using this) rfl (by unfold maxLen;omega) vO (fun o w' X _ _=>h o w' X)
def jy0(w:vW)(e:Ending)(w':vW):Prop:=e=.returned (.tuple #[.pointer none,.string ⟨#[]⟩,.string ⟨#[]⟩])/\Ext w w'
structure jy1(a b:vL)(more:vM)(w:World)(s bm:Nat)(S:vT)(w':World):Prop where
 fa:fewB a=true
 fb:fewB b=true
 ha:HasM S a
 hb:HasM S b
 inj:InjL (ja5 a++ja5 b++more)
 tst:Tst w w' s bm 2000 (ja5 a++ja5 b) S 250
 key:∀ k,k∈S.map (·.1)↔(∃ t∈ja5 a,k=ky t)\/∃ t∈ja5 b,k=ky t
 held:∀ k,jvr (atL S k)=(if k=ky (jaF a).text then 1 else 0)+(if k=ky (jaF b).text then 1 else 0)
def jAV(a b:vL)(more:vM)(w:vW)(e:Ending)(w':vW):Prop:=jy0 w e w'\/∃ s bm S,e=.returned (.tuple #[.pointer (some ⟨s,0,none⟩),.string (rootM a),.string (rootM b)])/\jy1 a b more w s bm S w'
theorem jzI(w:vW)(hc:jbY w)(he:ErrT w)(u v mv:vV)(a b:vL)(mo:vM)(ha:RdP w u a)(hb:RdP w v b)(hna:a.length<=9223372036854775807)(hnb:b.length<=9223372036854775807)(hsa:jb7 a)(hsb:jb7 b){mn:Nat}(hm:w.ownsRow 0 9 1 mv mn (mo.map Value.string))(hmn:mn<=100000) :
  vQ 7 #[u,v,mv] w (jAV a b mo w):=by
 have HC:=Hd hc;have c5:=Hd he;have HA:=Hd ha;have HB:=Hd hb;have HN:=Hd (bB (bB hna hnb) (bB hsa hsb));have e9:=Hd hm
 obtain⟨ua,uc,rfl⟩:=ha.sl
 obtain⟨va,vc,rfl⟩:=hb.sl
 clear hc he ha hb hna hnb hsa hsb hm;go_enter Tryz.func7,Tryz.ntmps7;go_wp2_with fail
 refine vH (jwP w _ b HB.o HN.o.1.2 HN.o.2.2) fun w1 A=>?_
 obtain⟨fb,b0⟩:=vE (fewB b)
 have f0:=Hd b0;rw[<-b0];clear b0;go_wp2_with fail
 have E:vQ 16 #[.slice ua a.length uc] w1 fun e w2=>∃ sp xr,e=.returned (.tuple #[.pointer sp,.string xr])/\Ext w1 w2/\(sp=none\/∃ s bm S,sp=some ⟨s,0,none⟩/\xr=rootM a/\jfV a w1 s bm S w2):=by
  refine (jo2 w1 (HC.o.ext A.o) (c5.o.ext A.o) _ a (HA.o.ext A.o) HN.o.1.1 HN.o.2.1).mono ?_;rintro e w2 (⟨rfl,hE,_⟩ |⟨s,bm,S,rfl,E⟩)
  ·exact⟨none,_,rfl,hE,.inl rfl⟩
  ·exact⟨_,_,rfl,E.ext,.inr ⟨s,bm,S,rfl,rfl,E⟩⟩
 refine E.mono ?_;rintro e w2 ⟨sp,xr,rfl,b1,c6⟩;have f1:=Hd c6;have f7:=Hd b1;have b2:=Hd (A.o.trans b1);clear E c6 b1;go_wp2_with fail
 refine (jiR w2 (HC.o.ext b2.o) _ b (HB.o.ext b2.o) HN.o.1.2 HN.o.2.2).mono ?_;rintro e w6 ⟨ya,yn,yc,k1,Y,rfl,K,c7,e7,c8,c9⟩;have d0:=Hd K;have b3:=Hd (b2.o.trans K.ext);have b4:=Hd (bB c7 (bB c8 c9));have a0:=Hd K.ext;clear K c7 c9 c8;go_wp2_with fail
 refine (jiR w6 (HC.o.ext b3.o) _ a (HA.o.ext b3.o) HN.o.1.1 HN.o.2.1).mono ?_;rintro e Z ⟨xa,xn,xc,k2,X,rfl,hX,d1,e8,d2,d3⟩;have d4:=Hd hX;have b5:=Hd (d0.o.mono hX.ext);have b6:=Hd (b3.o.trans hX.ext);have a1:=Hd (a0.o.trans hX.ext);have f2:=Hd (bB d1 (bB d2 d3));have O:Hid (SRow (bare Z) Z mv mn mo):=ORow.any (jbo e9.o b6.o);clear hX d1 d3 d2 a0 d0
 obtain⟨N,hN⟩:∃ N,xn+yn=N:=⟨_,rfl⟩
 obtain⟨N2,d5⟩:∃ N2,N+mn=N2:=⟨_,rfl⟩
 have b9:N<=1000000:=vO
 have c0:xn<=1000000:=vO
 have a2:N2<=1000000:=vO
 have d6:=Hd (bB hN d5);have d7:=Hd (show ORow 9 1 Z (Z.alloc (.cells #[] 9)) (.slice (some ⟨Z.heap.size,0,none⟩) 0 0) 0 []from ORow.lit #[] (ExtR Z) vI rfl);have d8:=Hd (d4.o.mono ((ExtR Z).alloc (.cells #[] 9)));have f3:=Hd (O.o.mono ((ExtR Z).alloc (.cells #[] 9)));clear hN d5;go_wp2_with (first
  |(at_builtin;(refine jgo d7.o d8.o (cG xn) rfl rfl c0 ?_;intro v8 w8 r1;have d9:=Hd r1;have e0:=Hd (b5.o.mono r1.ext);have f4:=Hd (O.o.mono r1.ext);clear r1))
  |(at_builtin;(refine jgo d9.o e0.o d6.o.1 rfl rfl b9 ?_;intro v9 w9 r2;have e1:=Hd r2;have e2:=Hd (O.o.mono r2.ext);clear r2))
  |(at_builtin;(refine jgo e1.o e2.o d6.o.2 rfl rfl a2 ?_;intro f8 e3 r3;have e4:=Hd r3;obtain⟨aa,ac,c2⟩:=r3.sl;subst c2;clear r3)))
 have H:=Hd (show SRow Z e3 (.slice aa N2 ac) N2 (X++Y++mo)from by have h:=e4.o;rw[cP, <-cB, <-cB]at h;exact h);have b7:=Hd (b6.o.trans H.o.ext);have a3:=Hd (a1.o.trans H.o.ext);have e5:=Hd (b5.o.mono H.o.ext);have c3:=Hd (show (X++Y++mo).length=N2 from by have:=H.o.len;simpa using this);clear d9 e1 e4 e0 f4 e2 f3 d7 d8 b6 d4 b5 a1;refine (jnk e3 (HC.o.ext b7.o) _ (X++Y++mo) (SRow.rd H.o) (by rw[c3.o];exact a2)).mono ?_;rintro e Q ⟨q,rfl,hb,hE⟩;have z:=Hd (b7.o.trans hE);have a4:=Hd (a3.o.trans hE);have c4:=Hd (e5.o.mono hE);have f5:=Hd hb;clear hE hb a3 e5 b7 H;cases fb with
 | false =>
  go_wp2_with fail
  refine bodyPost_ret (results_tmp3 rfl _ _ _) rfl ?_;exact .inl ⟨rfl,z.o⟩
 | true =>
 rcases f1.o with rfl |⟨s,bm,S,rfl,rfl,E⟩
 ·go_wp2_with fail
  refine bodyPost_ret (results_tmp3 rfl _ _ _) rfl ?_;exact .inl ⟨rfl,z.o⟩
 by_cases hk:k1=0
 case neg =>
  have c1:(k1 != 0)=true:=by simpa using hk
  go_wp2_with fail
  refine bodyPost_ret (results_tmp3 rfl _ _ _) rfl ?_;exact .inl ⟨rfl,z.o⟩
 subst hk;cases q with
 | false =>
  go_wp2_with fail
  refine bodyPost_ret (results_tmp3 rfl _ _ _) rfl ?_;exact .inl ⟨rfl,z.o⟩
 | true =>
 have J:jaw b=0:=b4.o.2.1.symm;have e6:=f2.o.2.2 E.ok;have a8:=b4.o.2.2 J;have HI:=Hd (show InjL (ja5 a++ja5 b++mo) by have:=f5.o.1 rfl;rw[e6,a8]at this;exact this);have hU:InjL (ja5 a++ja5 b):=fun x hx y hy e=>HI.o x (fE _ hx) y (fE _ hy) e;have b8:=c4.o;rw[a8]at b8;have a5:=b4.o.1;rw[a8]at a5;have f9:=Hd (E.tst.grow a4.o);have hT:=(E.tst.grow a4.o).more (V:=ja5 a++ja5 b) (fun t h=>fE _ h);have a9:=hT.bds vI;have a6:=jng Q (HC.o.ext z.o) (c5.o.ext z.o) s bm 2000 S hT.st _ (ja5 b) (SRow.rd b8) False (jg7 (jdZ J)) vO (jaF b).text (jhT J).head vI vI a9.1 a9.2.1 a9.2.2;have a7:=Hd (fun(e:Ending) (W':vW) (hA:jlr False Q s bm 2000 S (ja5 b) e W')=>(show e=.returned (.tuple #[.string (rootM b),.int .i64 0])/\∃ S',jy1 a b mo w s bm S' W' from by
  rcases jop Q Q hU hT.kp (jpt S J) (fun t h=>jD _ h) vO (ExtR Q) hA with⟨_,_,h3⟩ |⟨S',K⟩
  ·have:=E.len
   omega
  ·refine⟨K.res,S',E.few,f0.o.symm,K.add.more hU (fun t h=>fE _ h) E.has,K.add.has hU J (fun t h=>jD _ h),HI.o,?_,fun k=>?_,fun k=>?_⟩
   ·have h1:=hT.add (k:=121) vO vI K
    refine⟨A.o.trans h1.ext,h1.st,h1.kp,by have:=h1.len;omega,bK A.o.size h1.bnew,fun x hx=>bK A.o.size (h1.new x hx),fun x hx=>by have:=h1.hb x hx;omega⟩
   ·rw[K.add.key,E.key]
   ·rw[K.add.held,E.held]))
 clear hT a9 b8 a8 e6 E hU a5 J;go_wp2_with fail
 refine a6.mono ?_;intro e W' hA
 obtain⟨rfl,S',hB⟩:=a7.o e W' hA
 have f6:=Hd hB;clear hA hB a6;go_wp2_with fail
 refine bodyPost_ret (results_tmp3 rfl _ _ _) rfl ?_;exact .inr ⟨s,bm,S',rfl,f6.o⟩
end
section
open Go Go.RowKit
end
section
open Go Go.RowKit
attribute [local go_sem] Oper.semAt_some
theorem ju6{l m:vL}(h1:jaw l=0)(h2:jaw m=0):(jcf l m).length<=80:=jjI (jaA h1).len (jaA h2).len
def jAT(w:vW)(l:vL)(cs:List Chg)(e:Ending)(w':vW):Prop:=∃ a c k m,e=.returned (.tuple #[.slice a m.length c,.int .i64 k])/\Ext w w'/\RdP w' (.slice a m.length c) m/\m.length<=40/\jb7 m/\(jaW l cs=0->m=ja6 l cs)
theorem jrB(w:vW)(v u:vV)(l:vL)(cs:List Chg)(hv:RdP w v l)(hu:RdC w u cs)(hn:l.length<=9223372036854775807)(hnc:cs.length<=9223372036854775807)(hs:jb7 l)(hsc:∀ c∈cs,c.key.size<=9223372036854775807/\c.value.size<=9223372036854775807) :
  vQ 5 #[v,u] w (jAT w l cs):=by
 refine (jnn w v u l cs hv hu hn hnc hs hsc).mono ?_;intro e w' o;unfold jej at o
 by_cases h0:jaW l cs=0
 ·rw[if_pos h0]at o
  obtain⟨r,rfl,z⟩:=o
  have z:ERow w w' r (ja6 l cs).length (ja6 l cs):=z;have A:=jaA (jbZ h0)
  obtain⟨a,c,rfl⟩:=z.sl
  exact⟨a,c,0,_,rfl,z.ext,z.rd,A.len,fun p E=>by have:=A.size p E;omega,fun _=>rfl⟩
 ·rw[if_neg h0]at o
  obtain⟨rfl,H⟩:=o
  exact⟨none,0,_,[],rfl,H,.inl ⟨_,_,rfl,rfl⟩,cE _,fun p E=>(cN E).elim,fun h=>absurd h h0⟩
end
section
open Go Go.RowKit
theorem jAa{p q:Pair}(h1:jbh p.1 q.1=false):(p.1.toList == q.1.toList) = !jbh q.1 p.1:=by
 have o:¬ Lt p.k q.k:=fun e=>by rw[(jbm _ _).2 e]at h1;cases h1
 have hb:(p.1.toList == q.1.toList)=decide (p.k=q.k):=by
  rw[bO,bO]
  by_cases h:p.k=q.k
  ·rw[decide_eq_true h];simpa using h
  ·rw[decide_eq_false h,fP];intro A;exact h (eq_of_beq A)
 rw[hb];cases h2:jbh q.1 p.1 with
 | true =>
  have z:=(jbm _ _).1 h2;rw[decide_eq_false]; · rfl
  intro e;rw[show q.1.data.toList=p.k from e.symm]at z;exact lt_irrefl _ z
 | false =>
  rw[decide_eq_true]; · rfl
  rcases jhK p.k q.k with h | h | h
  ·exact absurd h o
  ·exact h
  ·rw[(jbm _ _).2 h]at h2;cases h2
theorem jd7{w:vW}{b o N c:Nat}{p:Pair}{l2:vL}(h:RdP w (.slice (some ⟨b,o,none⟩) N c) (p :: l2)):RdP w (.slice (if c=1 then some ⟨b,o,none⟩else some ⟨b,o+2,none⟩) (N - 1) (c - 1)) l2:=by
 rcases h with⟨_,_,_,h0⟩ |⟨b1,o1,c1,hh,hb,hc,hcell⟩
 ·cases h0
 ·obtain⟨e,z,A⟩:=cW hh
  have e:=bS e;injection e with e4 e5;subst e4;subst e5;subst A;have hN:N - 1=l2.length:=by rw[z,bF];omega
  rw[bF]at hc
  by_cases h1:c=1
  ·rw[if_pos h1,hN]
   have:l2=[]:=bD vO
   subst this;exact .inl ⟨_,_,rfl,rfl⟩
  ·rw[if_neg h1,hN]
   refine .inr ⟨b,o+2,c - 1,rfl,hb,by omega,fun j x E=>?_⟩
   have:=hcell (j+1) x (by simpa using E)
   rw[show o+2+j * 2=o+(j+1) * 2 by omega];exact this
structure RdS5(w:World)(l m:vL)(l' m':vL)(acc:List Chg)(av bv ov:Value)(wr:World):Prop where
 la:RdP w av l'
 lb:RdP w bv m'
 sa:jb7 l'
 sb:jb7 m'
 na:l'.length<=40
 nb:m'.length<=40
 nt:acc.length+l'.length+m'.length<=80
 row:CRow w wr ov acc.length acc
 eq:acc++ja2 l' m'=ja2 l m
def jzo(w:vW)(l m:vL)(av bv ov:vV)(wr:vW):Prop:=∃ l' m' acc,RdS5 w l m l' m' acc av bv ov wr
def lenOf:vV->Nat | .slice _ n _=>n | _=>0
theorem jyl(w:vW)(v u:vV)(l m:vL)(hv:RdP w v l)(hu:RdP w u m)(hn1:l.length<=45)(hn2:m.length<=45)(hs1:jb7 l)(hs2:jb7 m) :
  vQ 37 #[v,u] w fun e w'=>∃ u,e=.returned u/\CRow w w' u (jcf l m).length (jcf l m):=by
 have a4:=Hd (jk3 w v l hv vO hs1);have a9:=Hd (fun w1 (Q:Ext w w1)=>jk3 w1 u m (hu.ext Q) vO hs2);have HV:=Hd hv;have HU:=Hd hu
 obtain⟨a,c,rfl⟩:=hv.sl
 obtain⟨a',c',d7⟩:=hu.sl
 subst d7;have e9:=Hd hs1;have f0:=Hd hs2;clear hv hu hs1 hs2
 by_cases hck:jaw l=0
 case neg =>
  have HD:=Hd (show jcf l m=[] by unfold jcf;rw[if_neg (fun h=>hck h.1)]);rw[HD.o]
  obtain⟨x,hx⟩:=vE (jaw l)
  rw[<-hx]at hck a4;have f1:(x == 0)=false:=by simpa using hck
  have d8:(x != 0)=true:=by simpa using hck
  clear hck hx HV HU a9 HD;go_enter Tryz.func37,Tryz.ntmps37;go_wp2_with fail
  refine a4.o.mono ?_;rintro e w1 ⟨rfl,hE⟩;have HE:=Hd hE;clear hE a4;go_wp2_with fail
  go_ret
  exact⟨_,rfl,ORow.nil _ _ HE.o⟩
 by_cases hck2:jaw m=0
 case neg =>
  have HD:=Hd (show jcf l m=[] by unfold jcf;rw[if_neg (fun h=>hck2 h.2)]);rw[HD.o];rw[hck]at a4
  obtain⟨x,hx⟩:=vE (jaw m)
  rw[<-hx]at hck2 a9;have f1:(x == 0)=false:=by simpa using hck2
  have d8:(x != 0)=true:=by simpa using hck2
  clear hck hck2 hx HV HU HD;go_enter Tryz.func37,Tryz.ntmps37;go_wp2_with fail
  refine a4.o.mono ?_;rintro e w1 ⟨rfl,hE⟩;have HE:=Hd hE;clear hE a4;go_wp2_with fail
  refine vH (a9.o w1 HE.o) fun w2 hE=>?_;have c8:=Hd (HE.o.trans hE);clear a9 HE;go_wp2_with fail
  go_ret
  exact⟨_,rfl,ORow.nil _ _ c8.o⟩
 have d9:=(jaA hck).len;have e0:=(jaA hck2).len;have HD:=Hd (show jcf l m=ja2 l m by unfold jcf;rw[if_pos ⟨hck,hck2⟩]);rw[HD.o];rw[hck]at a4;rw[hck2]at a9;clear hck hck2 HD hn1 hn2
 obtain⟨R,hR⟩:=vE (ja2 l m)
 rw[<-hR];have f2:=Hd hR;clear hR;go_enter Tryz.func37,Tryz.ntmps37;go_wp2_with fail
 refine a4.o.mono ?_;rintro e w1 ⟨rfl,hE⟩;have c9:=Hd hE;clear hE a4;go_wp2_with fail
 refine vH (a9.o w1 c9.o) fun w2 hE=>?_;have c8:=Hd (c9.o.trans hE);clear a9 c9;go_wp2_with fail
 go_loopw [0,1,5] (fun av bv ov wr=>jzo w l m av bv ov wr) (fun av bv _ _=>lenOf av+lenOf bv)
 case atStart=>exact⟨l,m,[],HV.o,HU.o,e9.o,f0.o,d9,e0,by simp;omega,ORow.nil _ _ c8.o,rfl⟩
 case round =>
  obtain⟨l',m',H,hS⟩:=hrel
  obtain⟨aa,ca,rfl⟩:=hS.la.sl
  obtain⟨ab,cb,rfl⟩:=hS.lb.sl
  obtain⟨ao,co,rfl⟩:=hS.row.sl
  have A:=Hd hS;have e2:=hS.na;have e3:=hS.nb;have c2:=hS.nt;clear hS
  match l',m' with
  | [],[] =>
   have HF:=Hd (show H=R by have:=A.o.eq;rw[f2.o];simpa [ja2]using this);rw[cF];go_wp2_with fail
   go_ret
   refine⟨_,rfl,?_⟩
   have h:=A.o.row;have hf:=HF.o;subst hf;exact h
  |(x1,x2) :: l2,[] =>
   rcases A.o.la with⟨_,_,_,h0⟩ |⟨bl,ol,c1,hh,hb,hcc,hcell⟩
   ·cases h0
   obtain⟨NA,a5⟩:∃ n,n=((x1,x2) :: l2).length:=⟨_,rfl⟩
   rw[<-a5]at hh e2 c2 hcc ⊢;cases hh
   obtain⟨q1,q2⟩:=hcell 0 (x1,x2) rfl
   simp only[gE,fR]at q1 q2;have a1:=Hd (jaa q1 A.o.row.ext);have b9:=Hd (jaa q2 A.o.row.ext);have e1:Hid (¬(Value.slice ao H.length co).ownBlock=some bl):=(fun e=>by have:=A.o.row.new _ e;omega);have f3:(0:Int) < (NA:Int):=by rw[a5,bF];omega
   have f4:(1:Int)<=(NA:Int):=vO
   have f5:((NA:Int) == 0)=false:=by simp;omega
   have d0:0 < NA:=vO
   have f6:decide (0 < NA)=true:=decide_eq_true d0;have f7:(1:Int)<=(ca:Int):=vO
   have b3:=Hd (show NA=l2.length+1 by rw[a5,bF]);clear hcell q1 q2 a5 hb hcc;have c0:H.length<=80:=vO
   rw[cF];have q1:=a1.o;go_wp2_with fail
   refine jag [0,1,2,3,4,5,6,7,8,9,10,11,12,13,14,15,16,17,18] Ext ExtR ExtT vY vY vY ?_;iterate 4 refine vK ?_
   iterate 14 (refine qKS _ rfl ?_;refine vS ?_)
   refine vK ?_
   refine qKE (fun w3 E=>?_);have d1:=Hd (A.o.row.mono ((jah _).trans E));have q1:=jaa q1 ((jah _).trans E);clear E;have d2:H.length+1<=maxLen:=by unfold maxLen;omega
   have d3:(H.length+1) * 40<=140737488355328:=vO
   go_wp2_with (at_builtin;refine jaK Tryz.sChgs (d1.o.mono ((ExtR w3).alloc _)) (.tmp 41) (.tmp 47) rfl rfl rfl (jaI (Blk.new w3 _)) (news:=[.string x1,.string ⟨#[]⟩,.bool true]) (by intro u hu;simp at hu;rcases hu with rfl | rfl | rfl <;> rfl) rfl rfl d2 d3 ?_;intro v6 w6 r1 r2 r3)
   have J:CRow w w6 v6 (H++[(⟨x1,⟨#[]⟩,true⟩:Chg)]).length (H++[(⟨x1,⟨#[]⟩,true⟩:Chg)]):=by unfold CRow;rw[jby,bC];exact r1
   obtain⟨a6,c6,rfl⟩:=J.sl
   have X:=Hd J;clear r1 r2 r3 J;go_wp2_with fail
   refine⟨⟨l2,[],_,jd7 (by have h:=A.o.la;rw[bF, <-b3.o]at h;exact h),A.o.lb,(fun z hz=>A.o.sa z (bE _ hz)),A.o.sb,?_,?_,?_,X.o,?_⟩,?_⟩
   ·have:=A.o.na;simp only[bF,cF]at this ⊢;omega
   ·have:=A.o.nb;simp only[bF,cF]at this ⊢;omega
   ·have:=A.o.nt;simp only[bF,cF,bC]at this ⊢;omega
   ·have:=A.o.eq
    rw[ja2]at this;simpa using this
   ·simp only[lenOf];omega
  | [],(y1,y2) :: m2 =>
   rcases A.o.lb with⟨_,_,_,h0⟩ |⟨bm,om,c1,hh,hb,hcc,hcell⟩
   ·cases h0
   obtain⟨NM,a7⟩:∃ n,n=((y1,y2) :: m2).length:=⟨_,rfl⟩
   rw[<-a7]at hh e3 c2 hcc ⊢;cases hh
   obtain⟨q1,q2⟩:=hcell 0 (y1,y2) rfl
   simp only[gE,fR]at q1 q2;have Z:=Hd (jaa q1 A.o.row.ext);have a3:=Hd (jaa q2 A.o.row.ext);have a0:Hid (¬(Value.slice ao H.length co).ownBlock=some bm):=(fun e=>by have:=A.o.row.new _ e;omega);have f8:(0:Int) < (NM:Int):=by rw[a7,bF];omega
   have f9:(1:Int)<=(NM:Int):=vO
   have g0:((NM:Int) == 0)=false:=by simp;omega
   have d4:0 < NM:=vO
   have g1:decide (0 < NM)=true:=decide_eq_true d4;have g2:(1:Int)<=(cb:Int):=vO
   have b4:=Hd (show NM=m2.length+1 by rw[a7,bF]);clear hcell q1 q2 a7 hb hcc;have c0:H.length<=80:=vO
   rw[cF];go_wp2_with fail
   refine jag [0,1,2,3,4,5,6,7,8,9,10,11,12,13,14,15,16,17,18] Ext ExtR ExtT vY vY vY ?_;iterate 8 refine vK ?_
   iterate 9 (refine qKS _ rfl ?_;refine vS ?_)
   iterate 2 refine vK ?_
   refine qKE (fun w3 E=>?_);have b0:=Hd ((jah _).trans E);clear E;go_wp2_with fail
   refine jag [0,1,2,3,4,5,6,7,8,9,10,11,12,13] Ext ExtR ExtT vY vY vY ?_;iterate 4 refine vK ?_
   iterate 9 (refine qKS _ rfl ?_;refine vS ?_)
   refine vK ?_
   refine qKE (fun w4 E=>?_);have O:=b0.o.trans ((jah _).trans E);have b5:=Hd (A.o.row.mono O);have b6:=Hd (jaa Z.o O);have b7:=Hd (jaa a3.o O);clear E O b0;go_wp2_with fail
   refine jaC [0,1,2,3,4,5,6,7,8,9,10,11,12] [10,11] Ext (jaf (fun b=>(Value.slice ao H.length co).ownBlock=some b)) ExtR ExtT (fun x y z h k=>jaf.trans h k) (fun x y h=>h.mono (fun _ _ h=>h.elim)) vY vY vY ?_;iterate 4 refine vD ?_
   refine qDL ⟨bm,om,none⟩ (.string y1) rfl (fun w3 h3=>jab Tryz.uStr rfl (jar (by exact b6.o) h3 a0.o)) ?_;refine vS ?_;iterate 3 refine vD ?_
   refine qDL ⟨bm,om+1,none⟩ (.string y2) rfl (fun w3 h3=>jab Tryz.uStr rfl (jar (by exact b7.o) h3 a0.o)) ?_;refine vS ?_
   refine vD ?_
   refine qDH _ rfl (fun w6 E K hK=>?_);have X:=Hd (b5.o.mono ((jah _).trans E));clear E;go_simp;refine hK _ _ ((jaf.refl _ w6).alloc _) ?_;clear hK K;refine qDH _ rfl (fun w7 E K hK=>?_);have a8:=Hd (X.o.mono (((ExtR w6).alloc _).trans E));have hB:∀ k u,([.string y1,.string y2,.bool false]:List vV)[k]?=some u->w7.cell? ((⟨w6.heap.size,0,none⟩:Addr).add k)=some u:=fun k u hk=>jaa (jaI (Blk.new w6 (.cells [Value.string y1,.string y2,.bool false].toArray 49)) k u hk) E;refine jfv Tryz.sChgs a8.o (.tmp 65) (.tmp 75) rfl rfl hB (by intro u hu;simp at hu;rcases hu with rfl | rfl | rfl <;> rfl) rfl rfl (by unfold maxLen;omega) vO (fun v' w8 r1 r2 r3=>hK _ _ r2 ?_);have J:CRow w w8 v' (H++[(⟨y1,y2,false⟩:Chg)]).length (H++[(⟨y1,y2,false⟩:Chg)]):=by unfold CRow;rw[jby,bC];exact r1
   have a2:=Hd J;clear hK K E r1 r2 r3 J hB X a8
   obtain⟨a6,c6,rfl⟩:=a2.o.sl
   refine vS ?_
   refine vD ?_
   refine qDE (fun w9 E=>?_);have b1:=Hd (a2.o.mono E);clear E a2;go_wp2_with fail
   refine⟨⟨[],m2,_,A.o.la,jd7 (by have h:=A.o.lb;rw[bF, <-b4.o]at h;exact h),A.o.sa,(fun z hz=>A.o.sb z (bE _ hz)),?_,?_,?_,b1.o,?_⟩,?_⟩
   ·have:=A.o.na;simp only[bF,cF]at this ⊢;omega
   ·have:=A.o.nb;simp only[bF,cF]at this ⊢;omega
   ·have:=A.o.nt;simp only[bF,cF,bC]at this ⊢;omega
   ·have:=A.o.eq
    rw[ja2]at this;simpa using this
   ·simp only[lenOf];omega
  |(x1,x2) :: l2,(y1,y2) :: m2 =>
   rcases A.o.la with⟨_,_,_,h0⟩ |⟨bl,ol,c1,hh,hb,hcc,hcell⟩
   ·cases h0
   obtain⟨NA,a5⟩:∃ n,n=((x1,x2) :: l2).length:=⟨_,rfl⟩
   rw[<-a5]at hh e2 c2 hcc ⊢;cases hh
   obtain⟨q1,q2⟩:=hcell 0 (x1,x2) rfl
   simp only[gE,fR]at q1 q2;have a1:=Hd (jaa q1 A.o.row.ext);have b9:=Hd (jaa q2 A.o.row.ext);have e1:Hid (¬(Value.slice ao H.length co).ownBlock=some bl):=(fun e=>by have:=A.o.row.new _ e;omega);have f3:(0:Int) < (NA:Int):=by rw[a5,bF];omega
   have f4:(1:Int)<=(NA:Int):=vO
   have f5:((NA:Int) == 0)=false:=by simp;omega
   have d0:0 < NA:=vO
   have f6:decide (0 < NA)=true:=decide_eq_true d0;have f7:(1:Int)<=(ca:Int):=vO
   have b3:=Hd (show NA=l2.length+1 by rw[a5,bF]);clear hcell q1 q2 a5 hb hcc;rcases A.o.lb with⟨_,_,_,h0⟩ |⟨bm,om,c1,hh,hb,hcc,hcell⟩
   ·cases h0
   obtain⟨NM,a7⟩:∃ n,n=((y1,y2) :: m2).length:=⟨_,rfl⟩
   rw[<-a7]at hh e3 c2 hcc ⊢;cases hh
   obtain⟨q1,q2⟩:=hcell 0 (y1,y2) rfl
   simp only[gE,fR]at q1 q2;have Z:=Hd (jaa q1 A.o.row.ext);have a3:=Hd (jaa q2 A.o.row.ext);have a0:Hid (¬(Value.slice ao H.length co).ownBlock=some bm):=(fun e=>by have:=A.o.row.new _ e;omega);have f8:(0:Int) < (NM:Int):=by rw[a7,bF];omega
   have f9:(1:Int)<=(NM:Int):=vO
   have g0:((NM:Int) == 0)=false:=by simp;omega
   have d4:0 < NM:=vO
   have g1:decide (0 < NM)=true:=decide_eq_true d4;have g2:(1:Int)<=(cb:Int):=vO
   have b4:=Hd (show NM=m2.length+1 by rw[a7,bF]);clear hcell q1 q2 a7 hb hcc;have c0:H.length<=80:=vO
   have g3:=Hd (A.o.sa (x1,x2) bH);have g4:=Hd (A.o.sb (y1,y2) bH);have c3:=Hd (fun w1=>jnh w1 x1 y1 g3.o.1 g4.o.1);cases hls:jbh x1 y1 with
   | true =>
    rw[hls]at c3;have b8:=Hd hls;clear hls;go_wp2_with fail
    refine jag [0,1,2,3,4,5,6,7,8,9,10,11,12,13,14,15,16,17,18] Ext ExtR ExtT vY vY vY ?_;iterate 8 refine vK ?_
    iterate 3 refine vK ?_
    refine qKL ⟨bl,ol,none⟩ _ rfl (fun w1 Q=>jab Tryz.uStr rfl (jaa a1.o ((jah _).trans Q))) ?_;refine vS ?_;iterate 3 refine vK ?_
    refine qKL ⟨bm,om,none⟩ _ rfl (fun w1 Q=>jab Tryz.uStr rfl (jaa Z.o ((jah _).trans Q))) ?_;refine vS ?_;refine qKC _ 68 #[.string x1,.string y1] (.bool true) rfl (fun w1=>jaq (vX 68) vY) (fun w1 Q=>c3.o w1) ?_;refine vS ?_;iterate 2 refine vK ?_
    refine qKE (fun w3 E=>?_);have d1:=Hd (A.o.row.mono ((jah _).trans E));have q1:=jaa a1.o ((jah _).trans E);clear E;have d2:H.length+1<=maxLen:=by unfold maxLen;omega
    have d3:(H.length+1) * 40<=140737488355328:=vO
    go_wp2_with (at_builtin;refine jaK Tryz.sChgs (d1.o.mono ((ExtR w3).alloc _)) (.tmp 41) (.tmp 47) rfl rfl rfl (jaI (Blk.new w3 _)) (news:=[.string x1,.string ⟨#[]⟩,.bool true]) (by intro u hu;simp at hu;rcases hu with rfl | rfl | rfl <;> rfl) rfl rfl d2 d3 ?_;intro v6 w6 r1 r2 r3)
    have J:CRow w w6 v6 (H++[(⟨x1,⟨#[]⟩,true⟩:Chg)]).length (H++[(⟨x1,⟨#[]⟩,true⟩:Chg)]):=by unfold CRow;rw[jby,bC];exact r1
    obtain⟨a6,c6,rfl⟩:=J.sl
    have X:=Hd J;clear r1 r2 r3 J;go_wp2_with fail
    refine⟨⟨l2,(y1,y2) :: m2,_,jd7 (by have h:=A.o.la;rw[bF, <-b3.o]at h;exact h),(by have h:=A.o.lb;rw[bF, <-b4.o]at h;exact h),(fun z hz=>A.o.sa z (bE _ hz)),A.o.sb,?_,?_,?_,X.o,?_⟩,?_⟩
    ·have:=A.o.na;simp only[bF,cF]at this ⊢;omega
    ·have:=A.o.nb;simp only[bF,cF]at this ⊢;omega
    ·have:=A.o.nt;simp only[bF,cF,bC]at this ⊢;omega
    ·have:=A.o.eq
     rw[ja2,if_pos b8.o]at this;simpa using this
    ·simp only[lenOf];omega
   | false =>
    rw[hls]at c3;have b8:=Hd hls;have e4:=Hd (jAa (p:=(x1,x2)) (q:=(y1,y2)) hls);clear hls;go_wp2_with fail
    refine jag [0,1,2,3,4,5,6,7,8,9,10,11,12,13,14,15,16,17,18] Ext ExtR ExtT vY vY vY ?_;iterate 8 refine vK ?_
    iterate 3 refine vK ?_
    refine qKL ⟨bl,ol,none⟩ _ rfl (fun w1 Q=>jab Tryz.uStr rfl (jaa a1.o ((jah _).trans Q))) ?_;refine vS ?_;iterate 3 refine vK ?_
    refine qKL ⟨bm,om,none⟩ _ rfl (fun w1 Q=>jab Tryz.uStr rfl (jaa Z.o ((jah _).trans Q))) ?_;refine vS ?_;refine qKC _ 68 #[.string x1,.string y1] (.bool false) rfl (fun w1=>jaq (vX 68) vY) (fun w1 Q=>c3.o w1) ?_;refine vS ?_;iterate 2 refine vK ?_
    refine qKE (fun w3 E=>?_);have c4:=(jah _).trans E;have b0:=Hd c4;have e5:=Hd (jaa a1.o c4);have e6:=Hd (jaa Z.o c4);clear E c4;cases hkk:jbh y1 x1 with
    | true =>
     have d5:(x1.toList == y1.toList)=false:=by have:=e4.o;rw[hkk]at this;exact this
     have c5:=Hd hkk;clear hkk;go_wp2_with fail
     refine jag [0,1,2,3,4,5,6,7,8,9,10,11,12,13] Ext ExtR ExtT vY vY vY ?_;iterate 4 refine vK ?_
     iterate 3 refine vK ?_
     refine qKL ⟨bl,ol,none⟩ _ rfl (fun w1 Q=>jab Tryz.uStr rfl (jaa e5.o ((jah _).trans Q))) ?_;refine vS ?_;iterate 3 refine vK ?_
     refine qKL ⟨bm,om,none⟩ _ rfl (fun w1 Q=>jab Tryz.uStr rfl (jaa e6.o ((jah _).trans Q))) ?_;refine vS ?_;iterate 2 refine vK ?_
     refine qKE (fun w4 E=>?_);have O:=b0.o.trans ((jah _).trans E);have b5:=Hd (A.o.row.mono O);have b6:=Hd (jaa Z.o O);have b7:=Hd (jaa a3.o O);clear E O b0 d5;go_wp2_with fail
     refine jaC [0,1,2,3,4,5,6,7,8,9,10,11,12] [10,11] Ext (jaf (fun b=>(Value.slice ao H.length co).ownBlock=some b)) ExtR ExtT (fun x y z h k=>jaf.trans h k) (fun x y h=>h.mono (fun _ _ h=>h.elim)) vY vY vY ?_;iterate 4 refine vD ?_
     refine qDL ⟨bm,om,none⟩ (.string y1) rfl (fun w3 h3=>jab Tryz.uStr rfl (jar (by exact b6.o) h3 a0.o)) ?_;refine vS ?_;iterate 3 refine vD ?_
     refine qDL ⟨bm,om+1,none⟩ (.string y2) rfl (fun w3 h3=>jab Tryz.uStr rfl (jar (by exact b7.o) h3 a0.o)) ?_;refine vS ?_
     refine vD ?_
     refine qDH _ rfl (fun w6 E K hK=>?_);have X:=Hd (b5.o.mono ((jah _).trans E));clear E;go_simp;refine hK _ _ ((jaf.refl _ w6).alloc _) ?_;clear hK K;refine qDH _ rfl (fun w7 E K hK=>?_);have a8:=Hd (X.o.mono (((ExtR w6).alloc _).trans E));have hB:∀ k u,([.string y1,.string y2,.bool false]:List vV)[k]?=some u->w7.cell? ((⟨w6.heap.size,0,none⟩:Addr).add k)=some u:=fun k u hk=>jaa (jaI (Blk.new w6 (.cells [Value.string y1,.string y2,.bool false].toArray 49)) k u hk) E;refine jfv Tryz.sChgs a8.o (.tmp 65) (.tmp 75) rfl rfl hB (by intro u hu;simp at hu;rcases hu with rfl | rfl | rfl <;> rfl) rfl rfl (by unfold maxLen;omega) vO (fun v' w8 r1 r2 r3=>hK _ _ r2 ?_);have J:CRow w w8 v' (H++[(⟨y1,y2,false⟩:Chg)]).length (H++[(⟨y1,y2,false⟩:Chg)]):=by unfold CRow;rw[jby,bC];exact r1
     have a2:=Hd J;clear hK K E r1 r2 r3 J hB X a8
     obtain⟨a6,c6,rfl⟩:=a2.o.sl
     refine vS ?_
     refine vD ?_
     refine qDE (fun w9 E=>?_);have b1:=Hd (a2.o.mono E);clear E a2;go_wp2_with fail
     refine⟨⟨(x1,x2) :: l2,m2,_,(by have h:=A.o.la;rw[bF, <-b3.o]at h;exact h),jd7 (by have h:=A.o.lb;rw[bF, <-b4.o]at h;exact h),A.o.sa,(fun z hz=>A.o.sb z (bE _ hz)),?_,?_,?_,b1.o,?_⟩,?_⟩
     ·have:=A.o.na;simp only[bF,cF]at this ⊢;omega
     ·have:=A.o.nb;simp only[bF,cF]at this ⊢;omega
     ·have:=A.o.nt;simp only[bF,cF,bC]at this ⊢;omega
     ·have:=A.o.eq
      rw[ja2,if_neg (by rw[b8.o];simp),if_pos c5.o]at this;simpa using this
     ·simp only[lenOf];omega
    | false =>
     have d5:(x1.toList == y1.toList)=true:=by have:=e4.o;rw[hkk]at this;exact this
     have c5:=Hd hkk;clear hkk;go_wp2_with fail
     refine jag [0,1,2,3,4,5,6,7,8,9,10,11,12,13] Ext ExtR ExtT vY vY vY ?_;iterate 4 refine vK ?_
     iterate 3 refine vK ?_
     refine qKL ⟨bl,ol,none⟩ _ rfl (fun w1 Q=>jab Tryz.uStr rfl (jaa e5.o ((jah _).trans Q))) ?_;refine vS ?_;iterate 3 refine vK ?_
     refine qKL ⟨bm,om,none⟩ _ rfl (fun w1 Q=>jab Tryz.uStr rfl (jaa e6.o ((jah _).trans Q))) ?_;refine vS ?_;iterate 2 refine vK ?_
     refine qKE (fun w4 E=>?_);have O:=b0.o.trans ((jah _).trans E);have c7:=Hd O;have e7:=Hd (jaa b9.o O);have e8:=Hd (jaa a3.o O);clear E O b0 d5;cases hvv:(x2.toList == y2.toList)with
     | false =>
      go_wp2_with fail
      refine jag [0,1,2,3,4,5,6,7,8] Ext ExtR ExtT vY vY vY ?_;iterate 3 refine vK ?_
      refine qKL ⟨bl,ol+1,none⟩ _ rfl (fun w1 Q=>jab Tryz.uStr rfl (jaa e7.o ((jah _).trans Q))) ?_;refine vS ?_;iterate 3 refine vK ?_
      refine qKL ⟨bm,om+1,none⟩ _ rfl (fun w1 Q=>jab Tryz.uStr rfl (jaa e8.o ((jah _).trans Q))) ?_;refine vS ?_
      refine vK ?_
      refine qKE (fun w5 E=>?_);have b2:=c7.o.trans ((jah _).trans E);have b5:=Hd (A.o.row.mono b2);have b6:=Hd (jaa Z.o b2);have b7:=Hd (jaa a3.o b2);have d6:=Hd hvv;clear E b2 c7 hvv;go_wp2_with fail
      refine jaC [0,1,2,3,4,5,6,7,8,9,10,11,12] [10,11] Ext (jaf (fun b=>(Value.slice ao H.length co).ownBlock=some b)) ExtR ExtT (fun x y z h k=>jaf.trans h k) (fun x y h=>h.mono (fun _ _ h=>h.elim)) vY vY vY ?_;iterate 4 refine vD ?_
      refine qDL ⟨bm,om,none⟩ (.string y1) rfl (fun w3 h3=>jab Tryz.uStr rfl (jar (by exact b6.o) h3 a0.o)) ?_;refine vS ?_;iterate 3 refine vD ?_
      refine qDL ⟨bm,om+1,none⟩ (.string y2) rfl (fun w3 h3=>jab Tryz.uStr rfl (jar (by exact b7.o) h3 a0.o)) ?_;refine vS ?_
      refine vD ?_
      refine qDH _ rfl (fun w6 E K hK=>?_);have X:=Hd (b5.o.mono ((jah _).trans E));clear E;go_simp;refine hK _ _ ((jaf.refl _ w6).alloc _) ?_;clear hK K;refine qDH _ rfl (fun w7 E K hK=>?_);have a8:=Hd (X.o.mono (((ExtR w6).alloc _).trans E));have hB:∀ k u,([.string y1,.string y2,.bool false]:List vV)[k]?=some u->w7.cell? ((⟨w6.heap.size,0,none⟩:Addr).add k)=some u:=fun k u hk=>jaa (jaI (Blk.new w6 (.cells [Value.string y1,.string y2,.bool false].toArray 49)) k u hk) E;refine jfv Tryz.sChgs a8.o (.tmp 88) (.tmp 98) rfl rfl hB (by intro u hu;simp at hu;rcases hu with rfl | rfl | rfl <;> rfl) rfl rfl (by unfold maxLen;omega) vO (fun v' w8 r1 r2 r3=>hK _ _ r2 ?_);have J:CRow w w8 v' (H++[(⟨y1,y2,false⟩:Chg)]).length (H++[(⟨y1,y2,false⟩:Chg)]):=by unfold CRow;rw[jby,bC];exact r1
      have a2:=Hd J;clear hK K E r1 r2 r3 J hB X a8
      obtain⟨a6,c6,rfl⟩:=a2.o.sl
      refine vS ?_
      refine vD ?_
      refine qDE (fun w9 E=>?_);have b1:=Hd (a2.o.mono E);clear E a2;go_wp2_with fail
      refine⟨⟨l2,m2,_,jd7 (by have h:=A.o.la;rw[bF, <-b3.o]at h;exact h),jd7 (by have h:=A.o.lb;rw[bF, <-b4.o]at h;exact h),(fun z hz=>A.o.sa z (bE _ hz)),(fun z hz=>A.o.sb z (bE _ hz)),?_,?_,?_,b1.o,?_⟩,?_⟩
      ·have:=A.o.na;simp only[bF,cF]at this ⊢;omega
      ·have:=A.o.nb;simp only[bF,cF]at this ⊢;omega
      ·have:=A.o.nt;simp only[bF,cF,bC]at this ⊢;omega
      ·have:=A.o.eq
       rw[ja2,if_neg (by rw[b8.o];simp),if_neg (by rw[c5.o];simp),if_neg (by rw[d6.o];simp)]at this;simpa using this
      ·simp only[lenOf];omega
     | true =>
      go_wp2_with fail
      refine jag [0,1,2,3,4,5,6,7,8] Ext ExtR ExtT vY vY vY ?_;iterate 3 refine vK ?_
      refine qKL ⟨bl,ol+1,none⟩ _ rfl (fun w1 Q=>jab Tryz.uStr rfl (jaa e7.o ((jah _).trans Q))) ?_;refine vS ?_;iterate 3 refine vK ?_
      refine qKL ⟨bm,om+1,none⟩ _ rfl (fun w1 Q=>jab Tryz.uStr rfl (jaa e8.o ((jah _).trans Q))) ?_;refine vS ?_
      refine vK ?_
      refine qKE (fun w5 E=>?_);have b2:=c7.o.trans ((jah _).trans E);have b1:=Hd (A.o.row.mono b2);have d6:=Hd hvv;clear E b2 c7 hvv;go_wp2_with fail
      refine⟨⟨l2,m2,_,jd7 (by have h:=A.o.la;rw[bF, <-b3.o]at h;exact h),jd7 (by have h:=A.o.lb;rw[bF, <-b4.o]at h;exact h),(fun z hz=>A.o.sa z (bE _ hz)),(fun z hz=>A.o.sb z (bE _ hz)),?_,?_,?_,b1.o,?_⟩,?_⟩
      ·have:=A.o.na;simp only[bF,cF]at this ⊢;omega
      ·have:=A.o.nb;simp only[bF,cF]at this ⊢;omega
      ·have:=A.o.nt;simp only[bF,cF,bC]at this ⊢;omega
      ·have:=A.o.eq
       rw[ja2,if_neg (by rw[b8.o];simp),if_neg (by rw[c5.o];simp),if_pos d6.o]at this;simpa using this
      ·simp only[lenOf];omega
end
section
open Go Go.RowKit
attribute [local go_sem] Oper.semAt_some
def jli(l:vL)(cs:List Chg):List Chg:=if jaW l cs=0 then jcf (ja6 l cs) l else []
theorem jui(l:vL)(cs:List Chg)(hl:jaw l=0):(jli l cs).length<=80:=by
 unfold jli
 by_cases h:jaW l cs=0
 ·rw[if_pos h];exact ju6 (jbZ h) hl
 ·rw[if_neg h];simp
def juy(w:vW)(l:vL)(cs:List Chg)(e:Ending)(w':vW):Prop:=∃ a c,e=.returned (.tuple #[.slice a (jli l cs).length c,.int .i64 (jaW l cs)])/\Ext w w'/\RdC w' (.slice a (jli l cs).length c) (jli l cs)
theorem jwy(W:vW)(s bm:Nat)(room:Int)(S:vT)(hs:jaS W s bm room S)(hN:AllN S){l:vL}(hl:HasM S l)(u:vV)(cs:List Chg)(hu:RdC W u cs)(hnc:cs.length<=9223372036854775807)(hsc:∀ c∈cs,c.key.size<=9223372036854775807/\c.value.size<=9223372036854775807) :
  vQ 10 #[.pointer (some ⟨s,0,none⟩),.string (rootM l),u] W (juy W l cs):=by
 refine (jpX W s bm room S hs hN hl u cs hu hnc hsc).mono ?_;intro e w' o;unfold jrl at o;unfold juy jli
 by_cases h0:jaW l cs=0
 ·rw[if_pos h0]at o
  simp only[if_pos h0]
  obtain⟨v,rfl,z⟩:=o
  obtain⟨a,c,rfl⟩:=z.sl
  exact⟨a,c,by rw[h0],z.ext,z.rdT⟩
 ·rw[if_neg h0]at o
  simp only[if_neg h0]
  obtain⟨rfl,A⟩:=o
  exact⟨none,0,rfl,A,.inl ⟨_,_,rfl,rfl⟩⟩
theorem jyE(w:vW)(v u:vV)(l:vL)(cs:List Chg)(hv:RdP w v l)(hu:RdC w u cs)(hl:jaw l=0)(hnc:cs.length<=45)(hsc:joo cs) :
  vQ 11 #[v,u] w (juy w l cs):=by
 have z:=jaA hl;have H:jb7 l:=fun p Q=>by have:=z.size p Q;omega
 have X:=Hd (jv0 w v u l cs hv hu (by have:=z.len;omega) hnc H hsc);have HV:=Hd hv;have HL:=Hd (bB hl H);clear hu hnc hsc z H hl hv;go_enter Tryz.func11,Tryz.ntmps11;go_wp2_with fail
 refine X.o.mono ?_;intro e w1 J;unfold jeF at J
 obtain⟨O,J⟩:=J
 have HE:=Hd O
 by_cases h0:jaW l cs=0
 ·rw[if_pos h0]at J
  obtain⟨r,rfl,E⟩:=J
  have E:RdP w1 r (ja6 l cs):=E;have K:jaw (ja6 l cs)=0:=jbZ h0;have z:=jaA K;have Z:=Hd (jyl w1 r v (ja6 l cs) l E (HV.o.ext O) (by have:=z.len;omega) (by have:=(jaA HL.o.1).len;omega) (fun p Q=>by have:=z.size p Q;omega) HL.o.2);have A:Hid (jli l cs=jcf (ja6 l cs) l):=if_pos h0;have H0:=Hd h0;clear h0 E K z O;go_wp2_with fail
  refine Z.o.mono ?_;rintro e w2 ⟨u2,rfl,E⟩;have HR:=Hd E
  obtain⟨a,c,rfl⟩:=E.sl
  clear E;go_wp2_with fail
  go_ret2
  exact⟨a,c,by rw[A.o,H0.o];rfl,HE.o.trans HR.o.ext,by rw[A.o];exact HR.o.rdT⟩
 ·rw[if_neg h0]at J
  subst J;have A:=Hd (show jli l cs=[]from if_neg h0)
  obtain⟨x,hx⟩:=vE (jaW l cs)
  have HX:=Hd hx;rw[<-hx]at h0 ⊢;have c1:(x != 0)=true:=by simpa using h0
  clear O hx;go_wp2_with fail
  go_ret2
  exact⟨none,0,by rw[A.o,HX.o];rfl,HE.o,by rw[A.o];exact .inl ⟨_,_,rfl,rfl⟩⟩
theorem jte{U V:vM}(h:jnc U)(k:jnc V):jnc (U++V):=fun t e=>(bT.1 e).elim (h t) (k t)
theorem jda(x:UInt32)(s n:Nat)(hs:s+n=32)(hn:0 < n)(hn2:n < 32):bits .or .u32 ((x.toNat:Int) / (2:Int) ^ n) ((x.toNat:Int) * (2:Int) ^ s % (4294967296:Int))=((rotW x (UInt32.ofNat n)).toNat:Int):=by
 have e:(x.toNat:Int) * (2:Int) ^ s % (4294967296:Int)=((x <<< (32 - UInt32.ofNat n)).toNat:Int):=by
  rw[UInt32.toNat_shiftLeft];have o:(32 - UInt32.ofNat n).toNat=s:=by
   rw[UInt32.toNat_sub_of_le]
   ·rw[gF];show 32 - n % 2 ^ 32=s;omega
   ·rw[UInt32.le_iff_toNat_le,gF];show n % 2 ^ 32<=32;omega
  rw[o,fT (show s < 32 by omega),Nat.shiftLeft_eq]
  simp
 have z:(x.toNat:Int) / (2:Int) ^ n=((x >>> UInt32.ofNat n).toNat:Int):=by
  rw[UInt32.toNat_shiftRight];rw[gF,fT (show n < 2 ^ 32 by omega),fT hn2,Nat.shiftRight_eq_div_pow]
  simp
 rw[e,z,jgt,UInt32.or_comm];rfl
theorem jBO(w:vW)(x:UInt32):vQ 107 #[wv x,.int .u64 2] w fun e w'=>e=.returned (wv (rotW x 2))/\w=w':=by
 have A:=Hd (jda x 30 2 vI vI vI);unfold wv;unfold vQ;go_in;go_wp2;go_ret;have E:bits .or .u32 ((x.toNat:Int) / (4:Int)) ((x.toNat:Int) * (1073741824:Int) % (4294967296:Int))=((rotW x 2).toNat:Int):=A.o
 exact⟨congrArg (fun z=>Ending.returned (Value.int .u32 z)) E,rfl⟩
theorem jBP(w:vW)(x:UInt32):vQ 107 #[wv x,.int .u64 6] w fun e w'=>e=.returned (wv (rotW x 6))/\w=w':=by
 have A:=Hd (jda x 26 6 vI vI vI);unfold wv;unfold vQ;go_in;go_wp2;go_ret;have E:bits .or .u32 ((x.toNat:Int) / (64:Int)) ((x.toNat:Int) * (67108864:Int) % (4294967296:Int))=((rotW x 6).toNat:Int):=A.o
 exact⟨congrArg (fun z=>Ending.returned (Value.int .u32 z)) E,rfl⟩
theorem jBQ(w:vW)(x:UInt32):vQ 107 #[wv x,.int .u64 7] w fun e w'=>e=.returned (wv (rotW x 7))/\w=w':=by
 have A:=Hd (jda x 25 7 vI vI vI);unfold wv;unfold vQ;go_in;go_wp2;go_ret;have E:bits .or .u32 ((x.toNat:Int) / (128:Int)) ((x.toNat:Int) * (33554432:Int) % (4294967296:Int))=((rotW x 7).toNat:Int):=A.o
 exact⟨congrArg (fun z=>Ending.returned (Value.int .u32 z)) E,rfl⟩
theorem jAw(w:vW)(x:UInt32):vQ 107 #[wv x,.int .u64 11] w fun e w'=>e=.returned (wv (rotW x 11))/\w=w':=by
 have A:=Hd (jda x 21 11 vI vI vI);unfold wv;unfold vQ;go_in;go_wp2;go_ret;have E:bits .or .u32 ((x.toNat:Int) / (2048:Int)) ((x.toNat:Int) * (2097152:Int) % (4294967296:Int))=((rotW x 11).toNat:Int):=A.o
 exact⟨congrArg (fun z=>Ending.returned (Value.int .u32 z)) E,rfl⟩
theorem jAx(w:vW)(x:UInt32):vQ 107 #[wv x,.int .u64 13] w fun e w'=>e=.returned (wv (rotW x 13))/\w=w':=by
 have A:=Hd (jda x 19 13 vI vI vI);unfold wv;unfold vQ;go_in;go_wp2;go_ret;have E:bits .or .u32 ((x.toNat:Int) / (8192:Int)) ((x.toNat:Int) * (524288:Int) % (4294967296:Int))=((rotW x 13).toNat:Int):=A.o
 exact⟨congrArg (fun z=>Ending.returned (Value.int .u32 z)) E,rfl⟩
theorem jAy(w:vW)(x:UInt32):vQ 107 #[wv x,.int .u64 17] w fun e w'=>e=.returned (wv (rotW x 17))/\w=w':=by
 have A:=Hd (jda x 15 17 vI vI vI);unfold wv;unfold vQ;go_in;go_wp2;go_ret;have E:bits .or .u32 ((x.toNat:Int) / (131072:Int)) ((x.toNat:Int) * (32768:Int) % (4294967296:Int))=((rotW x 17).toNat:Int):=A.o
 exact⟨congrArg (fun z=>Ending.returned (Value.int .u32 z)) E,rfl⟩
theorem jAz(w:vW)(x:UInt32):vQ 107 #[wv x,.int .u64 18] w fun e w'=>e=.returned (wv (rotW x 18))/\w=w':=by
 have A:=Hd (jda x 14 18 vI vI vI);unfold wv;unfold vQ;go_in;go_wp2;go_ret;have E:bits .or .u32 ((x.toNat:Int) / (262144:Int)) ((x.toNat:Int) * (16384:Int) % (4294967296:Int))=((rotW x 18).toNat:Int):=A.o
 exact⟨congrArg (fun z=>Ending.returned (Value.int .u32 z)) E,rfl⟩
theorem jAA(w:vW)(x:UInt32):vQ 107 #[wv x,.int .u64 19] w fun e w'=>e=.returned (wv (rotW x 19))/\w=w':=by
 have A:=Hd (jda x 13 19 vI vI vI);unfold wv;unfold vQ;go_in;go_wp2;go_ret;have E:bits .or .u32 ((x.toNat:Int) / (524288:Int)) ((x.toNat:Int) * (8192:Int) % (4294967296:Int))=((rotW x 19).toNat:Int):=A.o
 exact⟨congrArg (fun z=>Ending.returned (Value.int .u32 z)) E,rfl⟩
theorem jAB(w:vW)(x:UInt32):vQ 107 #[wv x,.int .u64 22] w fun e w'=>e=.returned (wv (rotW x 22))/\w=w':=by
 have A:=Hd (jda x 10 22 vI vI vI);unfold wv;unfold vQ;go_in;go_wp2;go_ret;have E:bits .or .u32 ((x.toNat:Int) / (4194304:Int)) ((x.toNat:Int) * (1024:Int) % (4294967296:Int))=((rotW x 22).toNat:Int):=A.o
 exact⟨congrArg (fun z=>Ending.returned (Value.int .u32 z)) E,rfl⟩
theorem jAC(w:vW)(x:UInt32):vQ 107 #[wv x,.int .u64 25] w fun e w'=>e=.returned (wv (rotW x 25))/\w=w':=by
 have A:=Hd (jda x 7 25 vI vI vI);unfold wv;unfold vQ;go_in;go_wp2;go_ret;have E:bits .or .u32 ((x.toNat:Int) / (33554432:Int)) ((x.toNat:Int) * (128:Int) % (4294967296:Int))=((rotW x 25).toNat:Int):=A.o
 exact⟨congrArg (fun z=>Ending.returned (Value.int .u32 z)) E,rfl⟩
theorem jhZ{s:vB}{k:Nat}(h:k < s.size):s.data.toList.getD k 0=s[k]:=by
 rw[bG,bA (show k < s.data.toList.length from h)];rfl
theorem jyF(w:vW)(s:vB)(k:Nat)(h:4 * k+3 < s.size)(hs:s.size<=1000000):vR 106 #[.string s,.int .i64 k] w (wv (je4 s.data.toList k)):=by
 have H:(0:Int)<=4 * (k:Int):=vO
 have J:(0:Int)<=4 * (k:Int)+1:=vO
 have K:(0:Int)<=4 * (k:Int)+2:=vO
 have O:(0:Int)<=4 * (k:Int)+3:=vO
 have Q:4 * (k:Int) < (s.size:Int):=vO
 have X:4 * (k:Int)+1 < (s.size:Int):=vO
 have Z:4 * (k:Int)+2 < (s.size:Int):=vO
 have d3:4 * (k:Int)+3 < (s.size:Int):=vO
 have n0:(4 * (k:Int)).toNat=4 * k:=vO
 have n1:(4 * (k:Int)+1).toNat=4 * k+1:=vO
 have n2:(4 * (k:Int)+2).toNat=4 * k+2:=vO
 have n3:(4 * (k:Int)+3).toNat=4 * k+3:=vO
 have A:=Hd (show je4 s.data.toList k=beW (s[4 * k]'(by omega)) (s[4 * k+1]'(by omega)) (s[4 * k+2]'(by omega)) (s[4 * k+3]'(by omega)) by unfold je4;rw[jhZ,jhZ,jhZ,jhZ]);unfold vR vQ;go_in;go_wp2_with fail
 refine jag [0,1,2,3,4,5,6,7,8,9,10,11,12,13,14,15,16,17,18,19,20,21,22,23,24,25,26,27,28,29] Ext ExtR ExtT vY vY vY ?_;iterate 30 refine vK ?_
 refine qKE (fun w1 z=>?_);have E:=Hd ((jah w).trans z);have e:=jzG (s[4 * k]'(by omega)) (s[4 * k+1]'(by omega)) (s[4 * k+2]'(by omega)) (s[4 * k+3]'(by omega));rw[<-A.o]at e;rw[e];clear e z;go_wp2_with fail
 go_ret
 exact⟨rfl,E.o⟩
def jjR:W8:=⟨0x6a09e667,0xbb67ae85,0x3c6ef372,0xa54ff53a,0x510e527f,0x9b05688c,0x1f83d9ab,0x5be0cd19⟩
def Tab3(w:vW)(e:Ending)(w':vW):Prop:=∃ b1 b2,e=.returned (.tuple #[.slice (some ⟨b1,0,none⟩) 8 8,.slice (some ⟨b2,0,none⟩) 64 64])/\w.heap.size<=b1/\w.heap.size<=b2/\b1≠b2/\Ext w w'/\Blk w' b1 (.cells (jjR.words.map wv).toArray 131)/\Blk w' b2 (.cells (jeZ.map wv).toArray 131)
theorem jwu(w:vW):vQ 69 #[] w (Tab3 w):=by
 unfold vQ;go_in;go_wp2_with fail
 go_ret2;have hb:∀ {W:vW} {b:Nat} {c d:Array vV} {T:TypeId},c=d->Blk W b (.cells c T)->Blk W b (.cells d T):=fun e h=>e ▸ h;have z:∀ o,(w.alloc o).heap.size=w.heap.size+1:=fun o=>by simp
 refine⟨w.heap.size,w.heap.size+1,rfl,bL _,Nat.le_succ _,by omega,((ExtR w).alloc _).alloc _,hb ?_ (Blk.alloc (Blk.new w _) _),hb ?_ (z _ ▸ Blk.new (w.alloc _) _)⟩
 ·kernel_rfl
 ·kernel_rfl
end
section
open Go Go.RowKit
theorem ji9{P:Program}(w:vW){t ty e:TypeId}{i:TypeInfo}{z:vV}{size bytes:Nat}(ht:P.underlying t=some (.slice e))(hi:P.info? e=some i)(hz:i.zero=some z)
  (hsize:i.size=size) (hby:i.bytes=bytes) (hzs:z.cells.size=size) (hsz:0 < size)
  {v:vV} {n:Nat} {xs:List vV} (hown:w.ownsRow 0 e size v n xs)
  {a:Addr} {m c:Nat} {news:List vV} (hl:news.length=m * size) (hnews:∀ j u,news[j]?=some u->w.cell? (a.add j)=some u) (X:∀ u∈news,u.oneCell'=true)
  (h63:n+m<=maxLen) (hbytes:(n+m) * bytes<=140737488355328) :
  ∃ o w',(Builtin.append_ #[t,t] ty #[v,.slice (some a) m c]).run P w=.ok o w'/\w'.ownsRow 0 e size o (n+m) (xs++news)/\jaf (fun b=>v.ownBlock=some b) w w' /\
   (o.ownBlock=v.ownBlock\/∀ b,o.ownBlock=some b->w.heap.size<=b)/\w'.ownsRow 0 e size v n xs:=by
 have up:∀ {B:Nat} {w':vW} {o:vV} {k:Nat} {O:List vV},w'.ownsRow B e size o k O->w'.ownsRow 0 e size o k O:=by
  rintro B w' o k O ⟨X,h2 |⟨g,E,Z,h2,_,h3⟩⟩
  ·exact⟨X,.inl h2⟩
  ·exact⟨X,.inr ⟨g,E,Z,h2,cE _,h3⟩⟩
 have lo:∀ {B:Nat} {w':vW} {o:vV} {k:Nat} {O:List vV},w'.ownsRow B e size o k O->∀ b,o.ownBlock=some b->B<=b:=by
  intro B w' o k O h b hb;exact (World.ownsRow.lt h b hb).1
 have A:=hown
 obtain⟨H,⟨rfl,rfl⟩ |⟨g,E,Z,rfl,_,hg,a1,a3,a4,a5⟩⟩:=hown
 ·obtain⟨o,w',hr,J,Q,_⟩:=run_append_own (P:=P) w w.heap.size t ty e i z size bytes ht hi hz hsize hby hzs hsz (.slice none 0 0) 0 xs ⟨H,.inl ⟨rfl,rfl⟩⟩ a m c news hl hnews X h63 hbytes (bL _)
  exact⟨o,w',hr,up J,jaf.of_grown Q (fun r e _=>e),.inr (lo J),⟨H,.inl ⟨rfl,rfl⟩⟩⟩
 ·by_cases hroom:n+m<=E
  ·obtain⟨w',hr,J,Q⟩:=run_append_fits (P:=P) w 0 t ty e i size ht hi hsize g n E xs A a m c news hl hnews X hroom
   refine⟨_,w',hr,J,jaf.of_grown Q (fun r e _=>e),.inl rfl,?_⟩
   obtain⟨k1,⟨k2,_⟩ |⟨g',a2,a0,k2,_,k4,k5,k6,k7,k8⟩⟩:=J
   ·cases k2
   ·obtain⟨e1,_,e3⟩:=cW k2
    have e1:=congrArg Addr.block (bS e1);have e1:g=g':=e1;subst e1 e3
    refine⟨H,.inr ⟨g,E,a0,rfl,cE _,k4,a1,k6,k7,?_⟩⟩
    have h:=congrArg (List.take (n * size)) k8;rw[List.take_take,jA (Nat.mul_le_mul_right _ vO),List.take_left' H]at h;exact h
  ·have K:∀ j u,xs[j]?=some u->w.cell? ((⟨g,0,none⟩:Addr).add j)=some u:=World.ownsRow.cells A rfl
   obtain⟨o,w',hr,J,Q⟩:=run_append_arg_grows (P:=P) w t ty e i z size bytes ht hi hz hsize hby hzs hsz ⟨g,0,none⟩ n E xs H K a m c news hl hnews vO h63 hbytes
   exact⟨o,w',hr,up J,jaf.of_grown Q (fun r e _=>by cases e),.inr (lo J),jbo A (jaf.of_grown Q (fun r e _=>by cases e))⟩
theorem jyS{P:Program}{t T:TypeId}{sz by':Nat}(I:jd0 P t T sz by'){w0 w:vW}{v:vV}{n:Nat}{xs:List vV}{o:Oper}{a:Act}{g m c:Nat}{news:List vV}{K:Act->vW->Prop}{Q:Exit->Act->vW->Prop}(hR:ORow T sz w0 w v n xs)(s x:Operand)(hs:a.eval s=v)(hx:a.eval x=.slice (some ⟨g,0,none⟩) m c)(hB:∀ j u,news[j]?=some u->w.cell? ((⟨g,0,none⟩:Addr).add j)=some u)(h1:∀ u∈news,u.oneCell'=true)(hl:news.length=m * sz)
  (ho:o.op=Op.call { callee:=Callee.builtin Builtin.append,args:=#[s,x],argTypes:=#[t,t] }) (h63:n+m<=maxLen) (hby:(n+m) * by'<=140737488355328)
  (h:∀ e w',ORow T sz w0 w' e (n+m) (xs++news)->jaf (fun b=>v.ownBlock=some b) w w'->(e.ownBlock=v.ownBlock\/∀ b,e.ownBlock=some b->w.heap.size<=b)->ORow T sz w0 w' v n xs->K (a.put o.dst e) w'):o.wp P a w K Q:=by
 obtain⟨i,z,J,O,X,Z,e5⟩:=I.hi
 obtain⟨e,w',A,r1,E,H,r4⟩:=ji9 (P:=P) w (t:=t) (ty:=o.type) I.ht J O X Z e5 I.hsz hR.own (c:=c) hl hB h1 h63 hby
 unfold Oper.wp;simp[execOp,ho,resolve,invoke,builtin,hs,hx,A,Result.andThen];exact h e w' (hR.step r1 E H) E H ⟨hR.sl,r4,jhh hR.ext hR.new E,hR.new⟩
end
section
open Go Go.RowKit
attribute [local go_sem] Oper.semAt_some
theorem Tryz.sWords:jd0 Tryz.prog 127 131 1 4:=jd0.mk' vY (show (Tryz.prog.info? 131).map (fun i=>(i.zero,i.size,i.bytes))=some (some (.int .u32 0),1,4) by kernel_rfl) rfl vI
theorem Tryz.enterRight3(args:Array vV)(w:vW):(callFunc 107 args).run Tryz.prog w=.ok (.enter 107 args) w:=vY
def wL(B:vN)(k:Nat):List UInt32:=if k<=16 then jd4 B k else jhn B (k - 16)
theorem jAP(B:vN)(k:Nat):(wL B k).length=k:=by
 unfold wL;split
 ·simp[jd4]
 ·rw[jcD];omega
theorem jAQ(B:vN){k:Nat}(h:k < 16):wL B (k+1)=wL B k++[je4 B k]:=by
 unfold wL;rw[if_pos vO,if_pos vO];simp[jd4,fS]
theorem jAR(B:vN){k:Nat}(h:¬ k < 16):wL B (k+1)=wL B k++[jjp (wL B k)]:=by
 have e:wL B k=jhn B (k - 16):=by
  unfold wL;split
  ·have:k=16:=vO
   subst this;rfl
  ·rfl
 rw[e];unfold wL;rw[if_neg vO,show k+1 - 16=(k - 16)+1 by omega];rfl
theorem jm9{P:Program}{ops:Array Oper}{rest:List Oper}{a:Act}{w:vW}{Q:Exit->Act->vW->Prop}{d:Option Tmp}{T:TypeId}{n:Nat}{ps:Array (Nat × Operand)}{ty:TypeId}{pos:String}{af:Array Edge}(v:vV)(w':vW)(h0:(execOp a.eval ⟨d,.buildSlice T n ps,ty,pos,af,none⟩).run P w=.ok (.value v) w')(h:wpList P ops Q rest (a.put d v) w'):wpList P ops Q (⟨d,.buildSlice T n ps,ty,pos,af,none⟩ :: rest) a w:=
 wpList_plain rfl fun K e=>jcb (v:=v) (w':=w') h0 (e _ _ h)
def Bk1(w:vW)(B:vN)(v iv:vV)(wr:vW):Prop:=∃ k:Nat,k<=64/\iv=.int .i64 k/\ORow 131 1 w wr v k ((wL B k).map wv)
theorem W8.add_comm(v u:W8):v.add u=u.add v:=by
 unfold W8.add addW;simp[UInt32.add_comm]
theorem jum(v u:W8){k:Nat}(hk:k < 8):∃ x y,(je5 v.words u.words k)[k]?=some x/\u.words[k]?=some y/\(je5 v.words u.words k).set k (addW x y)=je5 v.words u.words (k+1):=by
 have o:v.words.length=u.words.length:=rfl;have e:k < v.words.length:=hk;have z:k < u.words.length:=hk;have A:=jlA o e
 exact⟨_,_,by rw[jly o e];exact bA e,bA z,A⟩
def Bk3(w:vW)(g cap:Nat)(R V:W8)(iv:vV)(wr:vW):Prop:=∃ k:Nat,k<=8/\iv=.int .i64 k/\ORow 131 1 w wr (.slice (some ⟨g,0,none⟩) 8 cap) 8 ((je5 R.words V.words k).map wv)
def Bk2(w:vW)(a1:Option Addr)(c1:Nat)(V:W8)(B:vN)(v iv:vV)(wr:vW):Prop:=∃ k:Nat,k<=64/\iv=.int .i64 k/\ORow 131 1 w wr v 8 ((jdY (jba B) V k).words.map wv)/\ORow 131 1 w wr (.slice a1 64 c1) 64 ((jba B).map wv)
theorem jv1(w:vW)(bh bk ch:Nat)(V:W8)(s:vB)(hs:s.size=64)(hV:∀ j u,(V.words.map wv)[j]?=some u->w.cell? ⟨bh,j,none⟩=some u)(hK:Blk w bk (.cells (jeZ.map wv).toArray 131)) :
  vQ 71 #[.slice (some ⟨bh,0,none⟩) 8 ch,.slice (some ⟨bk,0,none⟩) 64 64,.string s] w fun e w'=>∃ g c,e=.returned (.slice (some ⟨g,0,none⟩) 8 c)/\w.heap.size<=g/\(∀ j u,((mixW V s.data.toList).words.map wv)[j]?=some u->w'.cell? ⟨g,j,none⟩=some u)/\Ext w w':=by
 have HV:=Hd hV;have HK:=Hd hK;have f0:=Hd hs;have hX:∀ (p q:UInt32) (w:vW),(binOp .xor 131 (wv p) (wv q)).run Tryz.prog w=.ok (wv (xorW p q)) w:=fun _ _ _=>jlf;have hA:∀ (p q:UInt32) (w:vW),(binOp .add 131 (wv p) (wv q)).run Tryz.prog w=.ok (wv (addW p q)) w:=fun _ _ _=>jlc;have hN:∀ (p q:UInt32) (w:vW),(binOp .and 131 (wv p) (wv q)).run Tryz.prog w=.ok (wv (andW p q)) w:=fun _ _ _=>jpK;have hU:∀ (p:UInt32) (w:vW),(Op.unary .xor (wv p)).run Tryz.prog w=.ok (wv (notW p)) w:=fun _ _=>jpL;have j0:∀ (p:UInt32) (w:vW),(binOp .shr 131 (wv p) (.int .u64 3)).run Tryz.prog w=.ok (wv (shrW p 3)) w:=fun _ _=>jdb 3 vI .u64;have i5:∀ (p:UInt32) (w:vW),(binOp .shr 131 (wv p) (.int .u64 10)).run Tryz.prog w=.ok (wv (shrW p 10)) w:=fun _ _=>jdb 10 vI .u64;clear hV hK hs;go_enter Tryz.func71,Tryz.ntmps71;go_wp2_with fail
 go_loopw [7,8] (fun v iv wr=>Bk1 w s.data.toList v iv wr) (fun _ iv _=>64 - (intOf iv).toNat)
 case atStart=>exact⟨0,by omega,rfl,ORow.nil _ _ (ExtR w)⟩
 case round =>
  obtain⟨k,hk,rfl,hR⟩:=hrel
  have H:=Hd hR
  obtain⟨a1,c1,rfl⟩:=hR.sl;clear hR
  by_cases hlt:k < 64
  ·have b1:(k:Int) < 64:=vO
   by_cases h16:k < 16
   ·have b2:(k:Int) < 16:=vO
    go_wp2_with fail
    refine vH (jyF wr s k (by have:=f0.o;omega) (by have:=f0.o;omega)) fun w1 hE=>?_;have f4:=Hd (H.o.mono hE);have HW:=Hd (jAQ s.data.toList h16);clear H
    obtain⟨x,hx⟩:=vE (je4 s.data.toList k)
    have HX:=Hd hx;rw[<-hx,show wv x=.int .u32 (x.toNat:Int)from rfl];clear hx;have c2:k+1<=maxLen:=by unfold maxLen;omega
    have c3:(k+1) * 4<=140737488355328:=vO
    go_wp2_with (at_builtin;refine jaK Tryz.sWords (f4.o.mono ((ExtR w1).alloc _)) (.tmp 30) (.tmp 34) rfl rfl rfl (jaI (Blk.new w1 _)) (news:=[wv x]) (by intro u hu;simp at hu;subst hu;rfl) rfl rfl c2 c3 ?_;intro v' w' r1 r2 r3)
    have b0:ORow 131 1 w w' v' (k+1) ((wL s.data.toList (k+1)).map wv):=by rw[HW.o,cB, <-HX.o];exact r1
    obtain⟨a8,c8,rfl⟩:=b0.sl
    have c7:=Hd b0;clear r1 r2 r3 b0 f4;go_wp2_with fail
    go_roundw
    case rel=>exact⟨k+1,by omega,by go_num,c7.o⟩
    case measure=>exact vJ
   ·have b2:¬(k:Int) < 16:=vO
    obtain⟨b3,b7⟩:∃ a,a=k - 15:=⟨_,rfl⟩
    obtain⟨a2,f5⟩:∃ a,a=k - 2:=⟨_,rfl⟩
    obtain⟨Q,b8⟩:∃ a,a=k - 16:=⟨_,rfl⟩
    obtain⟨a7,f6⟩:∃ a,a=k - 7:=⟨_,rfl⟩
    have j1:(k:Int) - 15=(b3:Int):=vO
    have f2:(k:Int) - 2=(a2:Int):=vO
    have j2:(k:Int) - 16=(Q:Int):=vO
    have f7:(k:Int) - 7=(a7:Int):=vO
    have f8:b3 < k:=vO
    have l2:a2 < k:=vO
    have c9:Q < k:=vO
    have l7:a7 < k:=vO
    obtain⟨O,c5⟩:=vE (wL s.data.toList k)
    have d0:O.length=k:=by rw[c5,jAP]
    have a3:=Hd (show wL s.data.toList (k+1)=O++[addW (addW (addW (O.getD Q 0) (sig0 (O.getD b3 0))) (O.getD a7 0)) (sig1 (O.getD a2 0))] by
     rw[jAR _ h16, <-c5];unfold jjp;rw[d0, <-b8, <-b7, <-f6, <-f5])
    rw[<-c5]at H;have b4:=Hd d0;clear b7 f5 b8 f6 c5 d0
    obtain⟨_,⟨h0,_⟩ |⟨g,c6,h3,h0,_⟩⟩:=H.o.own
    ·obtain⟨_,h0,_⟩:=cW h0
     omega
    obtain⟨rfl,_,rfl⟩:=cW h0
    have A:∀ j,j < k->wr.cell? ⟨g,j,none⟩=some (wv (O.getD j 0)):=fun j hj=>by
     have h:=H.o.own.cells (g:=g) rfl j (wv (O.getD j 0)) (by
      rw[cA,bA (by rw[b4.o];exact hj)];simp[show j < O.length by rw[b4.o];exact hj])
     rwa [Addr.add_lit,cG]at h
    have h4:=Hd (A b3 f8);have Q2:=Hd (A a2 l2);have h5:=Hd (A Q c9);have Q7:=Hd (A a7 l7);have h6:=A b3 f8;have q2:=A a2 l2
    obtain⟨b5,b9⟩:∃ x,x=O.getD b3 0:=⟨_,rfl⟩
    obtain⟨Z,f9⟩:∃ x,x=O.getD a2 0:=⟨_,rfl⟩
    obtain⟨d1,a5⟩:∃ x,x=O.getD Q 0:=⟨_,rfl⟩
    obtain⟨x7,d2⟩:∃ x,x=O.getD a7 0:=⟨_,rfl⟩
    rw[<-b9]at h6 h4 a3;rw[<-f9]at q2 Q2 a3;rw[<-a5]at h5 a3;rw[<-d2]at Q7 a3;have h8:=Hd (show O[Q]?=some d1 from by rw[a5,bA (by rw[b4.o];exact c9)];simp[show Q < O.length by rw[b4.o];exact c9]);have L7:=Hd (show O[a7]?=some x7 from by rw[d2,bA (by rw[b4.o];exact l7)];simp[show a7 < O.length by rw[b4.o];exact l7]);clear A b9 f9 a5 d2 h0;go_wp2_with fail
    refine (jBQ wr b5).mono ?_;rintro e w' ⟨rfl,rfl⟩;go_wp2_with fail
    refine (jAz wr b5).mono ?_;rintro e w' ⟨rfl,rfl⟩;go_wp2_with fail
    refine (jAy wr Z).mono ?_;rintro e w' ⟨rfl,rfl⟩;go_wp2_with fail
    refine (jAA wr Z).mono ?_;rintro e w' ⟨rfl,rfl⟩;go_wp2_with fail
    have c2:k+1<=maxLen:=by unfold maxLen;omega
    have c3:(k+1) * 4<=140737488355328:=vO
    have HM:=Hd (bB c2 c3);clear c2 c3;refine jaC [0,1,2,3,4,5,6,7,8,9,10,11,12,13,14,15,16,17,18] [16,17] Ext (fun x y=>∀ vs,ORow 131 1 w x (.slice (some ⟨g,0,none⟩) k c1) k vs->ORow 131 1 w y (.slice (some ⟨g,0,none⟩) k c1) k vs) ExtR ExtT (fun x y z E h2 vs h=>h2 vs (E vs h)) (fun x y h vs k=>k.mono h) vY vY vY ?_;have d3:∀ w1,(∀ vs,ORow 131 1 w wr.drew (.slice (some ⟨g,0,none⟩) k c1) k vs->ORow 131 1 w w1 (.slice (some ⟨g,0,none⟩) k c1) k vs)->∀ j x,O[j]?=some x->w1.cell? ⟨g,j,none⟩=some (wv x):=fun w1 h j x hj=>by
     have h:=(h _ (H.o.mono (jah wr))).own.cells (g:=g) rfl j (wv x) (by rw[cA,hj];rfl)
     rwa [Addr.add_lit,cG]at h
    iterate 5 refine vD ?_
    refine qDL ⟨g,Q,none⟩ _ rfl (fun w1 E=>jab Tryz.uU32 rfl (d3 w1 E Q d1 h8.o)) ?_;refine vS ?_;iterate 6 refine vD ?_
    refine qDL ⟨g,a7,none⟩ _ rfl (fun w1 E=>jab Tryz.uU32 rfl (d3 w1 E a7 x7 L7.o)) ?_;refine vS ?_;iterate 3 refine vD ?_
    obtain⟨nx,d4⟩:∃ x,x=addW (addW (addW d1 (xorW (xorW (rotW b5 7) (rotW b5 18)) (shrW b5 3))) x7) (xorW (xorW (rotW Z 17) (rotW Z 19)) (shrW Z 10)):=⟨_,rfl⟩
    have e7:=Hd (show wL s.data.toList (k+1)=O++[nx] by rw[a3.o,d4];rfl);rw[<-d4,show wv nx=.int .u32 (nx.toNat:Int)from rfl];clear d4 d3;refine qDH _ rfl (fun w2 J K hK=>?_);have b6:=Hd (H.o.mono ((jah wr).trans J));clear J;go_simp;refine hK _ _ (fun vs h=>h.mono ((ExtR w2).alloc _)) ?_;clear hK K;refine qDH _ rfl (fun w3 J K hK=>?_);have d5:=Hd (b6.o.mono (((ExtR w2).alloc _).trans J));have hB:∀ j u,([wv nx]:List vV)[j]?=some u->w3.cell? ((⟨w2.heap.size,0,none⟩:Addr).add j)=some u:=fun j u hj=>jaa (jaI (Blk.new w2 (.cells [wv nx].toArray 131)) j u hj) J;refine jyS Tryz.sWords d5.o (.tmp 62) (.tmp 78) rfl rfl hB (by intro u hu;simp at hu;subst hu;rfl) rfl rfl HM.o.1 HM.o.2 (fun v' w4 r1 r2 r3 r4=>hK _ _ (fun vs h=>by
     have e:vs=O.map wv:=by
      have E:=h.own;have h2:=d5.o.own
      obtain⟨_,⟨e1,_⟩ |⟨g1,j3,i6,e1,_,e2,_,_,_,e3⟩⟩:=E
      ·cases e1
      ·obtain⟨_,⟨f1,_⟩ |⟨g2,j4,i7,f1,_,f2,_,_,_,f3⟩⟩:=h2
       ·cases f1
       ·have q1:=congrArg Addr.block (bS (cW e1).1)
        have q2:=congrArg Addr.block (bS (cW f1).1);have q1:g=g1:=q1;have q2:g=g2:=q2;subst q1 q2;rw[e2]at f2;have f2:=bS f2;injection f2 with f2;rw[<-e3,f2,f3]
     rw[e];exact r4) ?_)
    have b0:ORow 131 1 w w4 v' (k+1) ((wL s.data.toList (k+1)).map wv):=by rw[e7.o,cB];exact r1
    have d6:=Hd b0;clear hK K J r1 r2 r3 r4 b0 hB b6 d5
    obtain⟨a4,c4,rfl⟩:=d6.o.sl
    refine vS ?_
    refine vD ?_
    refine qDE (fun w5 J=>?_);have c7:=Hd (d6.o.mono J);clear J d6;go_wp2_with fail
    go_roundw
    case rel=>exact⟨k+1,by omega,by go_num,c7.o⟩
    case measure=>exact vJ
  ·have a6:k=64:=vO
   subst a6;have HW:=Hd (show ORow 131 1 w wr (.slice a1 64 c1) 64 ((jba s.data.toList).map wv)from H.o);have g0:=Hd (show ORow 131 1 w (wr.alloc (.cells #[] 131)) (.slice (some ⟨wr.heap.size,0,none⟩) 0 0) 0 []from ORow.lit #[] H.o.ext vI rfl);have g3:=Hd (show ∀ j u,(V.words.map wv)[j]?=some u->(wr.alloc (.cells #[] 131)).cell? ((⟨bh,0,none⟩:Addr).add j)=some u from fun j u hj=>by
    rw[Addr.add_lit,cG];exact jaa (HV.o _ _ hj) (H.o.ext.trans ((ExtR wr).alloc _)))
   go_wp2_with (at_builtin;refine jaK Tryz.sWords g0.o (.tmp 80) (.tmp 81) rfl rfl rfl g3.o (fun u hu=>by obtain⟨x,_,rfl⟩:=bJ.1 hu;rfl) rfl rfl vI vI ?_;intro v' w' r1 r2 r3)
   have b6:=Hd (show ORow 131 1 w w' v' 8 ((jdY (jba s.data.toList) V 0).words.map wv)from r1);have h9:=Hd ((HW.o.mono ((ExtR wr).alloc _)).keeps r2 (fun b hb e=>by
    have E:=HW.o.lt b hb;have e:some wr.heap.size=some b:=e
    have:=bS e
    omega) (fun b hb e=>by
    have e:some wr.heap.size=some b:=e
    have:=bS e
    have:=HW.o.ext.size
    omega))
   obtain⟨a8,c8,rfl⟩:=b6.o.sl;clear r1 r2 r3 H g0 g3;go_wp2_with fail
   go_loopw [13,14] (fun v iv wr=>Bk2 w a1 c1 V s.data.toList v iv wr) (fun _ iv _=>64 - (intOf iv).toNat)
   case atStart=>exact⟨0,by omega,rfl,b6.o,h9.o⟩
   case round =>
    obtain⟨k,hk,rfl,hR,hW⟩:=hrel
    have H:=Hd hR;have HW:=Hd hW
    obtain⟨v,hv⟩:=vE (jdY (jba s.data.toList) V k)
    rw[<-hv]at H;have d7:=Hd hv
    obtain⟨_,⟨h0,_⟩ |⟨g,c6,h3,h0,_⟩⟩:=hR.own
    ·obtain⟨_,_,e⟩:=hR.sl
     rw[e]at h0;cases (cW h0).2.1
    subst h0;clear hR hW hv
    by_cases hlt:k < 64
    ·have b1:(k:Int) < 64:=vO
     obtain⟨_,⟨h0,_⟩ |⟨g7,i8,i9,h0,_⟩⟩:=HW.o.own
     ·cases (cW h0).2.1
     obtain⟨rfl,_,rfl⟩:=cW h0
     obtain⟨ck,d8⟩:=vE (jeZ.getD k 0)
     obtain⟨wk,d9⟩:=vE ((jba s.data.toList).getD k 0)
     have qc:wr.cell? ⟨bk,k,none⟩=some (wv ck):=by
      refine jaa (HK.o.cellL ?_) H.o.ext;rw[cA,bA (show k < jeZ.length from hlt),d8];simp[show k < jeZ.length from hlt]
     have e0:(jba s.data.toList).length=64:=by simp[jba,jcD]
     have qw:wr.cell? ⟨g7,k,none⟩=some (wv wk):=by
      have h:=HW.o.own.cells (g:=g7) rfl k (wv wk) (by
       rw[cA,bA (by rw[e0];exact hlt),d9];simp[e0,hlt])
      rwa [Addr.add_lit,cG]at h
     have a3:=Hd (show jdY (jba s.data.toList) V (k+1)=jmS v ck wk by rw[d7.o,d8,d9];rfl);clear h0 d8 d9 e0
     obtain⟨x0,x1,Z,x3,X,x5,x6,x7⟩:=v
     have A:∀ j u,([wv x0,wv x1,wv Z,wv x3,wv X,wv x5,wv x6,wv x7]:List vV)[j]?=some u->wr.cell? ⟨g,j,none⟩=some u:=fun j u hj=>by
      have h:=H.o.own.cells (g:=g) rfl j u hj
      rwa [Addr.add_lit,cG]at h
     have q0:=A 0 _ rfl;have q1:=A 1 _ rfl;have q2:=A 2 _ rfl;have q3:=A 3 _ rfl;have q4:=A 4 _ rfl;have q5:=A 5 _ rfl;have q6:=A 6 _ rfl;have q7:=A 7 _ rfl;clear A;have QC:=Hd qc;have QW:=Hd qw;have Q0:=Hd q0;have Q1:=Hd q1;have Q2:=Hd q2;have Q3:=Hd q3;have Q4:=Hd q4;have Q5:=Hd q5;have Q6:=Hd q6;have Q7:=Hd q7;clear q0 q1 q2 q3 q4 q5 q6 q7 qc qw;go_wp2_with fail
     refine jag [0,1,2,3,4,5,6,7,8,9,10,11,12,13,14,15,16,17,18,19,20,21,22,23] Ext ExtR ExtT vY vY vY ?_;iterate 2 refine vK ?_
     refine qKL ⟨g,0,none⟩ _ rfl (fun w1 E=>jab Tryz.uU32 rfl (jaa Q0.o ((jah wr).trans E))) ?_;refine vS ?_;iterate 2 refine vK ?_
     refine qKL ⟨g,1,none⟩ _ rfl (fun w1 E=>jab Tryz.uU32 rfl (jaa Q1.o ((jah wr).trans E))) ?_;refine vS ?_;iterate 2 refine vK ?_
     refine qKL ⟨g,2,none⟩ _ rfl (fun w1 E=>jab Tryz.uU32 rfl (jaa Q2.o ((jah wr).trans E))) ?_;refine vS ?_;iterate 2 refine vK ?_
     refine qKL ⟨g,4,none⟩ _ rfl (fun w1 E=>jab Tryz.uU32 rfl (jaa Q4.o ((jah wr).trans E))) ?_;refine vS ?_;iterate 2 refine vK ?_
     refine qKL ⟨g,5,none⟩ _ rfl (fun w1 E=>jab Tryz.uU32 rfl (jaa Q5.o ((jah wr).trans E))) ?_;refine vS ?_;iterate 2 refine vK ?_
     refine qKL ⟨g,6,none⟩ _ rfl (fun w1 E=>jab Tryz.uU32 rfl (jaa Q6.o ((jah wr).trans E))) ?_;refine vS ?_;iterate 6 refine vK ?_
     refine qKE (fun w3 J=>?_);have X3:=Hd ((jah wr).trans J);clear J;go_wp2_with fail
     refine jag [0,1,2,3,4,5,6,7,8,9,10,11,12,13,14,15,16,17,18,19,20,21,22,23,24,25,26,27,28,29,30,31] Ext ExtR ExtT vY vY vY ?_;iterate 2 refine vK ?_
     refine qKL ⟨g,7,none⟩ _ rfl (fun w1 E=>jab Tryz.uU32 rfl (jaa Q7.o ((X3.o.trans (jah w3)).trans E))) ?_;refine vS ?_
     refine vK ?_
     refine qKC _ 107 #[wv X,.int .u64 6] (wv (rotW X 6)) rfl (fun w1=>jaq Tryz.enterRight3 vY) (fun w1 E=>(jBP w1 X).mono (fun e w2 ⟨E,h2⟩=>⟨E,h2 ▸ ExtR w1⟩)) ?_;refine vS ?_
     refine vK ?_
     refine qKC _ 107 #[wv X,.int .u64 11] (wv (rotW X 11)) rfl (fun w1=>jaq Tryz.enterRight3 vY) (fun w1 E=>(jAw w1 X).mono (fun e w2 ⟨E,h2⟩=>⟨E,h2 ▸ ExtR w1⟩)) ?_;refine vS ?_;iterate 2 refine vK ?_
     refine qKC _ 107 #[wv X,.int .u64 25] (wv (rotW X 25)) rfl (fun w1=>jaq Tryz.enterRight3 vY) (fun w1 E=>(jAC w1 X).mono (fun e w2 ⟨E,h2⟩=>⟨E,h2 ▸ ExtR w1⟩)) ?_;refine vS ?_;iterate 14 refine vK ?_
     refine qKL ⟨bk,k,none⟩ _ rfl (fun w1 E=>jab Tryz.uU32 rfl (jaa QC.o ((X3.o.trans (jah w3)).trans E))) ?_;refine vS ?_;iterate 4 refine vK ?_
     refine qKL ⟨g7,k,none⟩ _ rfl (fun w1 E=>jab Tryz.uU32 rfl (jaa QW.o ((X3.o.trans (jah w3)).trans E))) ?_;refine vS ?_;iterate 2 refine vK ?_
     refine qKE (fun w4 J=>?_);have X4:=Hd (X3.o.trans ((jah w3).trans J));clear J X3
     obtain⟨tv,e4⟩:∃ t,t=tOne ⟨x0,x1,Z,x3,X,x5,x6,x7⟩ ck wk:=⟨_,rfl⟩
     have a0:=e4;unfold tOne at a0;simp only at a0;rw[<-a0];have i0:=Hd e4;clear e4 a0;go_wp2_with fail
     refine (jBO w4 x0).mono ?_;rintro e w' ⟨rfl,rfl⟩;go_wp2_with fail
     refine (jAx w4 x0).mono ?_;rintro e w' ⟨rfl,rfl⟩;go_wp2_with fail
     refine (jAB w4 x0).mono ?_;rintro e w' ⟨rfl,rfl⟩;have q3:=jaa Q3.o X4.o
     obtain⟨sv,e5⟩:∃ t,t=addW (xorW (xorW (rotW x0 2) (rotW x0 13)) (rotW x0 22)) (xorW (xorW (andW x0 x1) (andW x0 Z)) (andW x1 Z)):=⟨_,rfl⟩
     have i1:Hid (tTwo ⟨x0,x1,Z,x3,X,x5,x6,x7⟩=sv):=e5.symm;go_wp2_with (refine jm9 (.slice (some ⟨w4.heap.size,0,none⟩) 8 8) (w4.alloc (.cells #[wv (addW tv sv),wv x0,wv x1,wv Z,wv (addW x3 tv),wv X,wv x5,wv x6] 131)) (by rw[e5];kernel_rfl) ?_;clear e5 q3)
     have HN:=Hd (show ORow 131 1 w (w4.alloc (.cells #[wv (addW tv sv),wv x0,wv x1,wv Z,wv (addW x3 tv),wv X,wv x5,wv x6] 131)) (.slice (some ⟨w4.heap.size,0,none⟩) 8 8) 8 ((jdY (jba s.data.toList) V (k+1)).words.map wv)from by
      have h:=ORow.lit (T:=131) (sz:=1) #[wv (addW tv sv),wv x0,wv x1,wv Z,wv (addW x3 tv),wv X,wv x5,wv x6] (n:=8) (H.o.ext.trans X4.o) vI rfl;rw[a3.o];unfold jmS;rw[i1.o, <-i0.o];exact h)
     have g4:=Hd (HW.o.mono (X4.o.trans ((ExtR w4).alloc (.cells #[wv (addW tv sv),wv x0,wv x1,wv Z,wv (addW x3 tv),wv X,wv x5,wv x6] 131))))
     obtain⟨w5,g5⟩:=vE (w4.alloc (.cells #[wv (addW tv sv),wv x0,wv x1,wv Z,wv (addW x3 tv),wv X,wv x5,wv x6] 131))
     rw[<-g5]at HN g4 ⊢;clear g5;go_wp2_with fail
     go_roundw
     case rel=>exact⟨k+1,by omega,by go_num,HN.o,g4.o⟩
     case measure=>exact vJ
    ·have a6:k=64:=vO
     subst a6;have i2:=Hd (show ORow 131 1 w wr (.slice (some ⟨g,0,none⟩) 8 c6) 8 ((je5 v.words V.words 0).map wv)from H.o);have e8:=Hd (show (je5 v.words V.words 8)=(mixW V s.data.toList).words by
      rw[jlx,d7.o,W8.add_comm];rfl)
     clear HW H d7;go_wp2_with fail
     rw[show ((64:Nat):Int)=(64:Int)from rfl];go_loopw [23] (fun iv wr=>Bk3 w g c6 v V iv wr) (fun iv _=>8 - (intOf iv).toNat)
     case atStart=>exact⟨0,by omega,rfl,i2.o⟩
     case round =>
      obtain⟨k,hk,rfl,hR⟩:=hrel
      have H:=Hd hR;clear hR
      by_cases hlt:k < 8
      ·have b1:(k:Int) < 8:=vO
       obtain⟨x,y,hx,hy,c0⟩:=jum v V hlt
       have q1:wr.cell? ⟨g,k,none⟩=some (wv x):=by
        have h:=H.o.own.cells (g:=g) rfl k (wv x) (by rw[cA,hx];rfl)
        rwa [Addr.add_lit,cG]at h
       have q2:wr.cell? ⟨bh,k,none⟩=some (wv y):=jaa (HV.o _ _ (by rw[cA,hy];rfl)) H.o.ext;have Q1:=Hd q1;have Q2:=Hd q2;have e9:=Hd c0;clear hx hy c0 q1 q2;go_wp2_with fail
       refine jaz [0,1,2,3,4,5,6,7,8,9,10,11,12] [12] Ext ExtR ExtT vY vY vY ?_;iterate 5 refine vP ?_
       refine qL ⟨g,k,none⟩ _ rfl (fun w1 E=>jab Tryz.uU32 rfl (jaa Q1.o ((jah wr).trans E))) ?_;refine vS ?_;iterate 3 refine vP ?_
       refine qL ⟨bh,k,none⟩ _ rfl (fun w1 E=>jab Tryz.uU32 rfl (jaa Q2.o ((jah wr).trans E))) ?_;refine vS ?_;iterate 2 refine vP ?_
       refine qH _ rfl (fun w6 J K hK=>?_);have e6:=Hd (H.o.mono ((jah wr).trans J));have g6:=jaa Q1.o ((jah wr).trans J);have g8:w6.frozen? ⟨g,k,none⟩=false:=e6.o.own.frozenAt k;have h7:=e6.o.set k (wv (addW x y));rw[<-iA,e9.o]at h7;have g9:=Hd h7;clear h7 J H Q1 Q2;refine jid g k (wv (addW x y)) rfl vY vY rfl Tryz.iU32 g6 g8 (hK _ _ ?_);clear hK K g6 g8;refine qE (fun w8 J=>?_);have i3:=Hd (g9.o.mono J);clear J g9 e6;go_wp2_with fail
       go_roundw
       case rel=>exact⟨k+1,by omega,by go_num,i3.o⟩
       case measure=>exact vJ
      ·have i4:k=8:=vO
       subst i4;have a9:=H.o;rw[e8.o]at a9;have HF:=Hd a9;clear a9;go_wp2_with fail
       go_ret
       exact⟨g,c6,rfl,HF.o.new g rfl,fun j u hj=>by
        have h:=HF.o.own.cells (g:=g) rfl j u hj
        rwa [Addr.add_lit,cG]at h,HF.o.ext⟩
theorem jfD{F:BSet}{w2 w3:vW}{xs:vN}{n:Nat}{a:Act}{o:Oper}(hn:xs.length=n)(ho:execOp a.eval o=(do pure (.value (<-convert 132 9 (.slice (some ⟨w2.heap.size,0,none⟩) n n)))))
  (h:jaf F (w2.alloc (.cells (jaL xs).toArray 5)) w3) (hF:¬ F w2.heap.size) (hm:n<=maxLen):(execOp a.eval o).run Tryz.prog w3=.ok (.value (.string ⟨xs.toArray⟩)) w3:=by
 subst hn;have z:=(Blk.new w2 (.cells (jaL xs).toArray 5)).keeps h hF;have e:(jaL xs).length=xs.length:=by unfold jaL;rw[cC]
 have A:w3.ownsRow 0 5 1 (.slice (some ⟨w2.heap.size,0,none⟩) xs.length xs.length) xs.length (jaL xs):=
  ⟨by rw[e,jG],.inr ⟨_,xs.length,_,rfl,cE _,z,bL _,hm,by simp[e],by simp[e];exact bN (by rw[e];exact bL _)⟩⟩
 have E:=jbA w3 Tryz.uBytes Tryz.uU8 Tryz.uStr A;rw[ho,bX,E];rfl
def jA7(w:vW)(s:vB)(v i:vV)(wr:vW):Prop:=∃ k:Nat,k<=s.size/\i=.int .i64 k/\v=.string ⟨(jcv (s.data.toList.take k)).toArray⟩/\Ext w wr
theorem jBN(x:vU):(x.toNat:Int) / (16:Int) % (256:Int)=((x >>> 4).toNat:Int):=by
 have:∀ f:Fin 256,(f.1:Int) / (16:Int) % (256:Int)=(((UInt8.ofNat f.1) >>> 4).toNat:Int):=by decide +kernel
 have h:=this ⟨x.toNat,x.toNat_lt⟩;simpa using h
theorem jBS(x:vU):(x.toNat:Int) % (16:Int)=((x &&& 15).toNat:Int):=by
 have:∀ f:Fin 256,(f.1:Int) % (16:Int)=(((UInt8.ofNat f.1) &&& 15).toNat:Int):=by decide +kernel
 have h:=this ⟨x.toNat,x.toNat_lt⟩;simpa using h
theorem jhH(a b:vN):(⟨a.toArray⟩:vB)++⟨b.toArray⟩=⟨(a++b).toArray⟩:=by
 apply ByteArray.ext;rw[cY]
 simp
theorem jn8(w:vW)(s:vB)(hs:s.size<=1000000):vR 110 #[.string s] w (.string (jbu s)):=by
 obtain⟨R,J⟩:=vE (jbu s)
 have HR:=Hd J;rw[<-J];clear J;unfold vR vQ;go_in;go_wp2_with fail
 go_loopw [3,4] (fun v i wr=>jA7 w s v i wr) (fun _ i _=>s.size - (intOf i).toNat)
 case atStart=>exact⟨0,cE _,rfl,rfl,ExtR w⟩
 case round =>
  obtain⟨k,hk,rfl,rfl,hE⟩:=hrel
  have HE:=Hd hE;clear hE
  by_cases hlt:k < s.size
  ·have b1:(k:Int) < (s.size:Int):=vO
   obtain⟨x,hx⟩:=vE (s[k])
   have HX:=Hd hx
   obtain⟨t,H⟩:=vE (jcv (s.data.toList.take k))
   rw[<-H];have HT:=Hd H;have a0:t.length<=2000000:=by
    rw[H]
    have:∀ l:vN,(jcv l).length=2 * l.length:=fun l=>by
     induction l with
     | nil=>rfl
     | cons a l ih=>unfold jcv at *;rw[cH,bC,ih];simp;omega
    rw[this,cQ];omega
   clear hx H;go_wp2_with fail
   refine jaC [0,1,2,3,4,5,6,7,8,9,10,11,12] [9] Ext Ext ExtR ExtT (fun x y z h k=>h.trans k) (fun x y h=>h) vY vY vY ?_;iterate 9 refine vD ?_
   refine qDH _ rfl (fun w2 A K hK=>?_);have O:=Hd (show Ext wr w2 from(jah _).trans A);clear A;go_simp;refine hK _ _ ((ExtR w2).alloc _) ?_;clear hK K;rw[jBN,jBS];refine qDV _ (.string ⟨[s[k] >>> 4,s[k] &&& 15].toArray⟩) rfl (fun w3 h3=>jfD (n:=2) (xs:=[s[k] >>> 4,s[k] &&& 15]) rfl vY h3 (fun f=>f) vI) ?_;refine vS ?_
   obtain⟨Q,e⟩:=vE ([s[k] >>> 4,s[k] &&& 15])
   rw[<-e];have a1:Q.length=2:=by rw[e];rfl
   have X:=Hd e;have b5:¬(9223372036854775807 < (⟨t.toArray⟩:vB).size+(⟨Q.toArray⟩:vB).size):=by show ¬(_ < t.length+Q.length);omega
   clear e;iterate 2 refine vD ?_
   refine qDE (fun w6 A=>?_);have Z:=Hd (HE.o.trans ((O.o.alloc _).trans A));clear A;go_wp2_with fail
   go_roundw
   case rel=>exact⟨k+1,by omega,by go_num,by rw[jhH,jmx s hlt, <-HT.o, <-X.o],Z.o⟩
   case measure=>exact vJ
  ·have E:k=s.size:=vO
   have HF:=Hd (show (⟨(jcv (s.data.toList.take k)).toArray⟩:vB)=R by
    rw[HR.o,bN (by rw[E];exact bL _)];rfl)
   rw[HF.o];clear E;go_wp2_with fail
   go_ret
   exact⟨rfl,HE.o⟩
def padZ(l:vN)(j:Nat):vN:=l++128 :: List.replicate j 0
theorem jtn(l:vN)(j:Nat):padZ l (j+1)=padZ l j++[0]:=by unfold padZ;rw[List.replicate_succ'];simp
theorem jkT(l:vN)(j:Nat):(padZ l j).length=l.length+1+j:=by unfold padZ;simp;omega
def zPad(n:Nat):Nat:=(119 - n % 64) % 64
def jBT(v:vV):Nat:=match v with | .string s=>s.size | _=>0
def jA4(w:vW)(l:vN)(sz:UInt64)(v iv:vV)(wr:vW):Prop:=∃ j:Nat,j<=8/\iv=.int .i64 (7 - (j:Int))/\v=.string ⟨(padZ l (zPad l.length)++(lenL sz).take j).toArray⟩/\Ext w wr
theorem jon(n:Nat):zPad n < 64:=Nat.mod_lt _ vI
theorem jp6(n:Nat):(n+1+zPad n) % 64=56:=by unfold zPad;omega
theorem jwE{n j:Nat}(h:j < zPad n):(n+1+j) % 64≠56:=by unfold zPad at h;omega
def jA3(w:vW)(l:vN)(v:vV)(wr:vW):Prop:=∃ j:Nat,j<=zPad l.length/\v=.string ⟨(padZ l j).toArray⟩/\Ext w wr
theorem jw1(w:vW)(l:vN)(hs:l.length<=1000000):vR 70 #[.string ⟨l.toArray⟩] w (.string ⟨(padZ l (zPad l.length)++lenL (UInt64.ofNat l.length)).toArray⟩):=by
 obtain⟨R,hR⟩:∃ R:vB,R=⟨(padZ l (zPad l.length)++lenL (UInt64.ofNat l.length)).toArray⟩:=⟨_,rfl⟩
 have a5:=Hd hR;rw[<-hR];clear hR;have a6:(⟨l.toArray⟩:vB).size=l.length:=rfl;have A:=Tryz.run_lit1 w 128;rw[show (((128:vU).toNat:Nat):Int)=128 from rfl]at A;have b5:¬(9223372036854775807 < (⟨l.toArray⟩:vB).size+(⟨#[128]⟩:vB).size):=by show ¬(_ < l.length+1);omega
 unfold vR vQ;go_in;go_wp2_with fail
 rw[show (⟨l.toArray⟩:vB)++⟨#[128]⟩=⟨(padZ l 0).toArray⟩from by rw[show (⟨#[128]⟩:vB)=⟨[128].toArray⟩from rfl,jhH];rfl]
 obtain⟨w0,Q⟩:=vE (w.alloc (.cells #[.int .u8 128] 5))
 have a7:=Hd (show Ext w w0 by rw[Q];exact (ExtR w).alloc _);rw[<-Q];clear A Q b5 a6;go_loopw [0] (fun v wr=>jA3 w l v wr) (fun v _=>zPad l.length+l.length+1 - jBT v)
 case atStart=>exact⟨0,cE _,rfl,a7.o⟩
 case round =>
  obtain⟨j,hj,rfl,hE⟩:=hrel
  have HE:=Hd hE;have z:=jkT l j;have H:=jtn l j
  obtain⟨t,ht⟩:=vE (padZ l j)
  rw[<-ht]at z H ⊢;have HT:=Hd ht;have a8:=Hd H
  obtain⟨u,hu⟩:∃ u:vB,u=⟨t.toArray⟩:=⟨_,rfl⟩
  have e:u.size=l.length+1+j:=by rw[hu];exact z
  have HU:=Hd hu;have a9:=Hd e;have hz:=jon l.length;rw[<-hu]
  by_cases hlt:j < zPad l.length
  ·have a0:=jwE hlt
   rw[<-e]at a0;have X:((u.size:Int) % 64 == 56)=false:=beq_eq_false_iff_ne.2 vO;have b4:((u.size:Int) % 64 != 56)=true:=by rw[bne,X];rfl
   have K:¬(u.size:Int) % 64=56:=vO
   have A:=Tryz.run_lit1 wr 0;rw[show (((0:vU).toNat:Nat):Int)=0 from rfl]at A;have b5:¬(9223372036854775807 < u.size+(⟨#[0]⟩:vB).size):=by rw[e];show ¬(_ < l.length+1+j+1);omega
   clear hE z H ht hu e a0;go_wp2_with fail
   go_roundw
   case rel=>exact⟨j+1,by omega,by rw[a8.o, <-jhH, <-HU.o],HE.o.alloc _⟩
   case measure =>
    show _ - (u++(⟨#[0]⟩:vB)).size < _ - u.size;rw[bU,a9.o];show _ - (l.length+1+j+1) < _;omega
  ·have J:j=zPad l.length:=vO
   have he:=jp6 l.length;have X:((u.size:Int) % 64 == 56)=true:=by rw[e,J];exact beq_iff_eq.2 vO
   have K:(u.size:Int) % 64=56:=by rw[e,J];omega
   clear hE z H ht hu e he hz hlt;go_wp2_with fail
   have Z:t=padZ l (zPad l.length):=by rw[HT.o,J]
   have b6:t.length<=1000100:=by rw[Z,jkT];have:=jon l.length;omega
   obtain⟨sz,E⟩:=vE (UInt64.ofNat l.length)
   have O:sz.toNat=l.length:=by rw[E,UInt64.toNat_ofNat'];omega
   have b0:=Hd E;have b1:=Hd O;have a1:=Hd Z;clear E O Z X K J;go_loopw [0,4] (fun v iv wr=>jA4 w l sz v iv wr) (fun _ iv _=>(intOf iv+1).toNat)
   case atStart=>exact⟨0,by omega,rfl,by rw[<-a1.o,HU.o];simp,HE.o⟩
   case round =>
    obtain⟨k,hk,rfl,rfl,hE⟩:=hrel
    have a2:=Hd hE;clear hE
    by_cases hlt:k < 8
    ·have c1:(0:Int)<=7 - (k:Int):=vO
     have c3:8 * (7 - (k:Int))=56 - 8 * (k:Int):=vO
     have c4:(0:Int)<=56 - 8 * (k:Int):=vO
     have c5:(56 - 8 * (k:Int)).toNat=56 - 8 * k:=vO
     have c6:56 - 8 * (k:Int) < 64:=vO
     obtain⟨v,hv⟩:∃ v:vB,v=⟨(padZ l (zPad l.length)++(lenL sz).take k).toArray⟩:=⟨_,rfl⟩
     have HV:=Hd hv;have a3:(l.length:Int) * 8 / 2 ^ (56 - 8 * k) % 256=((jee sz k).toNat:Int):=by
      have h:=jwU sz k;rw[b1.o,show IntKind.u64.wrap ((l.length:Int) * 8)=(l.length:Int) * 8 by rw[IntKind.wrap_u64];omega]at h;exact h
     have A:=Tryz.run_lit1 wr (jee sz k);rw[<-a3]at A;have b7:v.size<=1000300:=by
      rw[hv];show (padZ l (zPad l.length)++(lenL sz).take k).length<=_;rw[bC,cQ,jeP, <-a1.o];omega
     have b5:¬(9223372036854775807 < v.size+(⟨#[jee sz k]⟩:vB).size):=by show ¬(_ < v.size+1);omega
     have a4:(lenL sz).take (k+1)=(lenL sz).take k++[jee sz k]:=by
      rw[bY,bA (by rw[jeP];exact hlt)];simp[lenL]
     have b2:=Hd a4;rw[<-hv];clear hv a3 a4;go_wp2_with fail
     go_roundw
     case rel=>exact⟨k+1,by omega,by simp;omega,by rw[b2.o, <-cD, <-jhH, <-HV.o],a2.o.alloc _⟩
     case measure=>exact vJ
    ·have b3:k=8:=vO
     subst b3;have c1:¬(0:Int)<=7 - ((8:Nat):Int):=vO
     have HF:=Hd (show (⟨(padZ l (zPad l.length)++(lenL sz).take 8).toArray⟩:vB)=R by
      rw[a5.o, <-b0.o,bN (by rw[jeP];exact bL _)])
     rw[HF.o];clear hlt;go_wp2_with fail
     go_ret
     exact⟨rfl,a2.o⟩
end
section
open Go Go.RowKit
def hBlk(V:W8)(P:vN):Nat->W8
 | 0=>V
 | j+1=>mixW (hBlk V P j) ((P.drop (64 * j)).take 64)
theorem jxV{B X:vN}(h:B.length=64)(hx:X.length=64):layB B 0 X=X:=by
 unfold layB;rw[jH,cP,iC vO,bW]
theorem jgg(s:HSt)(P:vN)(hs:s.Ok)(z:s.n=0):∀ j:Nat,64 * j<=P.length->∃ B,jbp s (P.take (64 * j))=⟨hBlk s.V P j,B,0⟩
 | 0,_=>⟨s.B,by
  obtain⟨V,B,n⟩:=s
  have z:n=0:=z;subst z;simp[jbp,hBlk]⟩
 | j+1,h=>by
  obtain⟨B,A⟩:=jgg s P hs z j vO
  have o:(jbp s (P.take (64 * j))).Ok:=hs.all _;rw[A]at o;have E:((P.drop (64 * j)).take 64).length=64:=by rw[cQ,gG];omega
  have e:P.take (64 * (j+1))=P.take (64 * j)++(P.drop (64 * j)).take 64:=by
   rw[show 64 * (j+1)=64 * j+64 by omega,List.take_add]
  refine⟨(P.drop (64 * j)).take 64,?_⟩
  rw[e,jcF,A,jhM _ _ o (by rw[E])];show HSt.mk (mixW (hBlk s.V P j) (layB B 0 _)) (layB B 0 _) 0=_;rw[jxV o.1 E];rfl
theorem jAu(l:vN):(jbp jhS l).n=l.length % 64:=by
 obtain⟨B,z⟩:=jgg jhS l jh4 rfl (l.length / 64) vO
 have o:(jbp jhS (l.take (64 * (l.length / 64)))).Ok:=jh4.all _;rw[z]at o;have e:l=l.take (64 * (l.length / 64))++l.drop (64 * (l.length / 64)):=(cX _ _).symm;have A:(l.drop (64 * (l.length / 64))).length=l.length % 64:=by rw[gG];omega
 conv=>lhs;rw[e]
 rw[jcF,z,jhN _ _ o (by rw[A];show 0+_ < 64;omega)];show 0+_=_;rw[A];omega
def padL(l:vN):vN:=padZ l (zPad l.length)++lenL (UInt64.ofNat l.length)
theorem jkS(l:vN):(padL l).length=l.length+9+zPad l.length:=by
 unfold padL;rw[bC,jkT,jeP];omega
theorem jtm(l:vN):(padL l).length % 64=0:=by
 rw[jkS];have:=jp6 l.length;omega
theorem jyI(l:vN):shaL l=⟨(outL (hBlk jjR (padL l) ((padL l).length / 64)).words).toArray⟩:=by
 have z:jkf (jbp jhS l).n=zPad l.length:=by rw[jAu];unfold jkf zPad;omega
 have e:l++jm1 (zPad l.length) (UInt64.ofNat l.length)=padL l:=by unfold padL padZ jm1;simp
 obtain⟨B,o⟩:=jgg jhS (padL l) jh4 rfl ((padL l).length / 64) vO
 rw[bN (by have:=jtm l;omega)]at o;unfold shaL sumB;rw[z, <-jcF,e,o];rfl
end
section
open Go Go.RowKit
attribute [local go_sem] Oper.semAt_some
def Of3R(w:vW)(P:vN)(hv iv:vV)(wr:vW):Prop:=∃ (j b c:Nat),64 * j<=P.length/\iv=.int .i64 ((64 * j:Nat):Int)/\hv=.slice (some ⟨b,0,none⟩) 8 c/\(∀ i u,((hBlk jjR P j).words.map wv)[i]?=some u->wr.cell? ⟨b,i,none⟩=some u)/\Ext w wr
def Of3S(w:vW)(V:W8)(ov iv:vV)(wr:vW):Prop:=∃ k:Nat,k<=8/\iv=.int .i64 k/\ov=.string ⟨(outL (V.words.take k)).toArray⟩/\Ext w wr
theorem jAG(w:vW)(s:vB)(hs:s.size<=1000000):vR 38 #[.string s] w (.string (shaB s)):=by
 have HS:=Hd hs
 obtain⟨P,hP⟩:=vE (padL s.data.toList)
 have hl:s.data.toList.length=s.size:=rfl;have a8:P.length % 64=0:=by rw[hP];exact jtm _
 have a9:P.length<=1000100:=by rw[hP,jkS];have:=jon s.data.toList.length;omega
 have b3:0 < P.length:=by rw[hP,jkS];omega
 have HP:=Hd (show shaB s=⟨(outL (hBlk jjR P (P.length / 64)).words).toArray⟩ by rw[hP];exact jyI _);have a2:=Hd (bB a8 (bB a9 b3));have a7:=jw1 w s.data.toList hs;clear hs hl a8 a9 b3;unfold vR vQ;go_in;go_wp2_with fail
 refine (jwu w).mono ?_;rintro e w1 ⟨b1,b2,rfl,X,h2,d5,Z,b4,b6⟩;have c3:=Hd Z;have c4:=Hd b4;have c5:=Hd b6;clear Z b4 b6 a7;go_wp2_with fail
 refine vH (jw1 w1 s.data.toList HS.o) fun w2 E=>?_;have c6:=Hd (c3.o.trans E);rw[show padZ s.data.toList (zPad s.data.toList.length)++lenL (UInt64.ofNat s.data.toList.length)=P from hP.symm]
 obtain⟨J,O⟩:∃ J:vB,J=⟨P.toArray⟩:=⟨_,rfl⟩
 have a3:=Hd (bB (show J.size=P.length by rw[O];rfl) O);rw[<-O];clear hP O;go_wp2_with fail
 go_loopw [3,6] (fun hv iv wr=>Of3R w2 P hv iv wr) (fun _ iv _=>P.length+64 - (intOf iv).toNat)
 case atStart=>exact⟨0,b1,8,by omega,rfl,rfl,fun i u hi=>jaa (c4.o.cellL hi) E.o,ExtR w2⟩
 case round =>
  obtain⟨j,b,c,hj,rfl,rfl,H,Z⟩:=hrel
  have A:=Hd H;have HE:=Hd Z;clear H Z
  obtain⟨m,hm⟩:=vE (64 * j)
  have HM:=Hd hm;rw[<-hm]at hj ⊢;have b7:=a3.o.1;have a0:=a2.o.1;have b8:=a2.o.2.1
  by_cases hlt:m < P.length
  ·have b0:(m:Int) < (J.size:Int):=vO
   have a1:wrap64 ((m:Int)+64)=((m+64:Nat):Int):=by unfold wrap64;omega
   have b5:m+64<=J.size:=vO
   have hx:(J.extract m (m+64)).data.toList=(P.drop (64 * j)).take 64:=by
    rw[a3.o.2, <-hm,dA,fL,dU]
    congr 1;omega
   have b9:(J.extract m (m+64)).size=64:=by rw[cL];omega
   have HX:=Hd (bB hx b9);clear hm b7 a0 b8 hx b9;go_wp2_with fail
   obtain⟨sb,c0⟩:=vE (J.extract m (m+64))
   rw[<-c0]at HX ⊢;clear c0;refine (jv1 wr b b2 c (hBlk jjR P j) sb HX.o.2 A.o (c5.o.keeps (E.o.trans HE.o) (fun h=>h))).mono ?_;rintro e w5 ⟨g,c',rfl,_,a4,c1⟩;rw[HX.o.1]at a4;have c7:=Hd a4;have c8:=Hd (HE.o.trans c1);clear a4 c1;go_wp2_with fail
   go_roundw
   case rel=>exact⟨j+1,g,c',by have:=HM.o;have:=a2.o;omega,by have:=HM.o;rw[show 64 * (j+1)=m+64 by omega,a1],rfl,c7.o,c8.o⟩
   case measure =>
    rw[a1];show P.length+64 - ((m+64:Nat):Int).toNat < P.length+64 - (m:Int).toNat;omega
  ·have c2:P.length / 64=j:=by have:=HM.o;omega
   have HR:=Hd HP.o;rw[c2]at HR
   obtain⟨V,hV⟩:=vE (hBlk jjR P j)
   rw[<-hV]at HR A;have c9:=Hd (c6.o.trans HE.o);clear hV c2 hm b7 a0 b8;have b0:¬(m:Int) < (J.size:Int):=by have:=a3.o.1;omega
   go_wp2_with fail
   obtain⟨W2,rfl⟩:=vE wr
   go_loopw [7,8] (fun ov iv wr=>Of3S W2 V ov iv wr) (fun _ iv _=>8 - (intOf iv).toNat)
   case atStart=>exact⟨0,by omega,rfl,rfl,ExtR W2⟩
   case round =>
    obtain⟨k,hk,rfl,rfl,Z⟩:=hrel
    have a5:=Hd Z;clear Z
    by_cases hlt:k < 8
    ·have b1:(k:Int) < 8:=vO
     obtain⟨x,hx⟩:∃ x,V.words[k]?=some x:=⟨_,bA hlt⟩
     have Q1:=Hd (show wr.cell? ⟨b,k,none⟩=some (wv x)from jaa (A.o k (wv x) (by rw[cA,hx];rfl)) a5.o);have a6:=Hd (show outL (V.words.take (k+1))=outL (V.words.take k)++jg1 x by
      rw[bY,hx];unfold outL;simp)
     have d3:∀ (p:UInt32) (w:vW),(binOp .shr 131 (wv p) (.int .u64 24)).run Tryz.prog w=.ok (wv (shrW p 24)) w:=fun _ _=>jdb 24 vI .u64;have d4:∀ (p:UInt32) (w:vW),(binOp .shr 131 (wv p) (.int .u64 16)).run Tryz.prog w=.ok (wv (shrW p 16)) w:=fun _ _=>jdb 16 vI .u64;have d6:∀ (p:UInt32) (w:vW),(binOp .shr 131 (wv p) (.int .u64 8)).run Tryz.prog w=.ok (wv (shrW p 8)) w:=fun _ _=>jdb 8 vI .u64;have d7:∀ (p:UInt32) (w:vW),(convert 131 5 (wv p)).run Tryz.prog w=.ok (.int .u8 ((jnt p).toNat:Int)) w:=fun p w=>Tryz.run_byteW p w
     obtain⟨T,hT⟩:=vE (outL (V.words.take k))
     have d8:T.length<=28:=by
      have:∀ W:List UInt32,(outL W).length=4 * W.length:=fun W=>by
       induction W with
       | nil=>rfl
       | cons y r ih=>show (jg1 y++outL r).length=_;rw[bC,ih];show 4+_=4 * (r.length+1);omega
      rw[hT,this,cQ];omega
     rw[<-hT]at a6 ⊢;clear hx hT;go_wp2_with fail
     refine jaC [0,1,2,3,4,5,6,7,8,9,10,11,12,13,14,15,16,17,18,19,20,21,22,23,24,25,26,27] [24] Ext Ext ExtR ExtT ExtT (fun _ _ h=>h) vY vY vY ?_
     refine vD ?_
     iterate 3 refine vD ?_
     refine qDL ⟨b,k,none⟩ _ rfl (fun w1 X=>jab Tryz.uU32 rfl (jaa Q1.o ((jah wr).trans X))) ?_;refine vS ?_;iterate 2 refine vD ?_
     iterate 3 refine vD ?_
     refine qDL ⟨b,k,none⟩ _ rfl (fun w1 X=>jab Tryz.uU32 rfl (jaa Q1.o ((jah wr).trans X))) ?_;refine vS ?_;iterate 2 refine vD ?_
     iterate 3 refine vD ?_
     refine qDL ⟨b,k,none⟩ _ rfl (fun w1 X=>jab Tryz.uU32 rfl (jaa Q1.o ((jah wr).trans X))) ?_;refine vS ?_;iterate 2 refine vD ?_
     iterate 3 refine vD ?_
     refine qDL ⟨b,k,none⟩ _ rfl (fun w1 X=>jab Tryz.uU32 rfl (jaa Q1.o ((jah wr).trans X))) ?_;refine vS ?_
     refine vD ?_
     refine qDH _ rfl (fun w2 he K hK=>?_);have E:=Hd (show Ext wr w2 from(jah _).trans he);clear he;go_simp;refine hK _ _ ((ExtR w2).alloc _) ?_;clear hK K;refine qDV _ (.string ⟨(jg1 x).toArray⟩) rfl (fun w3 h3=>jfD (n:=4) (xs:=jg1 x) rfl vY h3 (fun f=>f) vI) ?_;refine vS ?_
     obtain⟨t2,Q⟩:=vE (jg1 x)
     have d9:t2.length=4:=by rw[Q];rfl
     have e0:=Hd Q;rw[<-Q]at a6 ⊢;have b5:¬(9223372036854775807 < (⟨T.toArray⟩:vB).size+(⟨t2.toArray⟩:vB).size):=by show ¬(_ < T.length+t2.length);omega
     clear Q;iterate 2 refine vD ?_
     refine qDE (fun w6 he=>?_);have d0:=Hd (a5.o.trans ((E.o.alloc _).trans he));clear he;go_wp2_with fail
     go_roundw
     case rel=>exact⟨k+1,by omega,by go_num,by rw[jhH,a6.o],d0.o⟩
     case measure=>exact vJ
    ·have d1:k=8:=vO
     subst d1;have d2:Hid ((⟨(outL (V.words.take 8)).toArray⟩:vB)=shaB s):=HR.o.symm;rw[d2.o]
     obtain⟨z,hz⟩:=vE (shaB s)
     rw[<-hz];go_wp2_with fail
     go_ret
     exact⟨congrArg (fun q=>Ending.returned (Value.string q)) hz,c9.o.trans a5.o⟩
theorem jAg(n:Nat):(n:Int) % (256:Int)=((UInt8.ofNat n).toNat:Int):=by
 rw[fF];omega
def leB(k n:Nat):vB:=⟨(leF k n).reverse.toArray⟩
theorem jv2:∀ (k:Nat) (w:vW) (n:Nat),k<=8->n < 256 ^ k->vR 191 #[.int .u64 n] w (.string (leB k n)):=by
 intro k;induction k with
 | zero =>
  intro w n _ H;have E:n=0:=by simpa using H
  subst E;go_enter Tryz.func191,Tryz.ntmps191;go_wp2_with fail
  go_ret
  exact⟨rfl,ExtR w⟩
 | succ k ih =>
  intro w n hk H
  by_cases E:n=0
  ·subst E
   go_enter Tryz.func191,Tryz.ntmps191;go_wp2_with fail
   go_ret
   exact⟨by unfold leB leF;simp,ExtR w⟩
  have hz:((n:Int) == 0)=false:=by simpa using E
  have hb:n < 18446744073709551616:=bQ H (bK (Nat.pow_le_pow_right vI (by omega:k+1<=8)) vI);have A:=Hd (fun w1=>ih w1 (n / 256) vO (by rw[Nat.pow_succ]at H;omega));rw[show ((n / 256:Nat):Int)=(n:Int) / (256:Int)from rfl]at A
  obtain⟨r,Q⟩:=vE (leB k (n / 256))
  have HR:=Hd (show leB (k+1) n=⟨(r.data.toList++[UInt8.ofNat n]).toArray⟩ by
   rw[Q];unfold leB;rw[leF,if_neg E];simp)
  rw[<-Q]at A;rw[HR.o];have a2:r.size<=8:=by rw[Q];unfold leB;show (leF k (n / 256)).reverse.length<=8;rw[fI];have:=jht k (n / 256);omega
  clear ih Q E H;go_enter Tryz.func191,Tryz.ntmps191;go_wp2_with fail
  refine jaC [0,1,2,3,4,5,6,7,8,9] [6] Ext Ext ExtR ExtT (fun x y z h k=>h.trans k) (fun x y h=>h) vY vY vY ?_;iterate 2 refine vD ?_
  refine jiP _ 191 #[.int .u64 ((n:Int) / (256:Int))] (.string r) rfl vY rfl (fun w1=>jaq (vX 191) vY) (fun w1 _=>A.o w1) ?_;refine vS ?_;iterate 3 refine vD ?_
  refine qDH _ rfl (fun w2 J K hK=>?_);have X:=Hd (show Ext w w2 from(jah _).trans J);clear J;go_simp;refine hK _ _ ((ExtR w2).alloc _) ?_;clear hK K;rw[jAg]
  obtain⟨O,e⟩:=vE ([UInt8.ofNat n])
  refine qDV _ (.string ⟨[UInt8.ofNat n].toArray⟩) rfl (fun w3 h3=>jfD (n:=1) (xs:=[UInt8.ofNat n]) rfl vY h3 (fun f=>f) vI) ?_;refine vS ?_;rw[<-e];have a3:O.length=1:=by rw[e];rfl
  have b5:¬(9223372036854775807 < r.size+(⟨O.toArray⟩:vB).size):=by show ¬(_ < r.size+O.length);omega
  have Z:=Hd e;clear e;iterate 2 refine vD ?_
  refine qDE (fun w6 J=>?_);have a0:=Hd ((X.o.alloc _).trans J);clear J;go_wp2_with fail
  go_ret;have a1:r++(⟨O.toArray⟩:vB)=⟨(r.data.toList++[UInt8.ofNat n]).toArray⟩:=(jhH r.data.toList O).trans (by rw[Z.o])
  exact⟨congrArg (fun s=>Ending.returned (Value.string s)) a1,a0.o⟩
theorem job(w:vW)(b:vB)(B:Nat)(hB:B=128\/B=192)(hs:b.size<=1000000):vR 178 #[.string b,.int .i64 B] w (.string (jb6 (UInt8.ofNat B) b.size++b)):=by
 have Z : -9223372036854775808<=(B:Int)+(b.size:Int):=vO
 have a0:(B:Int)+(b.size:Int)<=9223372036854775807:=vO
 by_cases h55:b.size<=55
 ·have c1:(b.size:Int)<=55:=vO
  obtain⟨A,z⟩:∃ A:vU,A=UInt8.ofNat B+UInt8.ofNat b.size:=⟨_,rfl⟩
  have J:jb6 (UInt8.ofNat B) b.size=⟨#[A]⟩:=by unfold jb6;rw[if_pos h55,z]
  rw[J];have E:((B:Int)+(b.size:Int))=(A.toNat:Int):=by
   rw[z,iY,fF,fF];omega
  have H:=jcG w A;rw[<-E]at H;have b5:¬(9223372036854775807 < (⟨#[A]⟩:vB).size+b.size):=by show ¬(_ < 1+b.size);omega
  clear h55 z J E;unfold vR vQ;go_in;go_wp2_with fail
  go_ret
  exact⟨rfl,(ExtR w).alloc _⟩
 ·have c1:¬(b.size:Int)<=55:=vO
  obtain⟨d,K⟩:=vE (jcV b.size)
  have a1:d.size<=8:=by rw[K];show (leF 8 b.size).reverse.length<=8;rw[fI];exact jht 8 b.size
  obtain⟨A,z⟩:∃ A:vU,A=UInt8.ofNat B+55+UInt8.ofNat d.size:=⟨_,rfl⟩
  have J:jb6 (UInt8.ofNat B) b.size=⟨#[A]⟩++d:=by unfold jb6;rw[if_neg h55,z,K]
  rw[J];have E:((B:Int)+55+(d.size:Int))=(A.toNat:Int):=by
   rw[z,iY,iY,fF,fF,show (55:vU).toNat=55 from rfl];omega
  have O:Hid (∀ w1,vQ 191 #[.int .u64 (b.size:Int)] w1 fun e w'=>e=.returned (.string d)/\Ext w1 w'):=(fun w1=>by rw[K];exact jv2 8 w1 b.size (bL _) (Nat.lt_of_le_of_lt hs vI));have a2 : -9223372036854775808<=(B:Int)+55:=vO
  have a3:(B:Int)+55<=9223372036854775807:=vO
  have a4 : -9223372036854775808<=(B:Int)+55+(d.size:Int):=vO
  have a5:(B:Int)+55+(d.size:Int)<=9223372036854775807:=vO
  have b5:¬(9223372036854775807 < (⟨#[A]⟩:vB).size+d.size):=by show ¬(_ < 1+d.size);omega
  have b6:¬(9223372036854775807 < ((⟨#[A]⟩:vB)++d).size+b.size):=by rw[bU];show ¬(_ < 1+d.size+b.size);omega
  have Q:=Hd E;clear h55 z J K E;unfold vR vQ;go_in;go_wp2_with fail
  refine vC (O.o w) fun w1 X=>?_;have H:=jcG w1 A;rw[<-Q.o]at H;have HE:=Hd (X.alloc (.cells #[.int .u8 ((B:Int)+55+(d.size:Int))] 5));clear X;go_wp2_with fail
  go_ret
  exact⟨rfl,HE.o⟩
theorem jeg(w:vW)(b:vB)(hs:b.size<=1000000):vR 161 #[.string b] w (.string (jan b)):=by
 by_cases h1:b.size=1
 ·have K:0 < b.size:=vO
  have X:(0:Int) < (b.size:Int):=vO
  have O:((b.size:Int) == 1)=true:=by rw[h1];rfl
  have A:b.data.toList.headD 255=b[0]:=by
   obtain⟨⟨l⟩⟩:=b
   cases l with
   | nil=>cases K
   | cons x r=>rfl
  by_cases h2:b[0] < 128
  ·have Q:(b[0].toNat:Int) < 128:=by have:=dD.1 h2;have:(128:vU).toNat=128:=rfl;omega
   rw[show jan b=b by unfold jan;rw[if_pos ⟨h1,by rw[A];exact h2⟩]];clear h1 h2 A;unfold vR vQ;go_in;go_wp2_with fail
   go_ret
   exact⟨rfl,ExtR w⟩
  ·have Q:¬(b[0].toNat:Int) < 128:=by have:¬ b[0].toNat < (128:vU).toNat:=fun h=>h2 (dD.2 h);have:(128:vU).toNat=128:=rfl;omega
   have E:=Hd (job w b 128 (.inl rfl) hs);have H:=Hd (show jan b=jb6 (UInt8.ofNat 128) b.size++b by unfold jan;rw[if_neg (fun h=>h2 (by rw[<-A];exact h.2))];rfl);rw[H.o];clear h1 h2 A;unfold vR vQ;go_in;go_wp2_with fail
   refine E.o.mono ?_;rintro e w1 ⟨rfl,z⟩;have J:=Hd z;clear z;go_wp2_with fail
   go_ret
   exact⟨rfl,J.o⟩
 ·have O:((b.size:Int) == 1)=false:=beq_eq_false_iff_ne.2 vO
  have E:=Hd (job w b 128 (.inl rfl) hs);have H:=Hd (show jan b=jb6 (UInt8.ofNat 128) b.size++b by unfold jan;rw[if_neg (fun h=>h1 h.1)];rfl);rw[H.o];clear h1;unfold vR vQ;go_in;go_wp2_with fail
  refine E.o.mono ?_;rintro e w1 ⟨rfl,z⟩;have J:=Hd z;clear z;go_wp2_with fail
  go_ret
  exact⟨rfl,J.o⟩
theorem jgx(A B:vM):catB (A++B)=catB A++catB B:=by
 unfold catB;rw[cB,List.flatten_append,jhH]
theorem jgw(x:vB):catB [x]=x:=by
 unfold catB;apply ByteArray.ext
 simp
theorem jql{xs:vM}{k:Nat}{x:vB}(hx:xs[k]?=some x):catB (xs.take (k+1))=catB (xs.take k)++x:=by
 rw[bY,hx];show catB (xs.take k++[x])=_;rw[jgx,jgw]
theorem juT(xs:vM)(k:Nat):(catB (xs.take k)).size<=(catB xs).size:=by
 have:=jgx (xs.take k) (xs.drop k)
 rw[cX]at this;rw[this,bU];omega
def jA5(w:vW)(xs:vM)(v i:vV)(wr:vW):Prop:=∃ k:Nat,k<=xs.length/\i=.int .i64 k/\v=.string (catB (xs.take k))/\Ext w wr
theorem jyz(w:vW)(v:vV)(xs:vM)(hv:RdS w v xs)(hn:xs.length<=1000000)(hl:(catB xs).size<=1000000):vR 179 #[v] w (.string (catB xs)):=by
 have HV:=Hd hv
 obtain⟨a,c,K,_⟩:=hv.slice
 subst K;clear hv
 obtain⟨R,O⟩:=vE (catB xs)
 rw[<-O]at hl ⊢;have HR:=Hd O;clear O;unfold vR vQ;go_in;go_wp2_with fail
 go_loopw [3,4] (fun v i wr=>jA5 w xs v i wr) (fun _ i _=>xs.length - (intOf i).toNat)
 case atStart=>exact⟨0,cE _,rfl,rfl,ExtR w⟩
 case round =>
  obtain⟨k,hk,rfl,rfl,hE⟩:=hrel
  have Q:=Hd hE;clear hE
  by_cases hlt:k < xs.length
  ·have b1:(k:Int) < (xs.length:Int):=vO
   obtain⟨x,X⟩:∃ x,xs[k]?=some x:=⟨_,bA hlt⟩
   obtain⟨a7,c7,E,H⟩:=HV.o.slice
   obtain⟨bx,ox,J,z⟩:=H k x X
   obtain⟨e1,_,e3⟩:=cW E
   rw[J]at e1;subst e1;have q1:=jaa z Q.o;have e:=jql X;have A:=juT xs (k+1);rw[e, <-HR.o,bU]at A
   obtain⟨t,ht⟩:=vE (catB (xs.take k))
   rw[<-ht]at e A ⊢;have Z:=Hd e;have b5:¬(9223372036854775807 < t.size+x.size):=vO
   clear E H z J e3 e ht X A;go_wp2_with fail
   go_roundw
   case rel=>exact⟨k+1,by omega,by go_num,by rw[Z.o],Q.o⟩
   case measure=>exact vJ
  ·have HF:=Hd (show catB (xs.take k)=R by rw[HR.o,bN vO])
   rw[HF.o];go_wp2_with fail
   go_ret
   exact⟨rfl,Q.o⟩
theorem jk9(w:vW)(v:vV)(xs:vM)(hv:RdS w v xs)(hn:xs.length<=1000000)(hl:(catB xs).size<=1000000):vR 162 #[v] w (.string (jbb xs)):=by
 have J:=Hd (jyz w v xs hv hn hl);have K:=Hd (fun w1=>job w1 (catB xs) 192 (.inr rfl) hl);have O:Hid (jbb xs=jb6 (UInt8.ofNat 192) (catB xs).size++catB xs):=rfl;rw[O.o]
 obtain⟨a,c,A,_⟩:=hv.slice
 subst A;clear hv;unfold vR vQ;go_in;go_wp2_with fail
 refine J.o.mono ?_;rintro e w1 ⟨rfl,z⟩;have E:=Hd z;clear z;go_wp2_with fail
 refine vH (K.o w1) fun Q z=>?_;have H:=Hd (E.o.trans z);go_wp2_with fail
 go_ret
 exact⟨rfl,H.o⟩
def beL(l:vN):Nat:=l.foldl (fun a b=>a * 256+b.toNat) 0
theorem juJ(l:vN)(b:vU):beL (l++[b])=beL l * 256+b.toNat:=by unfold beL;rw[dX];rfl
theorem jzF:∀ (l:vN),beL l < 256 ^ l.length:=fun l=>by
 suffices h:∀ (l:vN) (a k:Nat),a < 256 ^ k->l.foldl (fun a b=>a * 256+b.toNat) a < 256 ^ (k+l.length)from by
  have:=h l 0 0 vI
  rwa [cG]at this
 intro l;induction l with
 | nil=>intro a k h;simpa using h
 | cons x r ih =>
  intro a k h;have e:=x.toNat_lt
  have:=ih (a * 256+x.toNat) (k+1) (by rw[Nat.pow_succ];omega)
  rw[dE,bF,show k+(r.length+1)=k+1+r.length by omega];exact this
def RNum(w:vW)(s:vB)(v i:vV)(wr:vW):Prop:=∃ k:Nat,k<=s.size/\i=.int .i64 k/\v=.int .u64 (beL (s.data.toList.take k))/\Ext w wr
theorem jmR(w:vW)(s:vB)(hs:s.size<=8):vR 203 #[.string s] w (.int .u64 (beL s.data.toList)):=by
 obtain⟨R,H⟩:=vE (beL s.data.toList)
 rw[<-H];have X:=Hd H;clear H;unfold vR vQ;go_in;go_wp2_with fail
 go_loopw [3,4] (fun v i wr=>RNum w s v i wr) (fun _ i _=>s.size - (intOf i).toNat)
 case atStart=>exact⟨0,cE _,rfl,rfl,ExtR w⟩
 case round =>
  obtain⟨k,hk,rfl,rfl,K⟩:=hrel
  have O:=Hd K;clear K
  by_cases hlt:k < s.size
  ·have b1:(k:Int) < (s.size:Int):=vO
   have A:beL (s.data.toList.take (k+1))=beL (s.data.toList.take k) * 256+s[k].toNat:=by
    have e:s.data.toList[k]?=some s[k]:=by rw[bA (by exact hlt)];rfl
    rw[bY,e, <-juJ];rfl
   have z:=jzF (s.data.toList.take k);rw[cQ]at z;have E:beL (s.data.toList.take k) < 72057594037927936:=bQ z (bK (Nat.pow_le_pow_right vI (by omega:min k s.data.toList.length<=7)) vI);have Z:=s[k].toNat_lt
   obtain⟨n,Q⟩:=vE (beL (s.data.toList.take k))
   rw[<-Q]at A E ⊢;have J:=Hd A;have w1:(n:Int) * 256 < 18446744073709551616:=vO
   have w2:(0:Int)<=(n:Int) * 256:=vO
   have w3:(n:Int) * 256+(s[k].toNat:Int) < 18446744073709551616:=vO
   have w4:((n:Int) * 256) % 18446744073709551616=(n:Int) * 256:=vO
   have w5:((n:Int) * 256+(s[k].toNat:Int)) % 18446744073709551616=(n:Int) * 256+(s[k].toNat:Int):=vO
   clear z A Q;go_wp2_with fail
   go_roundw
   case rel=>exact⟨k+1,by omega,by go_num,by rw[J.o];push_cast;rfl,O.o⟩
   case measure=>exact vJ
  ·have HF:=Hd (show beL (s.data.toList.take k)=R by rw[X.o,bN (by have:s.data.toList.length=s.size:=rfl;omega)])
   rw[HF.o];go_wp2_with fail
   go_ret
   exact⟨rfl,O.o⟩
theorem jkc(s:vB)(k:Nat):(s.extract 1 (1+k)).data.toList=(s.data.toList.take (1+k)).drop 1:=by
 rw[dA]
 obtain⟨⟨l⟩⟩:=s
 cases l with
 | nil=>simp
 | cons x r=>rw[gL 1 k];simp
theorem jzE(l:vN):beL l=beN l:=rfl
def HdV(r:Bool × Nat × Nat):vV:=.tuple #[.bool r.1,.int .i64 (r.2.1:Int),.int .u64 (r.2.2:Int),.bool true]
theorem jtO(w:vW)(s:vB)(r:Bool × Nat × Nat)(hs:s.size<=1000000)(h:cutN s=some r):vR 198 #[.string s] w (HdV r):=by
 unfold cutN at h;split at h
 case isFalse=>cases h
 rename_i h0
 have a6:s.toList.isEmpty=false:=jbe h0;have b1:(0:Int) < (s.size:Int):=vO
 have X:=s[0].toNat_lt
 obtain⟨c,E⟩:=vE (s[0].toNat)
 have a7:(s[0].toNat:Int)=(c:Int):=by rw[E]
 rw[<-E]at h X;simp only at h
 by_cases h1:c < 128
 ·rw[if_pos h1]at h
  obtain rfl:=bS h;have d1:(c:Int) < 128:=vO
  have d2:¬(192:Int)<=(c:Int):=vO
  clear h E h1;unfold vR vQ;go_in;go_wp2_with fail
  exact bodyPost_ret (v:=HdV (false,0,1)) vY rfl ⟨rfl,ExtR w⟩
 rw[if_neg h1]at h;have d1:¬(c:Int) < 128:=vO
 by_cases h2:c < 192
 ·rw[if_pos h2]at h
  simp only at h;have d2:¬(192:Int)<=(c:Int):=vO
  by_cases h3:c - 128<=55
  ·rw[if_pos h3]at h
   split at h
   case isFalse=>cases h
   obtain rfl:=bS h;have Z:(c:Int)<=128+55:=vO
   have H:(c:Int)<=183:=vO
   have e:(((c - 128:Nat)):Int)=(c:Int) - 128:=vO
   have a0:(0:Int)<=(c:Int) - 128:=vO
   have a1:(c:Int) - 128 < 18446744073709551616:=vO
   have a2:((c:Int) - 128) % 18446744073709551616=(c:Int) - 128:=vO
   have J:=Hd (show HdV (false,1,c - 128)=.tuple #[.bool false,.int .i64 1,.int .u64 ((c:Int) - 128),.bool true] by unfold HdV;rw[e];rfl);rw[J.o];clear h E h1 h2 h3 e;unfold vR vQ;go_in;go_wp2_with fail
   exact bodyPost_ret (v:=.tuple #[.bool false,.int .i64 1,.int .u64 ((c:Int) - 128),.bool true]) vY rfl ⟨rfl,ExtR w⟩
  ·rw[if_neg h3]at h
   obtain⟨k,Q⟩:=vE (c - 128 - 55)
   rw[<-Q]at h;cases hL:lenB s (1+k)with
   | none=>rw[hL]at h;cases h
   | some n =>
   rw[hL]at h;simp only at h;split at h
   case isFalse=>cases h
   obtain rfl:=bS h
   obtain⟨K,_,z,_,a3⟩:=jdi hL
   have a4:k<=8:=vO
   have A:=Hd (fun w1=>jmR w1 (s.extract 1 (1+k)) (by rw[cL];omega));rw[jkc,jzE,z]at A;have Z:¬(c:Int)<=128+55:=vO
   have H:¬(c:Int)<=183:=vO
   have O:(c:Int)=(k:Int)+183:=vO
   have d4:¬(s.size:Int) < 1+(k:Int):=vO
   have a5:(c:Int) - 128 - 55=(k:Int):=vO
   have d5:(1:Int)<=1+(k:Int):=vO
   have d6:1+(k:Int)<=(s.size:Int):=vO
   have d7:(1+(k:Int)).toNat=1+k:=vO
   have d8:(0:Int)<=1+(k:Int):=vO
   have J:=Hd (show HdV (false,1+k,n)=.tuple #[.bool false,.int .i64 (1+(k:Int)),.int .u64 (n:Int),.bool true] by unfold HdV;simp);rw[J.o];clear h E h1 h2 h3 Q hL K z O;unfold vR vQ;go_in;go_wp2_with fail
   refine vH (A.o _) fun w1 HE=>?_;go_wp2_with fail
   exact bodyPost_ret (v:=.tuple #[.bool false,.int .i64 (1+(k:Int)),.int .u64 (n:Int),.bool true]) vY rfl ⟨rfl,HE.o⟩
 ·rw[if_neg h2]at h
  simp only at h;have d2:(192:Int)<=(c:Int):=vO
  by_cases h3:c - 192<=55
  ·rw[if_pos h3]at h
   split at h
   case isFalse=>cases h
   obtain rfl:=bS h;have Z:(c:Int)<=192+55:=vO
   have H:(c:Int)<=247:=vO
   have e:(((c - 192:Nat)):Int)=(c:Int) - 192:=vO
   have a0:(0:Int)<=(c:Int) - 192:=vO
   have a1:(c:Int) - 192 < 18446744073709551616:=vO
   have a2:((c:Int) - 192) % 18446744073709551616=(c:Int) - 192:=vO
   have J:=Hd (show HdV (true,1,c - 192)=.tuple #[.bool true,.int .i64 1,.int .u64 ((c:Int) - 192),.bool true] by unfold HdV;rw[e];rfl);rw[J.o];clear h E h1 h2 h3 e;unfold vR vQ;go_in;go_wp2_with fail
   exact bodyPost_ret (v:=.tuple #[.bool true,.int .i64 1,.int .u64 ((c:Int) - 192),.bool true]) vY rfl ⟨rfl,ExtR w⟩
  ·rw[if_neg h3]at h
   obtain⟨k,Q⟩:=vE (c - 192 - 55)
   rw[<-Q]at h;cases hL:lenB s (1+k)with
   | none=>rw[hL]at h;cases h
   | some n =>
   rw[hL]at h;simp only at h;split at h
   case isFalse=>cases h
   obtain rfl:=bS h
   obtain⟨K,_,z,_,a3⟩:=jdi hL
   have a4:k<=8:=vO
   have A:=Hd (fun w1=>jmR w1 (s.extract 1 (1+k)) (by rw[cL];omega));rw[jkc,jzE,z]at A;have Z:¬(c:Int)<=192+55:=vO
   have H:¬(c:Int)<=247:=vO
   have O:(c:Int)=(k:Int)+247:=vO
   have d4:¬(s.size:Int) < 1+(k:Int):=vO
   have a5:(c:Int) - 192 - 55=(k:Int):=vO
   have d5:(1:Int)<=1+(k:Int):=vO
   have d6:1+(k:Int)<=(s.size:Int):=vO
   have d7:(1+(k:Int)).toNat=1+k:=vO
   have d8:(0:Int)<=1+(k:Int):=vO
   have J:=Hd (show HdV (true,1+k,n)=.tuple #[.bool true,.int .i64 (1+(k:Int)),.int .u64 (n:Int),.bool true] by unfold HdV;simp);rw[J.o];clear h E h1 h2 h3 Q hL K z O;unfold vR vQ;go_in;go_wp2_with fail
   refine vH (A.o _) fun w1 HE=>?_;go_wp2_with fail
   exact bodyPost_ret (v:=.tuple #[.bool true,.int .i64 (1+(k:Int)),.int .u64 (n:Int),.bool true]) vY rfl ⟨rfl,HE.o⟩
theorem jkA(a y:vB):(a++y).extract 0 a.size=a:=by
 apply ByteArray.ext;rw[dA,cY]
 have:a.size=a.data.size:=rfl
 rw[this]
 simp
theorem jns(a y:vB):(a++y).extract a.size (a++y).size=y:=by
 apply ByteArray.ext;rw[dA,cY,bU]
 obtain⟨⟨e⟩⟩:=a
 obtain⟨⟨o⟩⟩:=y
 show (e.toArray++o.toArray).extract e.length (e.length+o.length)=o.toArray
 simp
theorem jgi(w:vW)(b y:vB)(hb:b.size<=100000)(hs:(jan b++y).size<=1000000):vR 187 #[.string (jan b++y)] w (.tuple #[.bool false,.string b,.string y,.int .i64 0]):=by
 obtain⟨o,h1,J,h3⟩:=jiq b y vO
 have K:=Hd (jtO w (jan b++y) _ hs h1);have HT:=Hd (fun w1=>jeg w1 b vO);have z:(jan b++y).extract 0 (o+b.size)=jan b:=by rw[J];exact jkA _ _
 have E:(jan b++y).extract (o+b.size) (jan b++y).size=y:=by rw[J];exact jns _ _
 have A:o+b.size<=(jan b++y).size:=by rw[J,bU];omega
 obtain⟨s,H⟩:=vE (jan b++y)
 rw[<-H]at hs K h3 z E A ⊢
 obtain⟨n,hn⟩:=vE b.size
 rw[<-hn]at K h3 z E A hb
 obtain⟨t,ht⟩:=vE (jan b)
 rw[<-ht]at HT z;have a0:(t.toList != t.toList)=false:=by simp
 have d1:¬(1048576:Int) < (n:Int):=vO
 have d2:¬(s.size:Int) < (o:Int)+(n:Int):=vO
 have d3:((o:Int)+(n:Int)).toNat=o+n:=vO
 have d4:(0:Int)<=(o:Int)+(n:Int):=vO
 have d5:(o:Int)<=(o:Int)+(n:Int):=vO
 have d6:(o:Int)+(n:Int)<=(s.size:Int):=vO
 have d8:(o:Int)+(n:Int)<=9223372036854775807:=vO
 have d9 : -9223372036854775808<=(o:Int)+(n:Int):=vO
 clear h1 J H hn ht A;unfold HdV at K;unfold vR vQ;go_in;go_wp2_with fail
 refine K.o.mono ?_;rintro e w1 ⟨rfl,O⟩;have Q:=Hd O;clear O;go_wp2_with fail
 refine vH (HT.o w1) fun w2 O=>?_;have X:=Hd (Q.o.trans O);go_wp2_with fail
 refine jag [0,1,2,3,4,5,6,7,8] Ext ExtR ExtT vY vY vY ?_;iterate 9 refine vK ?_
 refine qKE (fun w3 he=>?_);have Z:=Hd (X.o.trans ((jah w2).trans he));clear he;go_wp2_with fail
 exact bodyPost_ret (v:=.tuple #[.bool false,.string b,.string y,.int .i64 0]) vY rfl ⟨rfl,Z.o⟩
theorem ji8(w:vW)(xs:vM)(y:vB)(hb:(catB xs).size<=100000)(hs:(jbb xs++y).size<=1000000):vR 187 #[.string (jbb xs++y)] w (.tuple #[.bool true,.string (catB xs),.string y,.int .i64 0]):=by
 obtain⟨o,h1,Q,h3⟩:=jio xs y vO
 have X:=Hd (jtO w (jbb xs++y) _ hs h1);have HT:=Hd (fun w1=>jeg w1 (catB xs) vO);have E:=Hd (fun w1=>jk9 (w1.alloc (.cells #[.string (catB xs)] 9)) (.slice (some ⟨w1.heap.size,0,none⟩) 1 1) [catB xs] (jcm w1 [catB xs] 9) (by simp) (by rw[jgw];omega));have z:(jbb xs++y).extract 0 (o+(catB xs).size)=jbb xs:=by rw[Q];exact jkA _ _
 have H:(jbb xs++y).extract (o+(catB xs).size) (jbb xs++y).size=y:=by rw[Q];exact jns _ _
 have A:o+(catB xs).size<=(jbb xs++y).size:=by rw[Q,bU];omega
 obtain⟨b,J⟩:=vE (catB xs)
 have Z:jbb [b]=jbb xs:=by unfold jbb;rw[J,jgw]
 rw[<-J]at hb X HT E h3 z H A Q ⊢
 obtain⟨s,a0⟩:=vE (jbb xs++y)
 rw[<-a0]at hs X h3 z H A ⊢
 obtain⟨n,hn⟩:=vE b.size
 rw[<-hn]at X h3 z H A hb
 obtain⟨t,ht⟩:=vE (jbb xs)
 rw[Z, <-ht]at E;rw[<-ht]at z;have a4:(t.toList != t.toList)=false:=by simp
 have d1:¬(1048576:Int) < (n:Int):=vO
 have d2:¬(s.size:Int) < (o:Int)+(n:Int):=vO
 have d3:((o:Int)+(n:Int)).toNat=o+n:=vO
 have d4:(0:Int)<=(o:Int)+(n:Int):=vO
 have d5:(o:Int)<=(o:Int)+(n:Int):=vO
 have d6:(o:Int)+(n:Int)<=(s.size:Int):=vO
 have d8:(o:Int)+(n:Int)<=9223372036854775807:=vO
 have d9 : -9223372036854775808<=(o:Int)+(n:Int):=vO
 clear h1 Q a0 hn ht A J Z;unfold HdV at X;unfold vR vQ;go_in;go_wp2_with fail
 refine X.o.mono ?_;rintro e w1 ⟨rfl,K⟩;have a1:=Hd K;clear K;go_wp2_with fail
 refine vH (HT.o w1) fun w2 K=>?_;have O:=Hd (a1.o.trans K);go_wp2_with fail
 refine (E.o w2).mono ?_;rintro e a2 ⟨rfl,K⟩;have O:=Hd ((O.o.alloc _).trans K);clear K;go_wp2_with fail
 refine jag [0,1,2,3,4,5,6,7,8] Ext ExtR ExtT vY vY vY ?_;iterate 9 refine vK ?_
 refine qKE (fun w3 he=>?_);have a3:=Hd (O.o.trans ((jah a2).trans he));clear he;go_wp2_with fail
 exact bodyPost_ret (v:=.tuple #[.bool true,.string b,.string y,.int .i64 0]) vY rfl ⟨rfl,a3.o⟩
theorem jfP(w:vW)(s:vB)(hs:s.size<=1000000000):vQ 174 #[.string s] w fun e w'=>e=.returned (.bool (jaB s))/\w'=w:=by
 unfold vQ;go_in;go_wp2;go_loop [3] (fun i=>∃ k:Nat,k<=s.size/\i=.int .i64 k/\(s.data.toList.take k).all (·<=15)=true) (fun i=>s.size - (intOf i).toNat)
 case atStart=>exact⟨0,cE _,rfl,rfl⟩
 case round =>
  obtain⟨k,hk,rfl,A⟩:=hrel
  by_cases hlt:k < s.size
  ·have z:=jor s hlt (·<=15)
   rw[A]at z;have J:=Hd z;clear z;go_wp2
   ·have K:15 < (s[k].toNat:Int):=by assumption
    go_ret
    refine⟨?_,rfl⟩
    have O:decide (s[k]<=15)=false:=by
     simp only[decide_eq_false_iff_not,dY]
     have:(15:vU).toNat=15:=rfl
     omega
    have Q:jaB s=false:=by
     have E:=J.o;simp only[O,iF]at E;unfold jaB;rw[<-cX (k+1) s.data.toList,jB,E];rfl
    rw[Q];rfl
   ·have X:(s[k].toNat:Int)<=15:=by assumption
    have Z:decide (s[k]<=15)=true:=by
     simp only[decide_eq_true_eq,dY]
     have:(15:vU).toNat=15:=rfl
     omega
    have E:=J.o;simp only[Z,Bool.and_true]at E;go_round
    case rel=>exact⟨k+1,by omega,by go_num,E⟩
    case measure=>exact vJ
  ·have H:k=s.size:=vO
   have hv:jaB s=true:=by
    unfold jaB;rw[<-A,H,bN]
    simp
   go_wp2;go_ret
   exact⟨rfl,rfl⟩
def jA6(w:vW)(p:vB)(v i:vV)(wr:vW):Prop:=∃ k:Nat,2 * k<=p.size/\i=.int .i64 (2 * (k:Int))/\v=.string ⟨((jcz p.data.toList).take k).toArray⟩/\Ext w wr
theorem jBI(x y:vU)(hx:x.toNat<=15)(hy:y.toNat<=15):((x.toNat:Int) * (16:Int)+(y.toNat:Int)) % (256:Int)=((x <<< 4 ||| y).toNat:Int):=by
 have:∀ f g:Fin 16,((f.1:Int) * (16:Int)+(g.1:Int)) % (256:Int)=(((UInt8.ofNat f.1) <<< 4 |||(UInt8.ofNat g.1)).toNat:Int):=by decide +kernel
 have h:=this ⟨x.toNat,by omega⟩ ⟨y.toNat,by omega⟩;simpa using h
theorem jp1{p:vB}(h:jaB p=true){k:Nat}(hk:k < p.size):p[k].toNat<=15:=by
 have:=fB.1 h p[k] (by
  have e:p[k]=p.data.toList[k]'hk:=rfl;rw[e];exact dG _)
 have:=of_decide_eq_true this
 exact dY.1 this
theorem jk8(w:vW)(p:vB)(hs:p.size<=1000000)(h2:p.size % 2=0)(hv:jaB p=true):vR 177 #[.string p] w (.tuple #[.string (jbt p),.bool true]):=by
 have e1:(p.size:Int) % 2=0:=vO
 have Q:=Hd hv;have X:=Hd h2
 obtain⟨R,Z⟩:=vE (jbt p)
 have HR:=Hd Z;rw[<-Z];clear Z hv h2;unfold vR vQ;go_in;go_wp2_with fail
 refine vC (jfP _ p vO) fun w1 a0=>?_;rw[Q.o];subst a0;go_wp2_with fail
 go_loopw [4,5] (fun v i wr=>jA6 w1 p v i wr) (fun _ i _=>p.size - (intOf i).toNat)
 case atStart=>exact⟨0,by omega,rfl,rfl,ExtR w1⟩
 case round =>
  obtain⟨k,hk,rfl,rfl,hE⟩:=hrel
  have HE:=Hd hE;clear hE
  by_cases hlt:2 * k+1 < p.size
  ·have b1:2 * (k:Int)+1 < (p.size:Int):=vO
   obtain⟨m,J⟩:=vE (2 * k)
   have A:2 * (k:Int)=(m:Int):=vO
   rw[A]at b1 ⊢;have a1:m+1 < p.size:=vO
   have a2:m < p.size:=vO
   have b2:(m:Int) < (p.size:Int):=vO
   have b3:(0:Int)<=(m:Int)+1:=vO
   obtain⟨t,O⟩:=vE ((jcz p.data.toList).take k)
   rw[<-O];have HT:=Hd O;have HM:=Hd (bB J A);have a8:t.length<=1000000:=by rw[O,cQ,jdo];have:p.data.toList.length=p.size:=rfl;omega
   clear O J A;go_wp2_with fail
   refine jaC [0,1,2,3,4,5,6,7,8,9,10,11,12,13] [10] Ext Ext ExtR ExtT (fun x y z h k=>h.trans k) (fun x y h=>h) vY vY vY ?_;iterate 10 refine vD ?_
   refine qDH _ rfl (fun w2 H K hK=>?_);have a3:=Hd (show Ext wr w2 from(jah _).trans H);clear H;go_simp;refine hK _ _ ((ExtR w2).alloc _) ?_;clear hK K
   obtain⟨bb,E⟩:=vE (p[m] <<< 4 ||| p[m+1])
   have a4:=Hd E;rw[jBI p[m] p[m+1] (jp1 Q.o a2) (jp1 Q.o a1), <-E];clear E;refine qDV _ (.string ⟨[bb].toArray⟩) rfl (fun w3 h3=>jfD (n:=1) (xs:=[bb]) rfl vY h3 (fun f=>f) vI) ?_;refine vS ?_
   obtain⟨t2,e⟩:=vE ([bb])
   rw[<-e];have a9:t2.length=1:=by rw[e];rfl
   have a5:=Hd e;have b5:¬(9223372036854775807 < (⟨t.toArray⟩:vB).size+(⟨t2.toArray⟩:vB).size):=by show ¬(_ < t.length+t2.length);omega
   clear e;iterate 2 refine vD ?_
   refine qDE (fun w6 H=>?_);have a6:=Hd (HE.o.trans ((a3.o.alloc _).trans H));clear H;go_wp2_with fail
   go_roundw
   case rel =>
    refine⟨k+1,by omega,by have:=HM.o.2;simp only[Value.int.injEq,true_and];omega,?_,a6.o⟩
    rw[jhH,HT.o,a5.o,a4.o,bY];have hg:=jiT p.data.toList k (by have:p.data.toList.length=p.size:=rfl;omega);rw[hg];have J:=HM.o.1;subst J;rfl
   case measure=>exact vJ
  ·have a7:2 * k=p.size:=by have:=X.o;omega
   have HF:=Hd (show (⟨((jcz p.data.toList).take k).toArray⟩:vB)=R by
    rw[HR.o,bN (by rw[jdo];have:p.data.toList.length=p.size:=rfl;omega)];rfl)
   rw[HF.o];have b1:¬ 2 * (k:Int)+1 < (p.size:Int):=vO
   clear a7 hlt;go_wp2_with fail
   go_ret2
   exact⟨rfl,HE.o⟩
theorem jyB(w:vW)(s:vB)(hs:s.size<=1000000):vR 164 #[.string s] w (.string (refB s)):=by
 by_cases hlt:s.size < 32
 ·have J:(s.size:Int) < 32:=vO
  unfold vR vQ;go_in;go_wp2_with fail
  go_ret
  exact⟨by unfold refB;rw[if_pos hlt];rfl,ExtR w⟩
 ·have J:¬(s.size:Int) < 32:=vO
  have H:=Hd (jAG w s hs);have K:=Hd (show refB s=jan (shaB s) by unfold refB;rw[if_neg hlt]);rw[K.o]
  obtain⟨h,A⟩:=vE (shaB s)
  have O:=Hd (fun w1=>jeg w1 h (by rw[A,jbk];omega));rw[<-A]at H ⊢;clear A;unfold vR vQ;go_in;go_wp2_with fail
  refine H.o.mono ?_;rintro e w1 ⟨rfl,z⟩;have Q:=Hd z;clear z;go_wp2_with fail
  refine vH (O.o w1) fun X z=>?_;have E:=Hd (Q.o.trans z);go_wp2_with fail
  go_ret
  exact⟨rfl,E.o⟩
theorem jtM(w:vW)(r:vB)(hr:r.size < 32):vQ 176 #[.string r] w fun e w'=>e=.returned (.tuple #[.string ⟨#[]⟩,.bool false])/\w=w':=by
 have o:((r.size:Int) == 33)=false:=beq_eq_false_iff_ne.2 vO;have z:((r.size:Int) != 33)=true:=by rw[bne,o];rfl
 have A:¬(r.size:Int)=33:=vO
 unfold vQ;go_in;go_wp2_with fail
 go_ret2
 exact⟨rfl,rfl⟩
theorem jw3{h:vB}(hs:h.size=32):jan h=⟨#[160]⟩++h:=by
 unfold jan;rw[if_neg vO];unfold jb6;rw[hs];rfl
theorem jwc(w:vW)(h:vB)(hs:h.size=32):vQ 176 #[.string (jan h)] w fun e w'=>e=.returned (.tuple #[.string h,.bool true])/\w=w':=by
 rw[jw3 hs]
 obtain⟨r,o⟩:∃ r:vB,r=⟨#[160]⟩++h:=⟨_,rfl⟩
 have z:r.size=33:=by rw[o,bU,hs];rfl
 have A:r[0]'(by omega)=160:=by
  subst o;rfl
 have E:r.extract 1 33=h:=by
  rw[o]
  have:=jns (⟨#[160]⟩:vB) h
  rw[show (⟨#[160]⟩++h:vB).size=33 by rw[bU,hs];rfl]at this;exact this
 rw[<-o];have H:(r.size:Int)=33:=vO
 clear o;unfold vQ;go_in;go_wp2_with fail
 go_ret2
 exact⟨rfl,rfl⟩
theorem jpJ(w:vW)(p:vB)(hs:p.size<=1000000):vQ 157 #[.string p] w fun e w'=>e=.returned (.bool (jaB p && decide (p.size<=12)))/\w'=w:=by
 have z:=Hd (jfP w p vO)
 obtain⟨b,hb⟩:=vE (jaB p)
 rw[<-hb]at z ⊢;clear hb;unfold vQ;go_in;go_wp2_with fail
 refine z.o.mono ?_;rintro e w1 ⟨rfl,rfl⟩;cases b with
 | false =>
  go_wp2_with fail
  go_ret
  exact⟨rfl,rfl⟩
 | true =>
  by_cases h12:p.size<=12
  ·have A:(p.size:Int)<=12:=vO
   go_wp2_with fail
   go_ret
   exact⟨by simp[h12],rfl⟩
  ·have A:¬(p.size:Int)<=12:=vO
   go_wp2_with fail
   go_ret
   exact⟨by simp;omega,rfl⟩
theorem jia(w:vW)(b:vB)(hb:b.size<=100000):vR 190 #[.string (jan b)] w (.string b):=by
 have J:=jaN b;have z:jan b++(⟨#[]⟩:vB)=jan b:=iD;have A:=Hd (jgi w b ⟨#[]⟩ hb (by rw[z];omega));rw[z]at A
 obtain⟨t,E⟩:=vE (jan b)
 rw[<-E]at A ⊢;clear E z J;unfold vR vQ;go_in;go_wp2_with fail
 refine A.o.mono ?_;rintro e w1 ⟨rfl,H⟩;have K:=Hd H;clear H;go_wp2_with fail
 go_ret
 exact⟨rfl,K.o⟩
theorem jfS{b:vU}{p:vB}(hb:b<=15)(h:jaB p=true):jaB ((⟨#[b]⟩:vB)++p)=true:=by
 unfold jaB at *;have e:((⟨#[b]⟩:vB)++p).data.toList=b :: p.data.toList:=by rw[cY];simp
 rw[e,List.all_cons,h,Bool.and_true];exact decide_eq_true hb
theorem jyk{p:vB}{leaf:Bool}{fb:vU}(h:p.size % 2=1)(hf:fb=jed leaf true):jbt ((⟨#[fb]⟩:vB)++p)=putB p leaf:=by
 have e:oddB p=true:=by unfold oddB;rw[h];rfl
 unfold putB jch;rw[e, <-hf,if_pos rfl]
 congr 1
theorem jvZ{p:vB}{leaf:Bool}{fb:vU}(h:p.size % 2=0)(hf:fb=jed leaf false):jbt ((⟨#[fb]⟩:vB)++⟨#[0]⟩++p)=putB p leaf:=by
 have e:oddB p=false:=by unfold oddB;rw[h];rfl
 unfold putB jch;rw[e, <-hf,if_neg vI]
 congr 1
theorem jmT(w:vW)(p:vB)(leaf:Bool)(hs:p.size<=900000)(hv:jaB p=true):vR 160 #[.string p,.bool leaf] w (.tuple #[.string (putB p leaf),.bool true]):=by
 have HV:=Hd hv;clear hv
 by_cases h2:p.size % 2=0
 ·have e1:(p.size:Int) % 2=0:=vO
  obtain⟨E,e⟩:∃ E:vU,E=jed leaf false:=⟨_,rfl⟩
  have hp:=jvZ (p:=p) h2 e;have O:=jfS (b:=E) (by rw[e];cases leaf <;> decide) (jfS (b:=0) vI HV.o);have Q:((⟨#[E]⟩:vB)++⟨#[0]⟩++p).size=p.size+2:=by rw[bU,bU];show 1+1+p.size=_;omega
  have HP:=Hd hp;have X:=Hd (show jaB ((⟨#[E]⟩:vB)++⟨#[0]⟩++p)=true by rw[ByteArray.append_assoc];exact O);have z:=Hd Q;have Z:=Tryz.run_lit1 w E;have a0:=Tryz.run_lit1 (w.alloc (.cells #[.int .u8 (E.toNat:Int)] 5)) 0;rw[bR,show (((0:vU).toNat:Nat):Int)=0 from rfl]at a0;have A:(E.toNat:Int)=if leaf then 2 else 0:=by rw[e];cases leaf <;> decide
  have b5:¬(9223372036854775807 < ((⟨#[E]⟩:vB)++⟨#[0]⟩).size+p.size):=by rw[bU];show ¬(_ < 1+1+p.size);omega
  have b6:¬(9223372036854775807 < (⟨#[E]⟩:vB).size+(⟨#[0]⟩:vB).size):=by show ¬(_ < 1+1);omega
  clear hp O Q h2 e;cases leaf with
  | true =>
   rw[if_pos rfl]at A;rw[A]at Z a0;unfold vR vQ;go_in;go_wp2_with fail
   refine vC (jfP _ p vO) fun w1 H=>?_;rw[HV.o];subst H;go_wp2_with fail
   refine vH (jk8 _ _ (by rw[z.o];omega) (by rw[z.o];omega) X.o) fun w5 J=>?_;rw[HP.o];have K:=Hd ((((ExtR _).alloc _).alloc _).trans J);go_wp2_with fail
   go_ret2
   exact⟨rfl,K.o⟩
  | false =>
   rw[if_neg vI]at A;rw[A]at Z a0;unfold vR vQ;go_in;go_wp2_with fail
   refine vC (jfP _ p vO) fun w1 H=>?_;rw[HV.o];subst H;go_wp2_with fail
   refine vH (jk8 _ _ (by rw[z.o];omega) (by rw[z.o];omega) X.o) fun w5 J=>?_;rw[HP.o];have K:=Hd ((((ExtR _).alloc _).alloc _).trans J);go_wp2_with fail
   go_ret2
   exact⟨rfl,K.o⟩
 ·have e1:(p.size:Int) % 2=1:=vO
  have h1:p.size % 2=1:=vO
  obtain⟨E,e⟩:∃ E:vU,E=jed leaf true:=⟨_,rfl⟩
  have hp:=jyk (p:=p) h1 e;have O:=jfS (b:=E) (by rw[e];cases leaf <;> decide) HV.o;have Q:((⟨#[E]⟩:vB)++p).size=p.size+1:=by rw[bU];show 1+p.size=_;omega
  have HP:=Hd hp;have X:=Hd O;have z:=Hd Q;have Z:=Tryz.run_lit1 w E;have A:(E.toNat:Int)=if leaf then 3 else 1:=by rw[e];cases leaf <;> decide
  have b5:¬(9223372036854775807 < (⟨#[E]⟩:vB).size+p.size):=by show ¬(_ < 1+p.size);omega
  clear hp O Q h2 e h1;cases leaf with
  | true =>
   rw[if_pos rfl]at A;rw[A]at Z;unfold vR vQ;go_in;go_wp2_with fail
   refine vC (jfP _ p vO) fun w1 H=>?_;rw[HV.o];subst H;go_wp2_with fail
   refine vH (jk8 _ _ (by rw[z.o];omega) (by rw[z.o];omega) X.o) fun w5 J=>?_;rw[HP.o];have K:=Hd (((ExtR _).alloc _).trans J);go_wp2_with fail
   go_ret2
   exact⟨rfl,K.o⟩
  | false =>
   rw[if_neg vI]at A;rw[A]at Z;unfold vR vQ;go_in;go_wp2_with fail
   refine vC (jfP _ p vO) fun w1 H=>?_;rw[HV.o];subst H;go_wp2_with fail
   refine vH (jk8 _ _ (by rw[z.o];omega) (by rw[z.o];omega) X.o) fun w5 J=>?_;rw[HP.o];have K:=Hd (((ExtR _).alloc _).trans J);go_wp2_with fail
   go_ret2
   exact⟨rfl,K.o⟩
theorem jmG(w:vW)(p v:vB)(rs:vM)(hr:rs.length=16):vR 138 #[jad.V ⟨0,p,v,rs⟩] w (.string (jaP ⟨0,p,v,rs⟩)):=by
 unfold jad.V;have H:(jad.cells ⟨0,p,v,rs⟩)[0]?=some (.int .i64 0):=rfl;rw[show jaP ⟨0,p,v,rs⟩=jan ⟨#[]⟩from rfl]
 obtain⟨R,e⟩:=vE (jan ⟨#[]⟩)
 have z:=Hd (fun w1=>jeg w1 ⟨#[]⟩ vI);rw[<-e]at z ⊢;clear e;unfold vR vQ;go_in;go_wp2_with fail
 refine vH (z.o _) fun w1 A=>?_;have E:=Hd (((ExtR w).alloc _).trans A);go_wp2_with fail
 go_ret
 exact⟨rfl,E.o⟩
theorem jmF(w:vW)(p v:vB)(rs:vM)(hr:rs.length=16)(hp:p.size<=12)(hv:v.size<=80)(hpv:jaB p=true):vR 138 #[jad.V ⟨1,p,v,rs⟩] w (.string (jaP ⟨1,p,v,rs⟩)):=by
 have Q:=jbn p true;have X:=jaN (putB p true);have a3:=jaN v;have e0:(jad.cells ⟨1,p,v,rs⟩)[0]?=some (.int .i64 1):=rfl;have e1:(jad.cells ⟨1,p,v,rs⟩)[1]?=some (.string p):=rfl;have e2:(jad.cells ⟨1,p,v,rs⟩)[2]?=some (.string v):=rfl
 obtain⟨r0,e3⟩:∃ r0,(jad.cells ⟨1,p,v,rs⟩)[3]?=some (.string r0):=by
  cases rs with
  | nil=>cases hr
  | cons r0 rs=>exact⟨r0,rfl⟩
 unfold jad.V
 obtain⟨C,hC⟩:=vE (jad.cells ⟨1,p,v,rs⟩)
 have a4:C.length=19:=by rw[hC];exact jad.cells_len _ hr
 rw[<-hC]at e0 e1 e2 e3 ⊢;have HP:=Hd (fun w1=>jmT w1 p true vO hpv)
 obtain⟨z,e⟩:=vE (putB p true)
 rw[<-e]at Q X HP;have HL:=Hd (show jaP ⟨1,p,v,rs⟩=jbb [jan z,jan v] by rw[e];rfl);have Z:=Hd (fun w1=>jeg w1 z vO);have a0:=Hd (fun w1=>jeg w1 v vO);have J:=Hd (show (catB [jan z,jan v]).size<=1000000 by rw[ja8,ja8,jcJ];omega)
 obtain⟨t1,a1⟩:=vE (jan z)
 obtain⟨t2,a2⟩:=vE (jan v)
 rw[<-a1]at HL Z J;rw[<-a2]at HL a0 J;rw[HL.o];clear Q X a3 hC a4 e a1 a2 hp hv hr;unfold vR vQ;go_in;go_wp2_with fail
 have A:=Blk.new w (.cells C.toArray 94)
 obtain⟨W0,K⟩:=vE (w.alloc (.cells C.toArray 94))
 have a5:=Hd (show Ext w W0 by rw[K];exact (ExtR w).alloc _);rw[<-K]at A ⊢
 obtain⟨g,hg⟩:=vE w.heap.size
 rw[<-hg]at A ⊢;have a6:=Hd A;have O:=Hd (bB e0 (bB e2 e3));clear K hg A e0 e1 e2 e3;refine vC (HP.o W0) fun w1 E=>?_;have a7:=Hd (a5.o.trans E);have H:=a6.o.keeps E (fun h=>h);have q0:=H.cellL O.o.1;have q2:=H.cellL O.o.2.1;have q3:=H.cellL O.o.2.2;clear E H;go_wp2_with fail
 refine vH (a0.o w1) fun w2 E=>?_;have a8:=Hd (a7.o.trans E);clear q0 q2 q3;go_wp2_with fail
 refine vH (Z.o w2) fun w3 E=>?_;have a9:=Hd (a8.o.trans E);go_wp2_with fail
 refine vH (jk9 _ _ [t1,t2] (jcm w3 [t1,t2] 9) (by simp) J.o) fun w4 E=>?_;have b0:=Hd (a9.o.trans (((ExtR w3).alloc _).trans E))
 obtain⟨R,hR⟩:=vE (jbb [t1,t2])
 rw[<-hR];go_wp2_with fail
 go_ret
 exact⟨rfl,b0.o⟩
theorem jn4(w:vW)(p v r0:vB)(rs:vM)(hp:p.size<=12)(hv:r0.size<=80)(hpv:jaB p=true):vR 138 #[jad.V ⟨2,p,v,r0 :: rs⟩] w (.string (jaP ⟨2,p,v,r0 :: rs⟩)):=by
 have O:=jbn p false;have Q:=jaN (putB p false);have e0:(jad.cells ⟨2,p,v,r0 :: rs⟩)[0]?=some (.int .i64 2):=rfl;have e1:(jad.cells ⟨2,p,v,r0 :: rs⟩)[1]?=some (.string p):=rfl;have e2:(jad.cells ⟨2,p,v,r0 :: rs⟩)[2]?=some (.string v):=rfl;have e3:(jad.cells ⟨2,p,v,r0 :: rs⟩)[3]?=some (.string r0):=rfl;unfold jad.V
 obtain⟨C,hC⟩:=vE (jad.cells ⟨2,p,v,r0 :: rs⟩)
 rw[<-hC]at e0 e1 e2 e3 ⊢;have HP:=Hd (fun w1=>jmT w1 p false vO hpv)
 obtain⟨z,e⟩:=vE (putB p false)
 rw[<-e]at O Q HP;have HL:=Hd (show jaP ⟨2,p,v,r0 :: rs⟩=jbb [jan z,r0] by rw[e];rfl);have X:=Hd (fun w1=>jeg w1 z vO);have Z:=Hd (show (catB [jan z,r0]).size<=1000000 by rw[ja8,ja8,jcJ];omega)
 obtain⟨t1,a0⟩:=vE (jan z)
 rw[<-a0]at HL X Z;rw[HL.o];clear O Q hC e a0 hp hv;unfold vR vQ;go_in;go_wp2_with fail
 have A:=Blk.new w (.cells C.toArray 94)
 obtain⟨W0,H⟩:=vE (w.alloc (.cells C.toArray 94))
 have a1:=Hd (show Ext w W0 by rw[H];exact (ExtR w).alloc _);rw[<-H]at A ⊢
 obtain⟨g,hg⟩:=vE w.heap.size
 rw[<-hg]at A ⊢;have a2:=Hd A;have J:=Hd (bB e0 (bB e2 e3));clear H hg A e0 e1 e2 e3;refine vC (HP.o W0) fun w1 K=>?_;have a3:=Hd (a1.o.trans K);have E:=a2.o.keeps K (fun h=>h);have q0:=E.cellL J.o.1;have q2:=E.cellL J.o.2.1;have q3:=E.cellL J.o.2.2;clear K E;go_wp2_with fail
 refine vH (X.o w1) fun w3 K=>?_;have a4:=Hd (a3.o.trans K);clear q0 q2 q3;go_wp2_with fail
 refine vH (jk9 _ _ [t1,r0] (jcm w3 [t1,r0] 9) (by simp) Z.o) fun w4 K=>?_;have a5:=Hd (a4.o.trans (((ExtR w3).alloc _).trans K))
 obtain⟨R,hR⟩:=vE (jbb [t1,r0])
 rw[<-hR];go_wp2_with fail
 go_ret
 exact⟨rfl,a5.o⟩
theorem jiQ(v:vB)(rs:vM)(hr:rs.length=16):jaP ⟨3,⟨#[]⟩,v,rs⟩=jbb (ja7 rs v):=by
 show jec ⟨3,⟨#[]⟩,v,rs⟩=_;unfold jec;rw[jdF _ hr]
def itB(r:vB):vB:=if r.size=0 then jan ⟨#[]⟩else r
def Rb4R(W:vW)(rs:vM)(lv iv xv:vV)(wr:vW):Prop:=∃ k:Nat,k<=16/\iv=.int .i64 k/\ORow 9 1 W wr lv k (((rs.map itB).take k).map Value.string)
theorem jjq(w:vW)(v:vB)(rs:vM)(hr:rs.length=16)(hv:v.size<=80)(hz:(catB (ja7 rs v)).size<=100000):vR 138 #[jad.V ⟨3,⟨#[]⟩,v,rs⟩] w (.string (jaP ⟨3,⟨#[]⟩,v,rs⟩)):=by
 rw[jiQ v rs hr];have a3:=Hd hr;have HZ:=Hd hz;have a4:=Hd (show ja7 rs v=rs.map itB++[jan v]from rfl);have e0:(jad.cells ⟨3,⟨#[]⟩,v,rs⟩)[0]?=some (.int .i64 3):=rfl;have e2:(jad.cells ⟨3,⟨#[]⟩,v,rs⟩)[2]?=some (.string v):=rfl;have eR:∀ (k:Nat) x,rs[k]?=some x->(jad.cells ⟨3,⟨#[]⟩,v,rs⟩)[3+k]?=some (.string x):=fun k x hx=>by
  show (Value.int .i64 3 :: .string ⟨#[]⟩ :: .string v :: rs.map Value.string)[3+k]?=_;rw[show 3+k=k+1+1+1 by omega];simp[hx]
 unfold jad.V
 obtain⟨C,hC⟩:=vE (jad.cells ⟨3,⟨#[]⟩,v,rs⟩)
 rw[<-hC]at e0 e2 eR ⊢;have b2:=Hd (fun w1=>jeg w1 ⟨#[]⟩ vI);have a5:=Hd (fun w1=>jeg w1 v vO);have b3:=Hd eR;clear hC hr hv hz eR;unfold vR vQ;go_in;go_wp2_with fail
 have E:=Blk.new w (.cells C.toArray 94)
 obtain⟨H,O⟩:=vE (w.alloc (.cells C.toArray 94))
 have b4:=Hd (show Ext w H by rw[O];exact (ExtR w).alloc _);rw[<-O]at E ⊢
 obtain⟨g,hg⟩:=vE w.heap.size
 rw[<-hg]at E ⊢;have a6:=Hd E;have b5:=Hd e2;clear O hg E e0 e2;go_loopw [6,7,8] (fun lv iv xv wr=>Rb4R H rs lv iv xv wr) (fun _ iv _ _=>16 - (intOf iv).toNat)
 case atStart=>exact⟨0,by omega,rfl,ORow.nil _ _ (ExtR H)⟩
 case round =>
  obtain⟨k,hk,rfl,hR⟩:=hrel
  have HR:=Hd hR
  obtain⟨la,lc,rfl⟩:=hR.sl;clear hR
  by_cases hlt:k < 16
  ·have b1:(k:Int) < 16:=vO
   obtain⟨x,hx⟩:∃ x,rs[k]?=some x:=⟨_,bA (by have:=a3.o;omega)⟩
   have q1:wr.cell? ⟨g,3+k,none⟩=some (.string x):=(a6.o.keeps HR.o.ext (fun h=>h)).cellL (b3.o k x hx);have A:=Hd (show (rs.map itB).take (k+1)=(rs.map itB).take k++[itB x] by rw[bY,cA,hx];rfl);have a7:k+1<=maxLen:=by unfold maxLen;omega
   have a9:(k+1) * 16<=140737488355328:=vO
   clear hx
   by_cases hx0:x=⟨#[]⟩
   ·subst hx0
    rw[show itB ⟨#[]⟩=jan ⟨#[]⟩from rfl]at A
    obtain⟨t0,Q⟩:=vE (jan ⟨#[]⟩)
    rw[<-Q]at A;have b6:=Hd Q;clear Q;go_wp2_with fail
    refine vH (b2.o wr) fun w1 hE=>?_;have X:=Hd (HR.o.mono hE);rw[<-b6.o];clear q1;go_wp2_with (at_builtin;refine jaK Tryz.sStrs (X.o.mono ((ExtR w1).alloc _)) (.tmp 50) (.tmp 52) rfl rfl rfl (jaI (Blk.new w1 _)) (news:=[.string t0]) (by intro u J;simp at J;subst J;rfl) rfl rfl a7 a9 ?_;intro Z w' K r2 r3)
    have z:ORow 9 1 H w' Z (k+1) (((rs.map itB).take (k+1)).map Value.string):=by rw[A.o,cB];exact K
    obtain⟨a8,c8,rfl⟩:=z.sl
    have a0:=Hd z;clear K r2 r3 z;go_wp2_with fail
    go_roundw
    case rel=>exact⟨k+1,by omega,by go_num,a0.o⟩
    case measure=>exact vJ
   ·have a1:x.size≠0:=fun e=>hx0 (jbC (bD e))
    have b9:x.toList.isEmpty=false:=by
     rw[bO];cases h:x.data.toList with
     | nil=>exact absurd (show x.size=0 by show x.data.toList.length=0;rw[h];rfl) a1
     | cons=>rfl
    rw[show itB x=x by unfold itB;rw[if_neg a1]]at A;clear hx0 a1;go_wp2_with (at_builtin;refine jaK Tryz.sStrs (HR.o.mono ((ExtR wr).alloc _)) (.tmp 50) (.tmp 52) rfl rfl rfl (jaI (Blk.new wr _)) (news:=[.string x]) (by intro u J;simp at J;subst J;rfl) rfl rfl a7 a9 ?_;intro Z w' K r2 r3)
    have z:ORow 9 1 H w' Z (k+1) (((rs.map itB).take (k+1)).map Value.string):=by rw[A.o,cB];exact K
    obtain⟨a8,c8,rfl⟩:=z.sl
    have a0:=Hd z;clear K r2 r3 z;go_wp2_with fail
    go_roundw
    case rel=>exact⟨k+1,by omega,by go_num,a0.o⟩
    case measure=>exact vJ
  ·have a2:k=16:=vO
   subst a2;have b7:=Hd (show ORow 9 1 H wr (.slice la 16 lc) 16 ((rs.map itB).map Value.string) by
    have h:=HR.o
    rwa [bN (by rw[cC];have:=a3.o;omega)]at h)
   have q2:=(a6.o.keeps HR.o.ext (fun h=>h)).cellL b5.o;have b1:¬((16:Nat):Int) < 16:=vO
   obtain⟨tv,b0⟩:=vE (jan v)
   rw[<-b0]at a5 a4;clear HR b0;go_wp2_with fail
   refine vH (a5.o wr) fun w1 hE=>?_;have X:=Hd (b7.o.mono hE);clear q2;go_wp2_with (at_builtin;refine jaK Tryz.sStrs (X.o.mono ((ExtR w1).alloc _)) (.tmp 54) (.tmp 58) rfl rfl rfl (jaI (Blk.new w1 _)) (news:=[.string tv]) (by intro u J;simp at J;subst J;rfl) rfl rfl vI vI ?_;intro Z w' K r2 r3)
   have HF:=Hd (show SRow H w' Z 17 (ja7 rs v) by
    rw[a4.o];show ORow 9 1 H w' Z 17 _;rw[cB];exact K)
   clear K r2 r3;refine vH (jk9 w' Z (ja7 rs v) HF.o.rd (by have:=HF.o.len;simp at this;omega) (by have:=HZ.o;omega)) fun w4 hE=>?_;have b8:=Hd (b4.o.trans (HF.o.ext.trans hE))
   obtain⟨R,hR⟩:=vE (jbb (ja7 rs v))
   rw[<-hR];go_wp2_with fail
   go_ret
   exact⟨rfl,b8.o⟩
end
section
open Go Go.RowKit
attribute [local go_sem] Oper.semAt_some
structure InlR(I:vB->jad->Prop):Prop where
 small:∀ r m,I r m->r.size < 32
 refs:∀ r m,I r m->m.refs.length=16
 inl:∀ r m,I r m->∀ w,vR 158 #[.string r] w (.tuple #[m.V,.bool true])
theorem ji6(w:vW)(r:vB)(hr:32<=r.size):vR 158 #[.string r] w (.tuple #[jaG.V,.bool false]):=by
 have J:(32:Int)<=(r.size:Int):=vO
 unfold vR vQ;go_in;go_wp2_with (first |(refine jaj Tryz.allocNode rfl rfl ?_;intro K o z) |(refine jai (vs:=jaG.cells) rfl rfl rfl rfl o vF Tryz.szNode jaG.one ?_;intro H A E))
 refine bodyPost_ret (jaE rfl rfl rfl (jau H _ jaG rfl A)) rfl ?_
 exact⟨rfl,z.trans' E (fun x O e=>by have e:x=w.heap.size:=e;omega)⟩
theorem jmP(w:vW)(s:vB)(n:jad)(h1:n.refs.length=16)(hk:n.kind≠0)(hsm:s.size < 32)(hread:∀ w,vR 175 #[.string s] w (.tuple #[n.V,.bool true])):vR 158 #[.string s] w (.tuple #[n.V,.bool true]):=by
 have c1:¬(32:Int)<=(s.size:Int):=vO
 have c2:((n.kind:Int) == 0)=false:=by simp;omega
 have c3:¬(n.kind:Int)=0:=vO
 have z:=Hd hread;have H1:=Hd h1;have X:=Hd (n.cells_len h1);clear h1 hk hread;unfold jad.V at z ⊢;unfold vR vQ;go_in;go_wp2_with (refine jaj Tryz.allocNode rfl rfl ?_;intro W1 A E)
 refine vC (z.o W1) fun Z hE=>?_;have H:=A.keeps hE (fun h=>h);have a0:=Hd (E.trans hE);clear A E hE;go_wp2_with (first |(refine jaj Tryz.allocNode rfl rfl ?_;intro W3 a1 J;refine jai (vs:=n.cells) rfl rfl rfl rfl a1 (by rw[X.o];rfl) (by rw[X.o];exact Tryz.szNode) n.one ?_;intro W4 K O;have q0:W4.cell? ⟨Z.heap.size,0,none⟩=some (.int .i64 (n.kind:Int)):=K.cellL vF;have Q:=(H.keeps J (fun h=>h)).keeps O (by have:=H.lt;omega)) |(refine jae 94 (.tmp 4) rfl rfl _ _ rfl (jao _ _ n H1.o K) ?_) |(refine jai (vs:=n.cells) rfl rfl rfl rfl Q (by rw[X.o];rfl) (by rw[X.o];exact Tryz.szNode) n.one ?_;intro W8 a2 a3))
 refine bodyPost_ret (jaE rfl rfl rfl (jau W8 _ n H1.o a2)) rfl ?_;have a4:Ext Z W4:=J.trans' O (fun x hx e=>by have e:x=Z.heap.size:=e;omega)
 exact⟨rfl,(a0.o.trans a4).trans' a3 (fun x hx e=>by have e:x=w.heap.size:=e;omega)⟩
section
variable {I:vB->jad->Prop} (HI:InlR I)
include HI
theorem jj9(w:vW)(r:vB)(hr:MayP I r):vR 159 #[.string r] w (.bool true):=by
 rcases hr with⟨h,hs,rfl⟩ |⟨m,hm⟩
 ·have J:=Hd (fun w1=>jwc w1 h hs)
  have X:=Hd (fun w1=>ji6 w1 (jan h) (by rw[jw3 hs,bU,hs];decide))
  obtain⟨t,Z⟩:=vE (jan h)
  rw[<-Z]at J X ⊢;clear Z hs;unfold vR vQ;go_in;go_wp2_with fail
  refine (J.o w).mono ?_;rintro e w1 ⟨rfl,rfl⟩;go_wp2_with fail
  refine vH (X.o w) fun K O=>?_;unfold jad.V;go_wp2_with (first |(refine jaj Tryz.allocNode rfl rfl ?_;intro W3 z A;refine jai (vs:=jaG.cells) rfl rfl rfl rfl z rfl Tryz.szNode jaG.one ?_;intro W4 Q E))
  go_ret
  exact⟨rfl,O.o.trans (A.trans' E (fun x hx e=>by have e:x=K.heap.size:=e;omega))⟩
 ·have H:=HI.small r m hm
  have HM:=Hd (HI.inl r m hm);have HL:=Hd (m.cells_len (HI.refs r m hm));unfold jad.V at HM;have J:=Hd (fun w1=>jtM w1 r H);clear H hm;unfold vR vQ;go_in;go_wp2_with fail
  refine (J.o w).mono ?_;rintro e w1 ⟨rfl,rfl⟩;go_wp2_with fail
  refine vH (HM.o w) fun K O=>?_;go_wp2_with (first |(refine jaj Tryz.allocNode rfl rfl ?_;intro W3 z A;refine jai (vs:=m.cells) rfl rfl rfl rfl z (by rw[HL.o];rfl) (by rw[HL.o];exact Tryz.szNode) m.one ?_;intro W4 Q E))
  go_ret
  exact⟨rfl,O.o.trans (A.trans' E (fun x hx e=>by have e:x=K.heap.size:=e;omega))⟩
end
end
section
open Go Go.RowKit
attribute [local go_sem] Oper.semAt_some
theorem jo6{x:vB}(h:x.size≠0):x.toList.isEmpty=false:=by
 rw[bO];cases e:x.data.toList with
 | nil=>exact absurd (show x.size=0 by show x.data.toList.length=0;rw[e];rfl) h
 | cons=>rfl
def Va4R(W:vW)(rs:vM)(sv iv:vV)(wr:vW):Prop:=∃ k:Nat,k<=16/\iv=.int .i64 k/\sv=.int .i64 ((jay 0 (rs.take k)).length:Nat)/\Ext W wr
theorem jqo(rs:vM){k:Nat}{x:vB}(h:rs[k]?=some x):(jay 0 (rs.take (k+1))).length=(jay 0 (rs.take k)).length+(if x.size=0 then 0 else 1):=by
 have:=ji5 ⟨0,⟨#[]⟩,⟨#[]⟩,rs⟩ h
 rw[show jay 0 (rs.take (k+1))=_ from this,bC];split <;> rfl
theorem Tryz.eql_empty(w:vW):(binOp .eql 94 jaG.V (.agg #[.int .i64 0,.string ⟨#[]⟩,.string ⟨#[]⟩,.string ⟨#[]⟩,.string ⟨#[]⟩,.string ⟨#[]⟩,.string ⟨#[]⟩,.string ⟨#[]⟩,.string ⟨#[]⟩,.string ⟨#[]⟩,.string ⟨#[]⟩,.string ⟨#[]⟩,.string ⟨#[]⟩,.string ⟨#[]⟩,.string ⟨#[]⟩,.string ⟨#[]⟩,.string ⟨#[]⟩,.string ⟨#[]⟩,.string ⟨#[]⟩])).run Tryz.prog w=.ok (.bool true) w:=vY
section
variable {I:vB->jad->Prop} (HI:InlR I)
include HI
theorem jtX(w:vW)(n:jad)(h:jbT I n)(hr:n.refs.length=16):vR 137 #[n.V] w (.bool true):=by
 have HG:=Hd h;have b4:=Hd hr;have e0:n.cells[0]?=some (.int .i64 (n.kind:Int)):=rfl;have e1:n.cells[1]?=some (.string n.path):=rfl;have e2:n.cells[2]?=some (.string n.value):=rfl;have eR:∀ (k:Nat) x,n.refs[k]?=some x->n.cells[3+k]?=some (.string x):=fun k x hx=>by
  show (Value.int .i64 (n.kind:Int) :: .string n.path :: .string n.value :: n.refs.map Value.string)[3+k]?=_;rw[show 3+k=k+1+1+1 by omega];simp[hx]
 have z:=Hd (bB e0 (bB e1 (bB e2 eR)));unfold jad.V
 obtain⟨C,hC⟩:=vE n.cells
 rw[<-hC]at z ⊢;have c6:=Hd hC;clear h hr e0 e1 e2 eR hC;unfold vR vQ;go_in;go_wp2_with fail
 have a7:=Blk.new w (.cells C.toArray 94)
 obtain⟨W0,a8⟩:=vE (w.alloc (.cells C.toArray 94))
 have X:=Hd (show Ext w W0 by rw[a8];exact (ExtR w).alloc _);rw[<-a8]at a7 ⊢
 obtain⟨g,hg⟩:=vE w.heap.size
 rw[<-hg]at a7 ⊢;have b5:=Hd a7;clear a8 hg a7;go_loopw [3,4] (fun sv iv wr=>Va4R W0 n.refs sv iv wr) (fun _ iv _=>16 - (intOf iv).toNat)
 case atStart=>exact⟨0,by omega,rfl,rfl,ExtR W0⟩
 case round =>
  obtain⟨k,hk,rfl,rfl,Q⟩:=hrel
  have HE:=Hd Q;clear Q
  by_cases hlt:k < 16
  ·have b1:(k:Int) < 16:=vO
   obtain⟨x,hx⟩:∃ x,n.refs[k]?=some x:=⟨_,bA (by have:=b4.o;omega)⟩
   have Z:wr.cell? ⟨g,3+k,none⟩=some (.string x):=(b5.o.keeps HE.o (fun h=>h)).cellL (z.o.2.2.2 k x hx);have E:=jqo n.refs hx;have H:(jay 0 (n.refs.take k)).length<=16:=by
    have:∀ (l:vM) (i:Nat),(jay i l).length<=l.length:=fun l=>by
     induction l with
     | nil=>intro i;exact bL _
     | cons y r ih=>intro i;unfold jay;have:=ih (i+1);split <;> simp <;> omega
    have h2:=this (n.refs.take k) 0;have h3:(n.refs.take k).length<=16:=by rw[cQ];omega
    omega
   obtain⟨c0,a1⟩:=vE (jay 0 (n.refs.take k)).length
   rw[<-a1]at E H ⊢;clear hx a1
   by_cases hx0:x=⟨#[]⟩
   ·subst hx0
    rw[if_pos (show (⟨#[]⟩:vB).size=0 from rfl)]at E;have a9:=Hd E;clear E;go_wp2_with fail
    go_roundw
    case rel=>exact⟨k+1,by omega,by go_num,by rw[a9.o];rfl,HE.o⟩
    case measure=>exact vJ
   ·have J:x.size≠0:=fun e=>hx0 (jbC (bD e))
    have c7:=jo6 J;rw[if_neg J]at E;have a9:=Hd E;clear E hx0 J;go_wp2_with fail
    go_roundw
    case rel=>exact⟨k+1,by omega,by go_num,by rw[a9.o];go_num,HE.o⟩
    case measure=>exact vJ
  ·have b2:k=16:=vO
   subst b2;have a6:(jay 0 (n.refs.take 16)).length=(jay 0 n.refs).length:=by rw[bN (by have:=b4.o;omega)]
   rw[a6];have b1:¬((16:Nat):Int) < 16:=vO
   have hB:=b5.o.keeps HE.o (fun h=>h);have HB:=Hd hB;have q0:=hB.cellL z.o.1;have Z:=hB.cellL z.o.2.1;have q2:=hB.cellL z.o.2.2.1;clear a6 hB hlt;have c8:=HG.o;cases c8 with
   | none =>
    have hC:C=jaG.cells:=c6.o;subst hC;have c9:=jao wr g jaG rfl HB.o;have d0:=Tryz.eql_empty wr;go_wp2_with (first |(refine jae 94 (.tmp 1) rfl rfl _ _ rfl c9 ?_) |(refine jft (.tmp 23) (.tmp 24) rfl rfl _ _ (.bool true) rfl rfl vY d0 ?_))
    go_ret
    exact⟨rfl,X.o.trans HE.o⟩
   | leaf p v h2 h3 h4 =>
    rw[show (jay 0 (jam 16)).length=0 by rw[jdX];rfl]
    obtain⟨z1,z2,z3⟩:=jbR h2
    have hp:=jpJ wr p (by have z2:p.size<=12:=z2;omega);rw[show (jaB p && decide (p.size<=12))=true by rw[show jaB p=true from z3,decide_eq_true (show p.size<=12 from z2)];rfl]at hp;have HP:=Hd hp;have c1:(1:Int)<=(v.size:Int):=vO
    have c2:(v.size:Int)<=80:=vO
    clear hp h2 z1 z2 z3;go_wp2_with fail
    refine HP.o.mono ?_;rintro e w5 ⟨rfl,rfl⟩;go_wp2_with fail
    go_ret
    exact⟨rfl,X.o.trans HE.o⟩
   | ext p r h2 h3 h4 =>
    have b6:jay 0 (r :: jam 15)=[(0,r)]:=by unfold jay;rw[if_neg h3,jdX]
    rw[show (jay 0 (r :: jam 15)).length=1 by rw[b6];rfl]
    obtain⟨z1,z2,z3⟩:=jbR h2
    have hp:=fun w1=>jpJ w1 p (by have z2:p.size<=12:=z2;omega);rw[show (jaB p && decide (p.size<=12))=true by rw[show jaB p=true from z3,decide_eq_true (show p.size<=12 from z2)];rfl]at hp;have HP:=Hd hp;have d6:=jo6 (show p.size≠0 by have z1:1<=p.size:=z1;omega);have q3:wr.cell? ⟨g,3,none⟩=some (.string r):=HB.o.cellL (z.o.2.2.2 0 r rfl);have HQ:=Hd (bB Z (bB q2 q3));have HM:=Hd (fun w1=>jj9 HI w1 r (h4.imp id (fun ⟨m,h,_⟩=>⟨m,h⟩)));have d1:=Hd (show ∃ (m:jad) (ok:Bool),m.refs.length=16/\(ok=true->m.kind=3)/\∀ w1,vQ 158 #[.string r] w1 fun e w'=>e=.returned (.tuple #[m.V,.bool ok])/\Ext w1 w' from by
     rcases h4 with hh |⟨m,h5,h6⟩
     ·exact⟨jaG,false,rfl,(fun e=>by cases e),fun w1=>ji6 w1 r (by have:=hh.size;omega)⟩
     ·exact⟨m,true,HI.refs r m h5,fun _=>h6,fun w1=>HI.inl r m h5 w1⟩)
    clear hp h2 z1 z2 z3 h3 h4 b6
    obtain⟨m,ok,hm,b7,b8⟩:=d1.o
    have d2:=Hd b7;have HL:=Hd (m.cells_len hm);have b9:=Hd b8;unfold jad.V at b9;clear hm b7 b8;go_wp2_with fail
    refine vH (b9.o wr) fun w5 a0=>?_;cases ok with
    | false =>
     go_wp2_with (first |(refine jaj Tryz.allocNode rfl rfl ?_;intro W3 a2 a3;refine jai (vs:=m.cells) rfl rfl rfl rfl a2 (by rw[HL.o];rfl) (by rw[HL.o];exact Tryz.szNode) m.one ?_;intro W4 a4 a5;have K:Ext w5 W4:=a3.trans' a5 (fun x hx e=>by have e:x=w5.heap.size:=e;omega);have Z:=jaa HQ.o.1 (a0.o.trans K)))
     have A:=Hd (a0.o.trans K);have c4:=Hd (show W4.cell? ⟨w5.heap.size,0,none⟩=some (.int .i64 (m.kind:Int))from a4.cellL vF);clear K a4 a5 a2 a3 Z;refine (HP.o W4).mono ?_;rintro e w6 ⟨rfl,rfl⟩;have Z:=jaa HQ.o.1 A.o;have q2:=jaa HQ.o.2.1 A.o;have q3:=jaa HQ.o.2.2 A.o;go_wp2_with fail
     refine vH (HM.o w6) fun w7 Q=>?_;have b0:=Hd (A.o.trans Q);clear Z q2 q3;go_wp2_with fail
     go_ret
     exact⟨rfl,X.o.trans (HE.o.trans b0.o)⟩
    | true =>
     go_wp2_with (first |(refine jaj Tryz.allocNode rfl rfl ?_;intro W3 a2 a3;refine jai (vs:=m.cells) rfl rfl rfl rfl a2 (by rw[HL.o];rfl) (by rw[HL.o];exact Tryz.szNode) m.one ?_;intro W4 a4 a5;have K:Ext w5 W4:=a3.trans' a5 (fun x hx e=>by have e:x=w5.heap.size:=e;omega);have Z:=jaa HQ.o.1 (a0.o.trans K)))
     have A:=Hd (a0.o.trans K);have c4:=Hd (show W4.cell? ⟨w5.heap.size,0,none⟩=some (.int .i64 (m.kind:Int))from a4.cellL vF);clear K a4 a5 a2 a3 Z;refine (HP.o W4).mono ?_;rintro e w6 ⟨rfl,rfl⟩;have Z:=jaa HQ.o.1 A.o;have q2:=jaa HQ.o.2.1 A.o;have q3:=jaa HQ.o.2.2 A.o;go_wp2_with fail
     refine vC (HM.o w6) fun w7 Q=>?_;have b0:=Hd (A.o.trans Q);have qk:=jaa c4.o Q;rw[d2.o (by simp)]at qk;clear Q Z q2 q3;go_wp2_with fail
     go_ret
     exact⟨rfl,X.o.trans (HE.o.trans b0.o)⟩
   | branch v rs h2 h3 h4 h5 =>
    have HM:=Hd (fun w1 r hr hz=>jj9 HI w1 r (h4 r hr hz));have H:(jay 0 rs).length<=16:=by
     have:∀ (l:vM) (i:Nat),(jay i l).length<=l.length:=fun l=>by
      induction l with
      | nil=>intro i;exact bL _
      | cons y r ih=>intro i;unfold jay;have:=ih (i+1);split <;> simp <;> omega
     have:=this rs 0
     omega
    obtain⟨c0,a1⟩:=vE (jay 0 rs).length
    rw[<-a1]at h5 H ⊢;have H5:=Hd h5;have d3:=Hd H;have b3:Hid (rs.length=16):=h2;clear a1 h2 h4 h5 H Z q2;go_wp2_with fail
    obtain⟨W2,rfl⟩:=vE wr
    go_loopw [7] (fun iv wr=>∃ k:Nat,k<=16/\iv=.int .i64 k/\Ext W2 wr) (fun iv _=>16 - (intOf iv).toNat)
    case atStart=>exact⟨0,by omega,rfl,ExtR W2⟩
    case round =>
     obtain⟨k,hk,rfl,Q⟩:=hrel
     have O:=Hd Q;clear Q
     by_cases hlt:k < 16
     ·have b1:(k:Int) < 16:=vO
      obtain⟨x,hx⟩:∃ x,rs[k]?=some x:=⟨_,bA (by have:=b3.o;omega)⟩
      have Z:wr.cell? ⟨g,3+k,none⟩=some (.string x):=jaa (HB.o.cellL (z.o.2.2.2 k x hx)) O.o;have d4:=Hd (bI hx);clear hx
      by_cases hx0:x=⟨#[]⟩
      ·subst hx0
       go_wp2_with fail
       go_roundw
       case rel=>exact⟨k+1,by omega,by go_num,O.o⟩
       case measure=>exact vJ
      ·have J:x.size≠0:=fun e=>hx0 (jbC (bD e))
       have c7:=jo6 J;have d5:=Hd (HM.o wr x d4.o J);clear hx0 J;go_wp2_with fail
       refine d5.o.mono ?_;rintro e w5 ⟨rfl,Q⟩;have a0:=Hd (O.o.trans Q);clear Q;go_wp2_with fail
       go_roundw
       case rel=>exact⟨k+1,by omega,by go_num,a0.o⟩
       case measure=>exact vJ
     ·have Z:wr.cell? ⟨g,1,none⟩=some (.string ⟨#[]⟩):=jaa (HB.o.cellL z.o.2.1) O.o
      have q2:wr.cell? ⟨g,2,none⟩=some (.string v):=jaa (HB.o.cellL z.o.2.2.1) O.o;have b1:¬(k:Int) < 16:=vO
      have c2:(v.size:Int)<=80:=vO
      have h5:=H5.o;have H:=d3.o
      by_cases hv0:v=⟨#[]⟩
      ·subst hv0
       have hz:min (⟨#[]⟩:vB).size 1=0:=rfl;rw[hz]at h5;have c3:(2:Int)<=(c0:Int):=vO
       clear h5 hz H;go_wp2_with fail
       go_ret
       exact⟨rfl,X.o.trans (HE.o.trans O.o)⟩
      ·have c5:v.size≠0:=fun e=>hv0 (jbC (bD e))
       have d7:=jo6 c5;have c3:(2:Int)<=(c0:Int)+1:=vO
       clear hv0 c5 h5;go_wp2_with fail
       go_ret
       exact⟨rfl,X.o.trans (HE.o.trans O.o)⟩
end
end
section
open Go Go.RowKit
attribute [local go_sem] Oper.semAt_some
theorem jtz{I:vB->jad->Prop}(HI:InlP I)(w:vW)(n:jad)(h:jbT I n):vR 138 #[n.V] w (.string (jaP n)):=by
 have A:=h.one HI;cases h with
 | none=>exact jmG w _ _ _ rfl
 | leaf p v h2 h3 h4 =>
  obtain⟨E,e,o⟩:=jbR h2
  exact jmF w p v _ rfl e h4 o
 | ext p r h2 h3 h4 =>
  obtain⟨E,e,o⟩:=jbR h2
  exact jn4 w p _ r _ e (by have:=A.each r (bH);omega) o
 | branch v rs h2 h3 h4 h5 =>
  have z:=jde _ A;rw[jdF _ h2]at z;exact jjq w v rs h2 h3 (by have z:(catB (ja7 rs v)).size<=1513:=z;omega)
section
variable {I:vB->jad->Prop} (HP:InlP I) (HI:InlR I)
include HP HI
theorem ji7(w:vW)(n:jad)(h:jbT I n):vR 108 #[n.V] w (.tuple #[.string (jaP n),.int .i64 0]):=by
 have E:=h.one HP;have z:=jao (w.alloc (.cells n.cells.toArray 94)) _ n E.refs (Blk.new w _);have H:=Hd h;have K:=Hd E;clear h E;unfold jad.V at z ⊢;unfold vR vQ;go_in;go_wp2_with (refine jae 94 (.tmp 1) rfl rfl _ _ rfl z ?_)
 refine vC (jtX HI _ n H.o K.o.refs) fun O A=>?_;have Q:=(Blk.new w (.cells n.cells.toArray 94)).keeps A (fun h=>h);have e:=jao O _ n K.o.refs Q;have X:=Hd (((ExtR w).alloc _).trans A);unfold jad.V at e;clear z A Q;go_wp2_with (refine jae 94 (.tmp 1) rfl rfl _ _ rfl e ?_)
 refine vH (jtz HP O n H.o) fun w3 A=>?_;have J:=Hd (X.o.trans A);clear e
 obtain⟨R,Z⟩:=vE (jaP n)
 rw[<-Z];go_wp2_with fail
 go_ret2
 exact⟨rfl,J.o⟩
end
end
