/- Lemmas; each is under no condition but those that it states. -/
import Derived.Test.YtmobgkphhbmhbaaGreatDoorPb31
import Derived.Lib.SmallJoins
import Derived.Test.YtmobgkphhbmhbaaGreatDoorCards
import Derived.Test.YtmobgkphhbmhbaaGreatDoorTie
import Derived.Deep.DeepHandedRow
import Derived.Lay
namespace Go.Proofs.YtmobgkphhbmhbaaGreatDoor
set_option linter.unusedSimpArgs false
set_option linter.unusedVariables false
set_option maxRecDepth 100000
set_option maxHeartbeats 16000000
section
open Go Go.RowKit
attribute [local go_sem] Oper.semAt_some
theorem jge{W0 W:vW}(hc:jbV W)(he:ErrT W){s bm:Nat}{room:Int}{U:vM}{S:vT}{n:Nat}(h:Tst W0 W s bm room U S n)(hn:n<=5000)(hU:InjL U)(hN:jkV U){l:vL}(hM:HasM S l)(u:vV)(cs:List Chg)(hu:RdC W u cs)(hnc:cs.length<=9223372036854775807)(hsc:∀ c∈cs,c.key.size<=9223372036854775807/\c.value.size<=9223372036854775807)(hr0:0<=room)(hr1:room<=9223372036854775807)(h0:ja3 l cs=0)(hs:∀ t∈jay (ja2 l cs),t∈U){k:Nat}(hk:(newM S (ja2 l cs)).length<=k)(hroom:(n:Int)+k<=room)(hk1:1<=k) :
  vQ 20 #[.pointer (some ⟨s,0,none⟩),.string (rootM l),u] W fun e A=>e=.returned (.tuple #[.string (rootM (ja2 l cs)),.int .i64 0])/\∃ o,Tst W0 A s bm room U o (n+k)/\HasM o (ja2 l cs)/\AddK W U S (ja2 l cs) (newM S (ja2 l cs)) o/\jad (fun z=>z=bm\/z∈S.map (·.2.1)) W A:=by
 have hb:=h.bds hn;refine (jti W hc he s bm room S h.st (h.kp.nodes hN) l hM u cs hu hnc hsc hr0 hr1 hb.1 hb.2.1 hb.2.2).mono ?_;intro e A E
 obtain⟨o,q⟩:=jth W hU h.kp h0 hs E (by have:=h.len;omega)
 exact⟨q.res,o,h.add hk hk1 q,q.add.has hU (jcb h0) hs,q.add,q.kp⟩
theorem Tst.o{W0 W:vW}{s bm:Nat}{room:Int}{U:vM}{S:vT}{n:Nat}(h:Tst W0 W s bm room U S n){z:Nat}(hz:W.heap.size<=z):¬(z=bm\/z∈S.map (·.2.1)):=by
 rintro (rfl | e)
 ·obtain⟨A,E,hb,_⟩:=h.st.mp.mp
  have:=hb.lt;omega
 ·obtain⟨x,q,rfl⟩:=bH.1 e
  obtain⟨H,hb,_⟩:=(h.st.mp.items x q).cells
  have:=hb.lt;omega
theorem jkA{W:vW}{b:Nat}(xs:List Chg){T:TypeId}(hB:Blk W b (.cells (jdB xs).toArray T)):RdC W (.slice (some ⟨b,0,none⟩) xs.length xs.length) xs:=
 .inr ⟨b,0,xs.length,rfl,hB.lt,bM _,fun j x e=>by
  obtain⟨o,q,z⟩:=jex xs j x e
  exact⟨by rw[cM];exact hB.cellL o,by rw[cM];exact hB.cellL q,by rw[cM];exact hB.cellL z⟩⟩
theorem jyM:makesN twP dwC (rootM dwQ)=0:=by unfold makesN;rw[if_pos dw_e,dw_a,if_pos rfl]
theorem jyN:makesN twP [] (rootM dwQ)=9:=by unfold makesN;rw[if_pos jyK,jyG,if_neg (fun e=>jxz e.symm)]
theorem jsC(x:vB):(x.toList == x.toList)=true:=by rw[jft];exact decide_eq_true rfl
theorem jms(w:vW)(hc:jbV w)(he:ErrT w):vR 21 #[] w (.bool true):=by
 have HC:=Hd hc;have X:=Hd he;clear hc he;go_enter Tryz.func21,Tryz.ntmps21;go_wp2_with fail
 have Z:=(ExtR w).alloc (.cells (jb8 twP).toArray 71);refine (jn6 _ (HC.o.ext Z) (X.o.ext Z) _ twP (juh w twP 71) (by show 2<=9223372036854775807;omega) jxA).mono ?_;rintro e w2 (⟨rfl,hE,d8⟩ |⟨s,bm,S,rfl,hH⟩)
 ·exact absurd ⟨jxv,tw_p,jvH⟩ d8
 rw[show shaB (jav twP).text=rootM twP from rfl];have b1:=Hd Z;have b2:=Hd (hH.tst.more jqZ);have HM:=Hd hH.has;clear hH Z;go_wp2_with fail
 have c2:=(ExtR w2).alloc (.cells (jdB dwC).toArray 59);have b3:=Hd (b2.o.grow c2);have c3:=Hd (jug w2 dwC 59);have b4:Ext w (w2.alloc (.cells (jdB dwC).toArray 59)):=b1.o.trans b3.o.ext;have hn:(newM S (ja2 twP dwC)).length<=1:=by rw[dw_a,jv9 dw_b];exact bM _
 have b5:=jge (HC.o.ext b4) (X.o.ext b4) b3.o vI jjc jnR HM.o _ dwC c3.o (by show 2<=9223372036854775807;omega) jqY vI vI dw_e (by rw[dw_a];exact jxw) hn vI (bM _);rw[dw_a]at b5;clear c2 hn;refine b5.mono ?_;rintro e w4 ⟨rfl,S4,a2,c4,c5,c9⟩;have a3:=Hd ((Blk.new w2 (.cells (jdB dwC).toArray 59)).keeps c9 (b2.o.o (bM _)));have z:=Hd a2;have d0:=Hd c4;have E:=Hd (c5.more jjc jqZ HM.o);have hK:jdr S4 ⟨#[63]⟩=false:=by unfold jdr;rw[jyS z.o.kp vI];rfl
 have HK:=Hd hK;have a4:Hid (AllN S4):=a2.kp.nodes jnR;have a5:Hid (∀ x∈jao (jav twP),x∈dwU):=fun x hx=>jqZ x (jbJ.1 hx);have d1:Hid (∀ x∈jao (jav dwQ),x∈dwU):=fun x hx=>jxw x (jbJ.1 hx);have O:Hid (Ext w w4):=b1.o.trans a2.ext;clear a2 c4 c5 c9 b5 hK b3 b2 HM c3 b4 b1
 obtain⟨cb,d2⟩:=vE w2.heap.size
 rw[<-d2]at a3 ⊢;clear d2;go_wp2_with fail
 have hO:=jjt w4 s bm 2000 S4 z.o.st E.o d0.o jjc a5.o d1.o;unfold OfP at hO;rw[jyH]at hO;refine hO.mono ?_;rintro e w5 ⟨v5,rfl,b6⟩;have d3:=Hd b6.rdT;have b7:=Hd b6.ext;clear b6 hO;go_wp2_with fail
 have hO:=jjt w5 s bm 2000 S4 (z.o.st.ext b7.o) E.o E.o jjc a5.o a5.o;unfold OfP at hO;rw[jyJ]at hO;refine hO.mono ?_;rintro e w6 ⟨v6,rfl,a9⟩;have b8:=Hd (b7.o.trans a9.ext);have d4:=Hd (d3.o.ext a9.ext)
 obtain⟨a6,c6,rfl⟩:=a9.sl
 clear a9 hO b7 d3;go_wp2_with fail
 obtain⟨B,hB,hF⟩:=jlv w6 s bm 2000 S4 (z.o.st.ext b8.o) a4.o (by have:=z.o.len;omega) E.o d0.o jjc a5.o d1.o
 obtain rfl:=dw_f hB;unfold jnu at hF;rw[dw_s]at hF;refine hF.mono ?_;rintro e w7 ⟨v7,rfl,K⟩;have b0:=Hd (b8.o.trans K.ext);have d5:=Hd (d4.o.ext K.ext)
 obtain⟨a7,c7,rfl⟩:=K.sl
 obtain⟨g7,rfl⟩:=jgC K vI
 have q7:=jed K.own (j:=0) (u:=.string (rootM dwQ)) vF;have Q7:=Hd q7;clear K hF hB b8 d4 q7;go_wp2_with fail
 have d6:=joS w7 s bm 2000 S4 (z.o.st.ext b0.o) a4.o E.o (.slice (some ⟨cb,0,none⟩) 2 2) dwC (jkA dwC (a3.o.keeps b0.o (fun h=>h))) (by show 2<=9223372036854775807;omega) jqY;refine d6.mono ?_;intro e w8 hU;unfold jp6 at hU;rw[if_pos dw_e]at hU;unfold OfP at hU;rw[dw_a,jyI]at hU
 obtain⟨v8,rfl,H⟩:=hU
 have b9:=Hd (b0.o.trans H.ext);have d7:=Hd (d5.o.ext H.ext);have Q8:=Hd (jaa Q7.o H.ext)
 obtain⟨a8,c8,rfl⟩:=H.sl
 obtain⟨g8,rfl⟩:=jgC H vI
 have q9:=H.own.cellAt 5 vI;have Q9:=Hd (show w8.cell? ⟨g8,5,none⟩=some (.bool true)from q9);clear H d6 b0 d5 Q7 q9;go_wp2_with fail
 refine vC (jyY w8 s bm 2000 S4 (z.o.st.ext b9.o) (rootM twP) ⟨#[63]⟩ (by rw[HK.o,Bool.and_false])) fun w9 Q=>?_;have c0:=Hd (b9.o.trans Q);have d9:=Hd (d7.o.ext Q);have Q8:=Hd (jaa Q8.o Q);have Q9:=Hd (jaa Q9.o Q);clear Q b9 d7;go_wp2_with fail
 refine vC (jst w9 v5 (.slice (some ⟨cb,0,none⟩) 2 2) dwC d9.o (jkA dwC (a3.o.keeps c0.o (fun h=>h))) (by show 2<=1000000;omega)) fun e0 J=>?_;have q:=Hd (c0.o.trans J);have q8:=jaa Q8.o J;have q9:=jaa Q9.o J;have hq:=jsC (rootM dwQ);clear J c0;go_wp2_with fail
 have hM:=jgo e0 (HC.o.ext (O.o.trans q.o)) (X.o.ext (O.o.trans q.o)) s bm 2000 S4 (z.o.st.ext q.o) a4.o E.o (.slice (some ⟨cb,0,none⟩) 2 2) dwC (jkA dwC (a3.o.keeps q.o (fun h=>h))) (by show 2<=9223372036854775807;omega) jqY (rootM dwQ);rw[jyM]at hM;refine hM.mono ?_;rintro e e1 ⟨rfl,a0⟩;have A:=Hd (q.o.trans a0);clear a0 hM q q8 q9 hq;go_wp2_with fail
 have hM:=jgo e1 (HC.o.ext (O.o.trans A.o)) (X.o.ext (O.o.trans A.o)) s bm 2000 S4 (z.o.st.ext A.o) a4.o E.o (.slice none 0 0) [] (.inl ⟨_,_,rfl,rfl⟩) (cB _) (fun c hc=>(cJ hc).elim) (rootM dwQ);rw[jyN]at hM;refine hM.mono ?_;rintro e e2 ⟨rfl,a1⟩;have c1:=Hd (A.o.trans a1);clear a1 hM A;go_wp2_with fail
 go_ret
 exact⟨rfl,O.o.trans c1.o⟩
def jw4(l:vL)(w:vW)(e:Ending)(w':vW):Prop:=∃ a n c k L,e=.returned (.tuple #[.slice a n c,.int .i64 k])/\SRow w w' (.slice a n c) n L/\n=L.length/\n<=121/\k=jap l/\(jap l=0->L=jay l)
theorem jip(w:vW)(hc:jbV w)(v:vV)(l:vL)(hv:RdP w v l)(hn:l.length<=9223372036854775807)(hs:jeN l) :
  vQ 30 #[v] w (jw4 l w):=by
 by_cases h:jap l=0
 ·refine (joo w v l hc hv h).mono ?_
  rintro e w' ⟨u,n,rfl,o⟩;have o:SRow w w' u n (jay l):=o;have q:(jay l).length=n:=by have:=o.len;simpa using this
  obtain⟨a,c,rfl⟩:=o.sl
  exact⟨a,n,c,0,_,rfl,o,q.symm,by rw[<-q];exact jcW h,h.symm,fun _=>rfl⟩
 ·refine (jlU w v l hv hn hs h).mono ?_
  rintro e w' ⟨rfl,z⟩
  exact⟨none,0,0,jap l,[],rfl,ORow.nil _ _ z,rfl,by omega,rfl,fun A=>absurd A h⟩
theorem jf7{ops:Array Oper}{rest:List Oper}{d:Option Tmp}{ty:TypeId}{pos:String}{af:Array Edge}{a:Act}{w0 w1 w:vW}{Q:Exit->Act->vW->Prop}{s x:Operand}{v pv:vV}{n m N:Nat}{xs:List vV}{ys:vM}
  (hR:ORow 9 1 w0 w v n xs) (hP:SRow w1 w pv m ys) (hN:n+m=N) (hs:a.eval s=v) (hx:a.eval x=pv) (h63:N<=1000000)
  (h:∀ o w',ORow 9 1 w0 w' o N (xs++ys.map Value.string)->wpList Tryz.prog ops Q rest (a.put d o) w') :
  wpList Tryz.prog ops Q (⟨d,.call { callee:=.builtin .append,args:=#[s,x],argTypes:=#[22,22] },ty,pos,af,none⟩ :: rest) a w:=by
 subst hN
 obtain⟨X,⟨rfl,q⟩ |⟨g,z,A,rfl,q,Z,h5,h6,h7⟩⟩:=hP.own
 ·have E:ys=[]:=by
   have:=hP.len
   rw[q]at this;exact bE (by simpa using this)
  subst E
  obtain⟨ad,c,rfl⟩:=hR.sl
  have H:n<=c:=by
   obtain⟨_,⟨e,e2⟩ |⟨g,z,A,e,_,_,k5,_⟩⟩:=hR.own
   ·omega
   ·obtain⟨_,_,e⟩:=fR e;omega
  refine jf6 Tryz.sStrs hs hx H (h _ _ ?_);subst q;simpa using hR
 ·exact ja7 Tryz.sStrs hR s x rfl hs hx (fun j u J=>hP.own.cells (g:=g) rfl j u J) (fun u K=>by obtain⟨y,_,rfl⟩:=bH.1 K;rfl) (by have:=hP.len;simpa using this) rfl (by unfold maxLen;omega) vO (fun o w' O _ _=>h o w' O)
def jwM(w:vW)(e:Ending)(w':vW):Prop:=e=.returned (.tuple #[.pointer none,.string ⟨#[]⟩,.string ⟨#[]⟩])/\Ext w w'
structure jiK(a b:vL)(more:vM)(w:World)(s bm:Nat)(S:vT)(w':World):Prop where
 fa:fewB a=true
 fb:fewB b=true
 ha:HasM S a
 hb:HasM S b
 inj:InjL (jay a++jay b++more)
 tst:Tst w w' s bm 2000 (jay a++jay b) S 250
 key:∀ k,k∈S.map (·.1)↔(∃ t∈jay a,k=ky t)\/∃ t∈jay b,k=ky t
 held:∀ k,jtJ (atL S k)=(if k=ky (jav a).text then 1 else 0)+(if k=ky (jav b).text then 1 else 0)
def jyh(a b:vL)(more:vM)(w:vW)(e:Ending)(w':vW):Prop:=jwM w e w'\/∃ s bm S,e=.returned (.tuple #[.pointer (some ⟨s,0,none⟩),.string (rootM a),.string (rootM b)])/\jiK a b more w s bm S w'
theorem jiK.nodes{a b:vL}{more:vM}{w w':vW}{s bm:Nat}{S:vT}(h:jiK a b more w s bm S w'):jhJ S:=h.tst.kp.nodes fun t e=>(bR.1 e).elim (jcj h.ha.ok t) (jcj h.hb.ok t)
theorem juO(w:vW)(hc:jbV w)(he:ErrT w)(u v mv:vV)(a b:vL)(mo:vM)(ha:RdP w u a)(hb:RdP w v b)(hna:a.length<=9223372036854775807)(hnb:b.length<=9223372036854775807)(hsa:jeN a)(hsb:jeN b){mn:Nat}(hm:w.ownsRow 0 9 1 mv mn (mo.map Value.string))(hmn:mn<=100000) :
  vQ 22 #[u,v,mv] w (jyh a b mo w):=by
 have HC:=Hd hc;have c5:=Hd he;have HA:=Hd ha;have HB:=Hd hb;have HN:=Hd (bB (bB hna hnb) (bB hsa hsb));have e9:=Hd hm
 obtain⟨ua,uc,rfl⟩:=ha.sl
 obtain⟨va,vc,rfl⟩:=hb.sl
 clear hc he ha hb hna hnb hsa hsb hm;go_enter Tryz.func22,Tryz.ntmps22;go_wp2_with fail
 refine vH (juX w _ b HB.o HN.o.1.2 HN.o.2.2) fun w1 A=>?_
 obtain⟨fb,b0⟩:=vE (fewB b)
 have f0:=Hd b0;rw[<-b0];clear b0;go_wp2_with fail
 have E:vQ 53 #[.slice ua a.length uc] w1 fun e w2=>∃ sp xr,e=.returned (.tuple #[.pointer sp,.string xr])/\Ext w1 w2/\(sp=none\/∃ s bm S,sp=some ⟨s,0,none⟩/\xr=rootM a/\jfD a w1 s bm S w2):=by
  refine (jn6 w1 (HC.o.ext A.o) (c5.o.ext A.o) _ a (HA.o.ext A.o) HN.o.1.1 HN.o.2.1).mono ?_;rintro e w2 (⟨rfl,hE,_⟩ |⟨s,bm,S,rfl,E⟩)
  ·exact⟨none,_,rfl,hE,.inl rfl⟩
  ·exact⟨_,_,rfl,E.ext,.inr ⟨s,bm,S,rfl,rfl,E⟩⟩
 refine E.mono ?_;rintro e w2 ⟨sp,xr,rfl,b1,c6⟩;have f1:=Hd c6;have f7:=Hd b1;have b2:=Hd (A.o.trans b1);clear E c6 b1;go_wp2_with fail
 refine (jip w2 (HC.o.ext b2.o) _ b (HB.o.ext b2.o) HN.o.1.2 HN.o.2.2).mono ?_;rintro e w6 ⟨ya,yn,yc,k1,Y,rfl,K,c7,e7,c8,c9⟩;have d0:=Hd K;have b3:=Hd (b2.o.trans K.ext);have b4:=Hd (bB c7 (bB c8 c9));have a0:=Hd K.ext;clear K c7 c9 c8;go_wp2_with fail
 refine (jip w6 (HC.o.ext b3.o) _ a (HA.o.ext b3.o) HN.o.1.1 HN.o.2.1).mono ?_;rintro e Z ⟨xa,xn,xc,k2,X,rfl,hX,d1,e8,d2,d3⟩;have d4:=Hd hX;have b5:=Hd (d0.o.mono hX.ext);have b6:=Hd (b3.o.trans hX.ext);have a1:=Hd (a0.o.trans hX.ext);have f2:=Hd (bB d1 (bB d2 d3));have O:Hid (SRow (bare Z) Z mv mn mo):=ORow.any (jbl e9.o b6.o);clear hX d1 d3 d2 a0 d0
 obtain⟨N,hN⟩:∃ N,xn+yn=N:=⟨_,rfl⟩
 obtain⟨N2,d5⟩:∃ N2,N+mn=N2:=⟨_,rfl⟩
 have b9:N<=1000000:=vO
 have c0:xn<=1000000:=vO
 have a2:N2<=1000000:=vO
 have d6:=Hd (bB hN d5);have d7:=Hd (show ORow 9 1 Z (Z.alloc (.cells #[] 9)) (.slice (some ⟨Z.heap.size,0,none⟩) 0 0) 0 []from ORow.lit #[] (ExtR Z) vI rfl);have d8:=Hd (d4.o.mono ((ExtR Z).alloc (.cells #[] 9)));have f3:=Hd (O.o.mono ((ExtR Z).alloc (.cells #[] 9)));clear hN d5;go_wp2_with (first
  |(at_builtin;(refine jf7 d7.o d8.o (cM xn) rfl rfl c0 ?_;intro v8 w8 r1;have d9:=Hd r1;have e0:=Hd (b5.o.mono r1.ext);have f4:=Hd (O.o.mono r1.ext);clear r1))
  |(at_builtin;(refine jf7 d9.o e0.o d6.o.1 rfl rfl b9 ?_;intro v9 w9 r2;have e1:=Hd r2;have e2:=Hd (O.o.mono r2.ext);clear r2))
  |(at_builtin;(refine jf7 e1.o e2.o d6.o.2 rfl rfl a2 ?_;intro f8 e3 r3;have e4:=Hd r3;obtain⟨aa,ac,c2⟩:=r3.sl;subst c2;clear r3)))
 have H:=Hd (show SRow Z e3 (.slice aa N2 ac) N2 (X++Y++mo)from by have h:=e4.o;rw[cP, <-bY, <-bY]at h;exact h);have b7:=Hd (b6.o.trans H.o.ext);have a3:=Hd (a1.o.trans H.o.ext);have e5:=Hd (b5.o.mono H.o.ext);have c3:=Hd (show (X++Y++mo).length=N2 from by have:=H.o.len;simpa using this);clear d9 e1 e4 e0 f4 e2 f3 d7 d8 b6 d4 b5 a1;refine (jmC e3 (HC.o.ext b7.o) _ (X++Y++mo) (SRow.rd H.o) (by rw[c3.o];exact a2)).mono ?_;rintro e Q ⟨q,rfl,hb,hE⟩;have z:=Hd (b7.o.trans hE);have a4:=Hd (a3.o.trans hE);have c4:=Hd (e5.o.mono hE);have f5:=Hd hb;clear hE hb a3 e5 b7 H;cases fb with
 | false =>
  go_wp2_with fail
  refine bodyPost_ret (results_tmp3 rfl _ _ _) rfl ?_;exact .inl ⟨rfl,z.o⟩
 | true =>
 rcases f1.o with rfl |⟨s,bm,S,rfl,rfl,E⟩
 ·go_wp2_with fail
  refine bodyPost_ret (results_tmp3 rfl _ _ _) rfl ?_;exact .inl ⟨rfl,z.o⟩
 by_cases hk:k1=0
 case neg =>
  have c1:(k1 != 0)=true:=by simpa using hk
  go_wp2_with fail
  refine bodyPost_ret (results_tmp3 rfl _ _ _) rfl ?_;exact .inl ⟨rfl,z.o⟩
 subst hk;cases q with
 | false =>
  go_wp2_with fail
  refine bodyPost_ret (results_tmp3 rfl _ _ _) rfl ?_;exact .inl ⟨rfl,z.o⟩
 | true =>
 have J:jap b=0:=b4.o.2.1.symm;have e6:=f2.o.2.2 E.ok;have a8:=b4.o.2.2 J;have HI:=Hd (show InjL (jay a++jay b++mo) by have:=f5.o.1 rfl;rw[e6,a8]at this;exact this);have hU:InjL (jay a++jay b):=fun x hx y hy e=>HI.o x (cA _ hx) y (cA _ hy) e;have b8:=c4.o;rw[a8]at b8;have a5:=b4.o.1;rw[a8]at a5;have f9:=Hd (E.tst.grow a4.o);have hT:=(E.tst.grow a4.o).more (V:=jay a++jay b) (fun t h=>cA _ h);have a9:=hT.bds vI;have a6:=jmz Q (HC.o.ext z.o) (c5.o.ext z.o) s bm 2000 S hT.st _ (jay b) (SRow.rd b8) False (jgN (jcj J)) vO (jav b).text (jho J).head vI vI a9.1 a9.2.1 a9.2.2;have a7:=Hd (fun(e:Ending) (W':vW) (hA:jkU False Q s bm 2000 S (jay b) e W')=>(show e=.returned (.tuple #[.string (rootM b),.int .i64 0])/\∃ S',jiK a b mo w s bm S' W' from by
  rcases jnv Q Q hU hT.kp (jos S J) (fun t h=>dD _ h) vO (ExtR Q) hA with⟨_,_,h3⟩ |⟨S',K⟩
  ·have:=E.len
   omega
  ·refine⟨K.res,S',E.few,f0.o.symm,K.add.more hU (fun t h=>cA _ h) E.has,K.add.has hU J (fun t h=>dD _ h),HI.o,?_,fun k=>?_,fun k=>?_⟩
   ·have h1:=hT.add (k:=121) vO vI K
    refine⟨A.o.trans h1.ext,h1.st,h1.kp,by have:=h1.len;omega,bK A.o.size h1.bnew,fun x hx=>bK A.o.size (h1.new x hx),fun x hx=>by have:=h1.hb x hx;omega⟩
   ·rw[K.add.key,E.key]
   ·rw[K.add.held,E.held]))
 clear hT a9 b8 a8 e6 E hU a5 J;go_wp2_with fail
 refine a6.mono ?_;intro e W' hA
 obtain⟨rfl,S',hB⟩:=a7.o e W' hA
 have f6:=Hd hB;clear hA hB a6;go_wp2_with fail
 refine bodyPost_ret (results_tmp3 rfl _ _ _) rfl ?_;exact .inr ⟨s,bm,S',rfl,f6.o⟩
end
section
open Go Go.RowKit
theorem jqW:∀ l m:vL,(jaN m l).map Chg.key=(jaN l m).map Chg.key:=by
 intro l m
 fun_induction jaN l m with
 | case1=>simp[jaN]
 | case2 p l ih=>rw[jaN,bL,bL,ih]
 | case3 q m ih=>rw[jaN,bL,bL,ih]
 | case4 p l q m hlt ih =>
  rw[jaN,if_neg (by rw[jim _ _ hlt];simp),if_pos hlt,bL,bL,ih]
 | case5 p l q m hlt hgt ih =>
  rw[jaN,if_pos hgt,bL,bL,ih]
 | case6 p l q m hlt hgt hv ih =>
  have o:(q.2.toList == p.2.toList)=true:=by
   have h:p.2.toList=q.2.toList:=by simpa using hv
   rw[h];simp
  rw[jaN,if_neg hgt,if_neg hlt,if_pos o,ih]
 | case7 p l q m hlt hgt hv ih =>
  have o:¬(q.2.toList == p.2.toList)=true:=fun e=>hv (by
   have h:q.2.toList=p.2.toList:=by simpa using e
   rw[h];simp)
  have z:p.1=q.1:=jrt _ _ (by simpa using hlt) (by simpa using hgt);rw[jaN,if_neg hgt,if_neg hlt,if_neg o,bL,bL,ih];show p.1 :: _=q.1 :: _;rw[z]
theorem jpk(l m:vL):(jbP m l).map Chg.key=(jbP l m).map Chg.key:=by
 unfold jbP
 by_cases h:jap l=0/\jap m=0
 ·rw[if_pos h,if_pos ⟨h.2,h.1⟩,jqW]
 ·rw[if_neg h,if_neg fun e=>h ⟨e.2,e.1⟩]
end
section
open Go Go.RowKit
attribute [local go_sem] Oper.semAt_some
theorem jfS{l m:vL}(h1:jap l=0)(h2:jap m=0):∀ c∈jbP l m,c.key.size<=9223372036854775807/\c.value.size<=9223372036854775807:=by
 have o:=jdv h1 h2;intro c q;have hb:c.bad=false:=by
  rw[gA];intro e
  have:(jbP l m).any Chg.bad=true:=fE.2 ⟨c,q,e⟩
  rw[o.fine]at this;cases this
 unfold Chg.bad jdG jcX at hb;cases hg:c.gone with
 | true =>
  rw[hg]at hb;simp at hb;rw[hb.2]
  exact⟨by omega,by simp⟩
 | false =>
  rw[hg]at hb;simp at hb;omega
theorem jh3{l m:vL}(h1:jap l=0)(h2:jap m=0):ja3 l (jbP l m)=0/\ja2 l (jbP l m)=m:=(jdv h1 h2).after h1 h2
theorem jj2{l m:vL}(h1:jap l=0)(h2:jap m=0):(jbP l m).length<=80:=jja (jau h1).len (jau h2).len
def jyf(w:vW)(l:vL)(cs:List Chg)(e:Ending)(w':vW):Prop:=∃ a c k m,e=.returned (.tuple #[.slice a m.length c,.int .i64 k])/\Ext w w'/\RdP w' (.slice a m.length c) m/\m.length<=40/\jeN m/\(ja3 l cs=0->m=ja2 l cs)
theorem jqo(w:vW)(v u:vV)(l:vL)(cs:List Chg)(hv:RdP w v l)(hu:RdC w u cs)(hn:l.length<=9223372036854775807)(hnc:cs.length<=9223372036854775807)(hs:jeN l)(hsc:∀ c∈cs,c.key.size<=9223372036854775807/\c.value.size<=9223372036854775807) :
  vQ 29 #[v,u] w (jyf w l cs):=by
 refine (jjN w v u l cs hv hu hn hnc hs hsc).mono ?_;intro e w' o;unfold jdK at o
 by_cases h0:ja3 l cs=0
 ·rw[if_pos h0]at o
  obtain⟨r,rfl,q⟩:=o
  have q:ERow w w' r (ja2 l cs).length (ja2 l cs):=q;have z:=jau (jcb h0)
  obtain⟨a,c,rfl⟩:=q.sl
  exact⟨a,c,0,_,rfl,q.ext,q.rd,z.len,fun p A=>by have:=z.size p A;omega,fun _=>rfl⟩
 ·rw[if_neg h0]at o
  obtain⟨rfl,E⟩:=o
  exact⟨none,0,_,[],rfl,E,.inl ⟨_,_,rfl,rfl⟩,cB _,fun p A=>(cJ A).elim,fun h=>absurd h h0⟩
def jyk(bm:Nat)(S:vT)(q:Nat):Prop:=¬(q=bm\/q∈S.map (·.2.1))
structure FrC(w:World)(bm:Nat)(S:vT)(v:Value)(xs:List Chg):Prop where
 own:w.ownsRow 0 59 3 v xs.length (jdB xs)
 free:∀ q,v.ownBlock=some q->jyk bm S q
theorem FrC.ext{w w':vW}{bm:Nat}{S:vT}{v:vV}{xs:List Chg}(h:FrC w bm S v xs)(k:Ext w w'):FrC w' bm S v xs:=⟨jbl h.own k,h.free⟩
theorem FrC.rd{w:vW}{bm:Nat}{S:vT}{v:vV}{xs:List Chg}(h:FrC w bm S v xs):RdC w v xs:=CRow.rdT (ORow.any h.own)
theorem FrC.keep{w w':vW}{bm:Nat}{S S':vT}{v:vV}{xs:List Chg}(h:FrC w bm S v xs){U L:vM}{m:vL}(hA:AddK w U S m L S')(k:jad (fun z=>z=bm\/z∈S.map (·.2.1)) w w'):FrC w' bm S' v xs:=
 ⟨ja4 h.own k h.free,fun q o=>by
  rintro (e | e)
  ·exact h.free q o (.inl e)
  ·obtain⟨x,E,e⟩:=bH.1 e
   have A:=(World.ownsRow.lt h.own q o).2;rcases hA.blk x E with hb | hb
   ·exact h.free q o (.inr (by rw[<-e];exact hb))
   ·rw[<-e]at A;omega⟩
theorem FrC.made{W0 w w':vW}{s bm:Nat}{room:Int}{U:vM}{S:vT}{n:Nat}(hT:Tst W0 w s bm room U S n){v:vV}{xs:List Chg}(hR:CRow w w' v xs.length xs):FrC w' bm S v xs:=⟨hR.own,fun q e=>hT.o (hR.new q e)⟩
theorem jlT{U V:vM}(h:jkV U)(k:jkV V):jkV (U++V):=fun t e=>(bR.1 e).elim (h t) (k t)
theorem jxm(w:vW)(hc:jbV w)(he:ErrT w)(u v z:vV)(a b:vL)(cs:List Chg)(ha:RdP w u a)(hb:RdP w v b)(hz:RdC w z cs)(hna:a.length<=9223372036854775807)(b8:b.length<=9223372036854775807)(hnc:cs.length<=9223372036854775807)(hsa:jeN a)(hsb:jeN b)(hsc:∀ c∈cs,c.key.size<=9223372036854775807/\c.value.size<=9223372036854775807) :
  vR 5 #[u,v,z] w (.bool true):=by
 have HC:=Hd hc;have a5:=Hd he;have HA:=Hd ha;have HB:=Hd hb;have HZ:=Hd hz;have HN:=Hd (bB (bB hna b8) (bB hsa hsb));have O:=Hd (bB hnc hsc)
 obtain⟨ua,uc,rfl⟩:=ha.sl
 obtain⟨va,vc,rfl⟩:=hb.sl
 obtain⟨za,zc,rfl⟩:=hz.sl
 clear hc he ha hb hna b8 hsa hsb hz hnc hsc;go_enter Tryz.func5,Tryz.ntmps5;go_wp2_with fail
 refine vH (jms w HC.o a5.o) fun w1 d7=>?_;go_wp2_with fail
 refine (jqo w1 _ _ a cs (HA.o.ext d7.o) (HZ.o.ext d7.o) HN.o.1.1 O.o.1 HN.o.2.1 O.o.2).mono ?_;rintro e w2 ⟨ma,mc,mk,m,rfl,g1,b5,g2,g3,g4⟩;have g5:=Hd (d7.o.trans g1);have i5:=Hd b5;have d8:=Hd (bB g2 (bB g3 g4));clear g1 b5 g2 g3 g4;go_wp2_with fail
 refine (jip w2 (HC.o.ext g5.o) _ m i5.o (by have:=d8.o.1;omega) d8.o.2.1).mono ?_;rintro e w3 ⟨xa,xn,xc,xk,X,rfl,hX,i6,a4,g6,g7⟩;have HX:=Hd hX;have H:=Hd (g5.o.trans hX.ext);have g8:=Hd (bB a4 (bB g6 g7));clear hX i6 a4 g6 g7;go_wp2_with fail
 refine (juO w3 (HC.o.ext H.o) (a5.o.ext H.o) _ _ _ a b X (HA.o.ext H.o) (HB.o.ext H.o) HN.o.1.1 HN.o.1.2 HN.o.2.1 HN.o.2.2 HX.o.own (by have:=g8.o.1;omega)).mono ?_;rintro e w4 (⟨rfl,hE⟩ |⟨s,bm,S,rfl,hY⟩)
 ·have b9:=Hd (H.o.trans hE)
  clear hE;go_wp2_with fail
  refine vH (jq2 w4 _ cs (HZ.o.ext b9.o) O.o.1 O.o.2) fun w5 hE=>?_;have d9:=Hd (b9.o.trans hE);go_wp2_with fail
  go_ret
  exact⟨rfl,d9.o⟩
 have HY:=Hd hY;have b9:=Hd (H.o.trans hY.tst.ext)
 obtain⟨ra,e0⟩:=vE (rootM a)
 obtain⟨rb,e1⟩:=vE (rootM b)
 have J:=Hd (bB e0 e1);rw[<-e0, <-e1];clear e0 e1 hY;go_wp2_with fail
 refine vH (jq2 w4 _ cs (HZ.o.ext b9.o) O.o.1 O.o.2) fun w5 g9=>?_;have d9:=Hd (b9.o.trans g9)
 obtain⟨fc,h2⟩:=vE (fewC cs)
 rw[<-h2];clear h2;cases fc with
 | false =>
  go_wp2_with fail
  go_ret
  exact⟨rfl,d9.o⟩
 | true =>
 have d3:=bB HY.o.ha.ok HY.o.hb.ok;have A:=Hd d3;have h3:InjL (jay a++jay b):=fun x hx y hy e=>HY.o.inj x (cA _ hx) y (cA _ hy) e;have e2:=Hd h3;have h4:jkV (jay a++jay b):=jlT (jcj d3.1) (jcj d3.2);have d4:=Hd h4;have h5:Hid (∀ x∈jao (jav a),x∈jay a++jay b):=fun x hx=>cA _ (jbJ.1 hx);have h6:Hid (∀ x∈jao (jav b),x∈jay a++jay b):=fun x hx=>dD _ (jbJ.1 hx);have d5:=Hd (HY.o.tst.grow g9.o);clear d3 h3 h4;go_wp2_with fail
 have h1:=jjt w5 s bm 2000 S d5.o.st HY.o.ha HY.o.hb e2.o h5.o h6.o;rw[<-J.o.1, <-J.o.2]at h1;refine h1.mono ?_;rintro e w6 ⟨v6,rfl,c0⟩
 obtain⟨d,hd⟩:=vE (jbP a b)
 have e3:=jh3 A.o.1 A.o.2;have e4:=jfS A.o.1 A.o.2;have e5:=jj2 A.o.1 A.o.2;rw[<-hd]at c0 e3 e4 e5;have HD:=Hd (bB e3 (bB e4 e5));have e6:=Hd (d5.o.grow c0.ext);have e7:=Hd (FrC.made d5.o c0)
 obtain⟨da,dc,rfl⟩:=c0.sl
 clear c0 h1 hd e3 e4 e5;go_wp2_with fail
 have q:=H.o.trans e6.o.ext;have b8:jap (ja2 a d)=0:=by rw[HD.o.1.2];exact A.o.2
 have E:=jge (HC.o.ext q) (a5.o.ext q) e6.o vI e2.o d4.o HY.o.ha _ d e7.o.rd (by have:=HD.o.2.2;omega) HD.o.2.1 vI vI HD.o.1.1 (fun t K=>by rw[HD.o.1.2]at K;exact dD _ K) (jg5 b8) vI vI;rw[HD.o.1.2, <-J.o.1, <-J.o.2]at E;clear b8 q;refine E.mono ?_;rintro e w7 ⟨rfl,S1,h7,h8,e8,h9⟩;have i0:=Hd (e7.o.keep e8 h9);have c2:=Hd h7;have c3:=Hd (e8.more e2.o (fun t K=>cA _ K) HY.o.ha);have i1:=Hd h8;clear h7 h8 e8 h9 E;have hq:(rb.toList != rb.toList)=false:=by simp
 go_wp2_with fail
 have q:=H.o.trans c2.o.ext;have hM:=jgo w7 (HC.o.ext q) (a5.o.ext q) s bm 2000 S1 c2.o.st (c2.o.kp.nodes d4.o) c3.o _ d i0.o.rd (by have:=HD.o.2.2;omega) HD.o.2.1 rb;have i2:makesN a d rb=0:=by unfold makesN;rw[if_pos HD.o.1.1,HD.o.1.2,if_pos J.o.2.symm]
 rw[i2, <-J.o.1]at hM;refine hM.mono ?_;rintro e w8 ⟨rfl,hE⟩;have a6:=Hd (c2.o.grow hE);clear hE i2 hM q hq i0 e7 e6 d5;go_wp2_with fail
 have d6:=joS w8 s bm 2000 S1 a6.o.st (a6.o.kp.nodes d4.o) c3.o _ cs (HZ.o.ext (H.o.trans a6.o.ext)) O.o.1 O.o.2;rw[<-J.o.1]at d6;refine d6.mono ?_;intro e w9 hU;unfold jp6 at hU
 by_cases h0:ja3 a cs=0
 case neg =>
  rw[if_neg h0]at hU
  obtain⟨rfl,hE⟩:=hU
  have i7:=Hd (H.o.trans (a6.o.ext.trans hE))
  obtain⟨x,hx⟩:=vE (ja3 a cs)
  rw[<-hx]at h0 ⊢;have c1:(x != 0)=true:=by simpa using h0
  clear hE hx d6;go_wp2_with fail
  go_ret
  exact⟨rfl,i7.o⟩
 rw[if_pos h0]at hU
 obtain⟨v9,rfl,b6⟩:=hU
 have hm:=d8.o.2.2 h0;have H0:=Hd h0;rw[<-hm]at b6;have a7:jap m=0:=by rw[hm];exact jcb h0
 have a8:=Hd (bB a7 hm);have hX:=g8.o.2.2 a7;have Q:=Hd (show InjL (jay a++jay b++jay m) by rw[<-hX];exact HY.o.inj);have e9:=Hd (show jkV (jay a++jay b++jay m)from jlT d4.o (jcj a7))
 obtain⟨du,f0⟩:∃ d,d=jbP m a:=⟨_,rfl⟩
 have a9:=jh3 a7 A.o.1;have b0:=jfS a7 A.o.1;have Z:=jj2 a7 A.o.1;rw[<-f0]at b6 a9 b0 Z;have a3:=Hd (bB a9 (bB b0 (bB Z f0)));have f1:=Hd ((a6.o.grow b6.ext).more (V:=jay a++jay b++jay m) (fun t K=>cA _ K));have i3:=Hd (FrC.made a6.o b6)
 obtain⟨ga,gc,rfl⟩:=b6.sl
 clear b6 d6 h0 hm a7 hX f0 a9 b0 Z;go_wp2_with fail
 obtain⟨rm,b5⟩:∃ r,r=rootM m:=⟨_,rfl⟩
 have a0:=Hd b5;have q:=H.o.trans f1.o.ext;have E:=jge (HC.o.ext q) (a5.o.ext q) f1.o vI Q.o e9.o c3.o _ cs (HZ.o.ext q) O.o.1 O.o.2 vI vI H0.o (fun t K=>by rw[<-a8.o.2]at K;exact dD _ K) (jg5 (by rw[<-a8.o.2];exact a8.o.1)) vI vI;rw[<-a8.o.2, <-J.o.1, <-b5]at E;clear q b5;refine E.mono ?_;rintro e j1 ⟨rfl,S2,hT,hM,hA,hk⟩;have b1:=Hd (i3.o.keep hA hk);have b2:=Hd hT;have c4:=Hd (hA.more Q.o (fun t K=>cA _ (cA _ K)) c3.o);have c5:=Hd (hA.more Q.o (fun t K=>cA _ (dD _ K)) i1.o);have b3:=Hd hM;clear hT hM hA hk E i3 f1 a6 c2;go_wp2_with fail
 have q:=H.o.trans b2.o.ext;have E:=jge (HC.o.ext q) (a5.o.ext q) b2.o vI Q.o e9.o b3.o _ du b1.o.rd (by have:=a3.o.2.2.1;omega) a3.o.2.1 vI vI a3.o.1.1 (fun t K=>by rw[a3.o.1.2]at K;exact cA _ (cA _ K)) (jg5 (by rw[a3.o.1.2];exact A.o.1)) vI vI;rw[a3.o.1.2, <-J.o.1, <-a0.o]at E;clear q;refine E.mono ?_;rintro e i8 ⟨rfl,S3,hT,hM,hA,hk⟩;have c6:=Hd (b1.o.keep hA hk);have a1:=Hd hT;have f2:=Hd (hA.more Q.o (fun t K=>cA _ (cA _ K)) c4.o);have f3:=Hd (hA.more Q.o (fun t K=>cA _ (dD _ K)) c5.o);have b4:=Hd (hA.more Q.o (fun t K=>dD _ K) b3.o);clear hT hM hA hk E b1 b2 c4 c5 b3 c3 i1;go_wp2_with fail
 have f4:Hid (∀ x∈jao (jav a),x∈jay a++jay b++jay m):=fun x hx=>cA _ (h5.o x hx);have f5:Hid (∀ x∈jao (jav b),x∈jay a++jay b++jay m):=fun x hx=>cA _ (h6.o x hx);have c7:Hid (∀ x∈jao (jav m),x∈jay a++jay b++jay m):=fun x hx=>dD _ (jbJ.1 hx);have h1:=jjt i8 s bm 2000 S3 a1.o.st b4.o f2.o Q.o c7.o f4.o;rw[<-J.o.1, <-a0.o]at h1;refine h1.mono ?_;rintro e i9 ⟨j2,rfl,hR⟩;rw[<-a3.o.2.2.2]at hR;have c8:=Hd (FrC.made a1.o hR);have c9:=Hd (c6.o.ext hR.ext);have a2:=Hd (a1.o.grow hR.ext)
 obtain⟨j3,j4,rfl⟩:=hR.sl
 clear hR h1 c6;go_wp2_with fail
 have h1:=jjt i9 s bm 2000 S3 a2.o.st b4.o f3.o Q.o c7.o f5.o;rw[<-J.o.2, <-a0.o]at h1;refine h1.mono ?_;rintro e j5 ⟨j6,rfl,hR⟩
 obtain⟨dw,i4⟩:∃ d,d=jbP m b:=⟨_,rfl⟩
 have a9:=jh3 a8.o.1 A.o.2;have b0:=jfS a8.o.1 A.o.2;have Z:=jj2 a8.o.1 A.o.2;rw[<-i4]at hR a9 b0 Z;have b7:=Hd (bB a9 (bB b0 Z));have f6:=Hd (FrC.made a2.o hR);have d0:=Hd (c9.o.ext hR.ext);have d1:=Hd (c8.o.ext hR.ext);have d2:=Hd (a2.o.grow hR.ext)
 obtain⟨ia,ic,rfl⟩:=hR.sl
 clear hR h1 c9 c8 i4 a9 b0 Z a2 a1;go_wp2_with fail
 have q:=H.o.trans d2.o.ext;have E:=jge (HC.o.ext q) (a5.o.ext q) d2.o vI Q.o e9.o b4.o _ dw f6.o.rd (by have:=b7.o.2.2;omega) b7.o.2.1 vI vI b7.o.1.1 (fun t K=>by rw[b7.o.1.2]at K;exact cA _ (dD _ K)) (jg5 (by rw[b7.o.1.2];exact A.o.2)) vI vI;rw[b7.o.1.2, <-J.o.2, <-a0.o]at E;clear q;refine E.mono ?_;rintro e j0 ⟨rfl,S4,hT,hM,hA,hk⟩;have f7:=Hd (d0.o.keep hA hk);have f8:=Hd (d1.o.keep hA hk);have f9:=Hd (H.o.trans hT.ext);clear hT hM hA hk E d0 d1;have j7:=jsC ra;have j8:=jsC rb;have Z:=a3.o.2.2.1;go_wp2_with fail
 refine vH (jst j0 _ _ du f7.o.rd f8.o.rd vO) fun j9 hE=>?_;have g0:=Hd (f9.o.trans hE);go_wp2_with fail
 go_ret
 exact⟨rfl,g0.o⟩
end
section
open Go Go.RowKit
section
variable {w:vW} {s bm:Nat} {room:Int} {S:vT} {L:vM} {top:vB} {G:vT} {M:vM} {e:Ending} {w':vW}
end
end
section
open Go Go.RowKit
noncomputable def allT(P:PA):vM:=textP P :: underP P
theorem jnB{t:vB}(h:32<=t.size):t∈bigs t:=by
 unfold bigs;rw[if_neg vO];exact bO.2 rfl
theorem jfg{q:vB}{n:PA}{t:vB}:t∈underP (.ext q n)↔t∈bigs (textP n)\/t∈underP n:=by
 rw[underP,bR]
theorem jb9{v:vB}{ks:Nat->PA}{t:vB}:t∈underP (.br v ks)↔∃ i,i < 16/\(ks i).isNil=false/\(t∈bigs (textP (ks i))\/t∈underP (ks i)):=by
 rw[underP,cO];constructor
 ·rintro⟨i,o,h⟩
  cases e:(ks i).isNil with
  | true=>rw[e,if_pos rfl]at h;cases h
  | false =>
   rw[e,if_neg vI,bR]at h
   exact⟨i,dJ.1 o,e,h⟩
 ·rintro⟨i,o,e,h⟩
  refine⟨i,dJ.2 o,?_⟩
  rw[e,if_neg vI,bR];exact h
theorem jel:∀ (P:PA) {t:vB},t∈underP P->32<=t.size
 | .nil,t,h=>by rw[underP]at h;cases h
 | .no,t,h=>by rw[underP]at h;cases h
 | .leaf _ _,t,h=>by rw[underP]at h;cases h
 | .ext q n,t,h=>by
  rcases jfg.1 h with h | h
  ·exact (jet h).2
  ·exact jel n h
 | .br v ks,t,h=>by
  obtain⟨i,_,_,h | h⟩:=jb9.1 h
  ·exact (jet h).2
  ·exact jel (ks i) h
theorem jlC{v:vB}{ks:Nat->PA}{i:Nat}(hi:i < 16)(hn:(ks i).isNil=false){t:vB}(h:t∈allT (ks i))(hb:32<=t.size):t∈underP (.br v ks):=by
 refine jb9.2 ⟨i,hi,hn,?_⟩;rcases bJ.1 h with rfl | h
 ·exact .inl (jnB hb)
 ·exact .inr h
theorem jjq{q:vB}{n:PA}{t:vB}(h:t∈allT n)(hb:32<=t.size):t∈underP (.ext q n):=by
 refine jfg.2 ?_;rcases bJ.1 h with rfl | h
 ·exact .inl (jnB hb)
 ·exact .inr h
theorem jem{a:vB}{P:PA}{t:vB}(h:t∈underP (jbY a P)):t∈allT P:=by
 unfold jbY at h
 by_cases h0:a.size=0
 ·rw[if_pos h0]at h;exact bC _ h
 rw[if_neg h0]at h;cases P with
 | nil =>
  have h:t∈underP .no:=h;rw[underP]at h;cases h
 | no =>
  have h:t∈underP .no:=h;rw[underP]at h;cases h
 | leaf q v =>
  have h:t∈underP (.leaf (a++q) v):=h;rw[underP]at h;cases h
 | ext q n =>
  have h:t∈underP (.ext (a++q) n):=h;exact bC _ (jfg.2 (jfg.1 h))
 | br v ks =>
  have h:t∈underP (.ext a (.br v ks)):=h;rcases jfg.1 h with h | h
  ·rw[(jet h).1];exact bD
  ·exact bC _ h
def NewU(P Q:PA)(k:Nat):Prop:=∃ N:vM,N.length<=k/\∀ t∈underP Q,t∈allT P\/t∈N
theorem NewU.mono{P Q:PA}{k m:Nat}(h:NewU P Q k)(hk:k<=m):NewU P Q m:=by
 obtain⟨N,e,o⟩:=h
 exact⟨N,bK e hk,o⟩
theorem NewU.same(P:PA)(k:Nat):NewU P P k:=⟨[],cB _,fun t h=>.inl (bC _ h)⟩
theorem NewU.none{P Q:PA}(h:underP Q=[])(k:Nat):NewU P Q k:=⟨[],cB _,fun t e=>by rw[h]at e;cases e⟩
theorem NewU.ext{q:vB}{n R:PA}{k:Nat}(h:NewU n R k):NewU (.ext q n) (jbY q R) (k+1):=by
 obtain⟨N,z,o⟩:=h
 refine⟨textP R :: N,by simp;omega,fun t e=>?_⟩
 have hb:=jel _ e;rcases bJ.1 (jem e)with rfl | h
 ·exact .inr bD
 ·rcases o t h with h | h
  ·exact .inl (bC _ (jjq h hb))
  ·exact .inr (bC _ h)
theorem NewU.kid{v u:vB}{ks:Nat->PA}{i:Nat}{R:PA}{k:Nat}(hi:∀ j,(ks j).isNil=false->j < 16)(h:NewU (ks i) R k)(hi16:i < 16):NewU (.br v ks) (.br u (setK ks i R)) (k+1):=by
 obtain⟨N,E,A⟩:=h
 refine⟨textP R :: N,by simp;omega,fun t q=>?_⟩
 have hb:=jel _ q
 obtain⟨j,z,o,h⟩:=jb9.1 q
 by_cases e:j=i
 ·subst e
  rw[jb6]at h o;have h:t∈allT R:=by
   rcases h with h | h
   ·rw[(jet h).1];exact bD
   ·exact bC _ h
  rcases bJ.1 h with rfl | h
  ·exact .inr bD
  ·rcases A t h with h | h
   ·cases hnk:(ks j).isNil with
    | true =>
     rw[jbh hnk]at h;have h:t∈[textP .nil]++underP .nil:=h;rw[underP,textP,bS,bO]at h;subst h;exact absurd hb vI
    | false=>exact .inl (bC _ (jlC z hnk h hb))
   ·exact .inr (bC _ h)
 ·rw[jdY _ _ e]at h o
  exact .inl (bC _ (jb9.2 ⟨j,z,o,h⟩))
theorem jne:∀ (P:PA),(CanP P\/P=.no\/P=.nil)->∀ (p u:vB),jaG p=true->NewU P (putP P p u) (p.size+3)
 | .nil,_,p,u,_=>NewU.none (by rw[putP,underP]) _
 | .no,_,p,u,_=>NewU.none (by rw[putP,underP]) _
 | .leaf q v,h,p,u,hv=>by
  unfold putP
  by_cases e:p=q
  ·rw[if_pos e];exact NewU.none (by rw[underP]) _
  rw[if_neg e]
  obtain⟨K,e1⟩:∃ x,x=q.extract (jaj q p) q.size:=⟨_,rfl⟩
  obtain⟨A,X⟩:∃ x,x=p.extract (jaj q p) p.size:=⟨_,rfl⟩
  rw[<-e1, <-X]
  obtain⟨B,O⟩:=vE (addK (addK (.br ⟨#[]⟩ fun _=>.nil) K v) A u)
  rw[<-O]
  refine⟨[textP B,textP (.leaf (ja9 K) v),textP (.leaf (ja9 A) u)],by simp,fun t H=>.inr ?_⟩
  rcases bJ.1 (jem H)with h | h
  ·rw[h];exact bD
  ·have z:∀ (a b:vB),(t∈bigs (textP (.leaf a b))\/t∈underP (.leaf a b))->t=textP (.leaf a b):=fun a b h=>by
    rcases h with h | h
    ·exact (jet h).1
    ·rw[underP]at h;cases h
   rw[O,jb7]at h
   by_cases z1:K.size=0
   ·rw[if_pos z1,jb7]at h
    by_cases z2:A.size=0
    ·rw[if_pos z2]at h
     obtain⟨_,_,o,_⟩:=jb9.1 h;cases o
    ·rw[if_neg z2]at h
     obtain⟨j,_,o,h⟩:=jb9.1 h
     unfold setK at h o
     by_cases ej:j=jai A
     ·rw[if_pos ej]at h;rw[z _ _ h];simp
     ·rw[if_neg ej]at o;cases o
   ·rw[if_neg z1,jb7]at h
    by_cases z2:A.size=0
    ·rw[if_pos z2]at h
     obtain⟨j,_,o,h⟩:=jb9.1 h
     unfold setK at h o
     by_cases ej:j=jai K
     ·rw[if_pos ej]at h;rw[z _ _ h];simp
     ·rw[if_neg ej]at o;cases o
    ·rw[if_neg z2]at h
     obtain⟨j,_,o,h⟩:=jb9.1 h
     unfold setK at h o
     by_cases ej:j=jai A
     ·rw[if_pos ej]at h;rw[z _ _ h];simp
     ·rw[if_neg ej]at h o
      by_cases ek:j=jai K
      ·rw[if_pos ek]at h;rw[z _ _ h];simp
      ·rw[if_neg ek]at o;cases o
 | .ext q n,h,p,u,hv=>by
  have Q:CanP (.ext q n):=by
   rcases h with h | h | h
   ·exact h
   ·cases h
   ·cases h
  have a1:q.size≠0:=Q.1;unfold putP;have a2:=jd4 q p
  by_cases hf:jaj q p=q.size
  ·rw[if_pos hf]
   have Z:jaG (p.extract (jaj q p) p.size)=true:=by
    rw[jbU]at hv ⊢;intro x hx;rw[jdi]at hx;exact hv x (List.mem_of_mem_drop hx)
   have ih:=jne n (.inl Q.2.2.2) (p.extract (jaj q p) p.size) u Z;refine ih.ext.mono ?_;rw[cS];omega
  ·rw[if_neg hf]
   obtain⟨A,X⟩:∃ x,x=p.extract (jaj q p) p.size:=⟨_,rfl⟩
   obtain⟨hd,a0⟩:∃ x,x=jai (q.extract (jaj q p) q.size):=⟨_,rfl⟩
   obtain⟨J,hJ⟩:=vE (jbY (q.extract (jaj q p+1) q.size) n)
   rw[<-X, <-a0, <-hJ]
   obtain⟨B,O⟩:=vE (addK (.br ⟨#[]⟩ (setK (fun _=>.nil) hd J)) A u)
   rw[<-O]
   refine⟨[textP B,textP J,textP (.leaf (ja9 A) u)],by simp,fun t H=>?_⟩
   have hb:=jel _ H;have E:(t∈bigs (textP J)\/t∈underP J)->t∈allT (.ext q n)\/t∈[textP B,textP J,textP (.leaf (ja9 A) u)]:=fun h=>by
    rcases h with h | h
    ·rw[(jet h).1];exact .inr (by simp)
    ·rw[hJ]at h
     exact .inl (bC _ (jjq (jem h) hb))
   rcases bJ.1 (jem H)with h | h
   ·rw[h];exact .inr (by simp)
   ·rw[O,jb7]at h
    by_cases z2:A.size=0
    ·rw[if_pos z2]at h
     obtain⟨j,_,o,h⟩:=jb9.1 h
     unfold setK at h o
     by_cases ej:j=hd
     ·rw[if_pos ej]at h;exact E h
     ·rw[if_neg ej]at o;cases o
    ·rw[if_neg z2]at h
     obtain⟨j,_,o,h⟩:=jb9.1 h
     unfold setK at h o
     by_cases ej:j=jai A
     ·rw[if_pos ej]at h
      rcases h with h | h
      ·rw[(jet h).1];exact .inr (by simp)
      ·rw[underP]at h;cases h
     ·rw[if_neg ej]at h o
      by_cases ek:j=hd
      ·rw[if_pos ek]at h;exact E h
      ·rw[if_neg ek]at o;cases o
 | .br v ks,h,p,u,hv=>by
  have Q:CanP (.br v ks):=by
   rcases h with h | h | h
   ·exact h
   ·cases h
   ·cases h
  unfold putP
  by_cases h0:p.size=0
  ·rw[if_pos h0]
   exact⟨[],cB _,fun t H=>.inl (bC _ (jb9.2 (jb9.1 H)))⟩
  ·rw[if_neg h0]
   have ih:=jne (ks (jai p)) (by
    cases o:(ks (jai p)).isNil with
    | true=>exact .inr (.inr (jbh o))
    | false=>exact .inl (Q.2.1 _ o)) (ja9 p) u (jbK hv)
   refine (NewU.kid Q.1 ih (jcS hv h0)).mono ?_;unfold ja9;rw[cS];omega
theorem jiG{v:vB}{ks:Nat->PA}(hi:∀ j,(ks j).isNil=false->j < 16)(hc:∀ j,(ks j).isNil=false->CanP (ks j)){t:vB}(h:t∈underP (jcP v ks)):t∈underP (.br v ks):=by
 have hb:=jel _ h;unfold jcP at h;cases e:idxK ks with
 | nil =>
  rw[e]at h;simp only at h
  by_cases hz:v.size=0
  ·rw[if_pos hz,underP]at h;cases h
  ·rw[if_neg hz,underP]at h;cases h
 | cons i r =>
  rw[e]at h;cases r with
  | nil =>
   simp only at h
   by_cases hz:v.size=0
   ·rw[if_pos hz]at h
    have q:i∈idxK ks:=by rw[e];exact bD
    have o:=(jmX ⟨hi,hc⟩).1 q;exact jlC (hi i o) o (jem h) hb
   ·rw[if_neg hz]at h;exact h
  | cons j r=>exact h
theorem NewU.unNo{P R:PA}{k:Nat}(h:NewU P R k):NewU P (Go.Proofs.YtmobgkphhbmhbaaGreatDoor.unNo R) k:=by
 unfold Go.Proofs.YtmobgkphhbmhbaaGreatDoor.unNo;cases e:R.isNo with
 | true=>rw[if_pos rfl];exact NewU.none (by rw[underP]) _
 | false=>rw[if_neg vI];exact h
theorem jj4:∀ (P:PA),CanP P->∀ (p:vB),jaG p=true->NewU P (jbx P p) (p.size+3)
 | .nil,h,_,_=>h.elim
 | .no,h,_,_=>h.elim
 | .leaf q v,h,p,hv=>by
  unfold jbx
  by_cases e:p=q
  ·rw[if_pos e];exact NewU.none (by rw[underP]) _
  ·rw[if_neg e];exact NewU.same _ _
 | .ext q n,h,p,hv=>by
  unfold jbx;cases hp:preB q p with
  | false=>rw[if_neg vI];exact NewU.same _ _
  | true =>
   rw[if_pos rfl];have A:jaG (p.extract q.size p.size)=true:=by
    rw[jbU]at hv ⊢;intro x H;rw[jdi]at H;exact hv x (List.mem_of_mem_drop H)
   have K:q.size<=p.size:=jhF hp;have O:q.size≠0:=h.1;refine (jj4 n h.2.2.2 _ A).ext.mono ?_;rw[cS];omega
 | .br v ks,h,p,hv=>by
  unfold jbx
  by_cases h0:p.size=0
  ·rw[if_pos h0]
   exact⟨[],cB _,fun t E=>.inl (bC _ (jb9.2 (jb9.1 (jiG h.1 h.2.1 E))))⟩
  ·rw[if_neg h0]
   cases hn:(ks (jai p)).isNil with
   | true=>rw[if_pos rfl];exact NewU.same _ _
   | false =>
    rw[if_neg vI];have z:=jcS hv h0;have Q:=jj5 (ks (jai p)) (h.2.1 _ hn) (ja9 p) (jbK hv);have X:=(jj4 (ks (jai p)) (h.2.1 _ hn) (ja9 p) (jbK hv)).unNo;have Z:=NewU.kid (v:=v) (u:=v) h.1 X z
    obtain⟨N,J,n2⟩:=Z
    have o:OneB (setK ks (jai p) (Go.Proofs.YtmobgkphhbmhbaaGreatDoor.unNo (jbx (ks (jai p)) (ja9 p)))):=by
     rcases Q.1 with e | e
     ·rw[e];exact OneB.cut ⟨h.1,h.2.1⟩ _
     ·have:Go.Proofs.YtmobgkphhbmhbaaGreatDoor.unNo (jbx (ks (jai p)) (ja9 p))=jbx (ks (jai p)) (ja9 p):=by unfold Go.Proofs.YtmobgkphhbmhbaaGreatDoor.unNo;rw[juR e,if_neg vI]
      rw[this];exact OneB.set ⟨h.1,h.2.1⟩ z e
    refine⟨N,?_,fun t E=>n2 t (jiG o.1 o.2 E)⟩
    unfold ja9 at J;rw[cS]at J;omega
theorem juA{P:PA}(hP:P=.no\/CanP P){c:Chg}(hc:c.bad=false):NewU P (jbX P c) 15:=by
 have q:=jj8 hc;have o:(jbv c.key).size<=12:=by rw[je3];omega
 unfold jbX;cases hg:c.gone with
 | true =>
  rw[if_pos rfl];rcases hP with rfl | hP
  ·exact NewU.none (by rw[jbx,underP]) _
  ·exact (jj4 P hP _ (jcV _)).mono vO
 | false =>
  rw[if_neg vI];exact (jne P (hP.elim (fun e=>.inr (.inl e)) .inl) _ _ (jcV _)).mono vO
theorem jv8{S:vT}{l m:vL}(hM:HasM S l)(hm:jap m=0){c:Chg}(h:jfM l m [c]):(newM S m).length<=16:=by
 have O:c.bad=false:=by have:=h.fine;simpa using this
 have A:=jnV hM.ok hm h;have A:jbX (jaW 13 (jaP l)) c=jaW 13 (jaP m):=A;have K:=juA (jkw (jbm (jau hM.ok))) O;rw[A]at K
 obtain⟨N,n1,Q⟩:=K
 obtain⟨_,X,p3⟩:=jeg 12 (jaP l) (jbm (jau hM.ok))
 have o:∀ t∈allT (jaW 13 (jaP l)),HasS S t:=fun t z=>by
  refine hM.has t ?_;have e:jao (jav l)=(jav l).text :: belowM l:=by rw[jhq hM.ok];show jao (.mk _ _)=_;rw[jao];rfl
  rw[e];rcases bJ.1 z with h | h
  ·rw[h,X];exact bD
  ·exact bC _ h
 unfold newM;rw[bP];have E:(freshU S (belowM m)).Nodup:=(jeT _).filter _;have q:∀ t∈freshU S (belowM m),t∈N:=fun t z=>by
  unfold freshU at z
  obtain⟨Z,H⟩:=cH.1 z
  rcases Q t ((jaM _ _).1 Z)with h | h
  ·obtain⟨x,J,_⟩:=o t h
   have J:atL S (shaB t).data.toList=some x:=J;unfold lackB at H;rw[J]at H;cases H
  ·exact h
 have:=gD E q
 omega
theorem jrA{m:vL}{c:Chg}(h:ja3 m [c]=0):jfM m (ja2 m [c]) [c]:=by
 obtain⟨z,A,_⟩:=jhL h
 have q:∀ k,look (ja2 m [c]) k=jfF k (look m k) c:=fun k=>jjo z [c] k
 refine⟨by simp,fun d E=>?_,fun k H=>?_,A⟩
 ·rw[bO.1 E,q]
  unfold jfF Chg.o;rw[if_pos rfl]
 ·rw[q]
  unfold jfF;rw[if_neg (fun e=>H c (by simp) e.symm)]
theorem jpl:∀ l m:vL,∀ x∈(jaN l m).zip (jaN m l),x.1.o≠x.2.o:=by
 intro l m
 fun_induction jaN l m with
 | case1=>simp[jaN]
 | case2 p l ih =>
  rw[jaN,iE];intro x z;rcases bJ.1 z with rfl | z
  ·simp[Chg.o]
  ·exact ih x z
 | case3 q m ih =>
  rw[jaN,iE];intro x z;rcases bJ.1 z with rfl | z
  ·simp[Chg.o]
  ·exact ih x z
 | case4 p l q m hlt ih =>
  rw[jaN,if_neg (by rw[jim _ _ hlt];simp),if_pos hlt,iE];intro x z;rcases bJ.1 z with rfl | z
  ·simp[Chg.o]
  ·exact ih x z
 | case5 p l q m hlt hgt ih =>
  rw[jaN,if_pos hgt,iE];intro x z;rcases bJ.1 z with rfl | z
  ·simp[Chg.o]
  ·exact ih x z
 | case6 p l q m hlt hgt hv ih =>
  have A:(q.2.toList == p.2.toList)=true:=by
   have h:p.2.toList=q.2.toList:=by simpa using hv
   rw[h];simp
  rw[jaN,if_neg hgt,if_neg hlt,if_pos A];exact ih
 | case7 p l q m hlt hgt hv ih =>
  have A:¬(q.2.toList == p.2.toList)=true:=fun e=>hv (by
   have h:q.2.toList=p.2.toList:=by simpa using e
   rw[h];simp)
  rw[jaN,if_neg hgt,if_neg hlt,if_neg A,iE];intro x z;rcases bJ.1 z with rfl | z
  ·intro e
   have e:q.2=p.2:=by simpa [Chg.o]using e
   exact hv (by rw[e];simp)
  ·exact ih x z
theorem jvG{l m:vL}(hl:jap l=0)(hm:jap m=0):∀ c∈jbP l m,look l c.k≠look m c.k:=by
 intro c J
 obtain⟨i,q⟩:=fZ J
 have E:=(bU.1 q).1;have o:=jpk l m;have z:(jbP m l).length=(jbP l m).length:=by have:=congrArg List.length o;simpa using this
 obtain⟨d,A⟩:∃ d,(jbP m l)[i]?=some d:=⟨_,bA (by rw[z];exact E)⟩
 have H:d.key=c.key:=by
  have K:=congrArg (fun l:vM=>l[i]?) o;simp only[bZ,q,A,fY]at K;exact bV K
 have Q:=(jdv hl hm).done c J;have O:=(jdv hm hl).done d (bI A);have X:d.k=c.k:=by unfold Chg.k;rw[H]
 rw[X]at O;rw[Q,O];have Z:(c,d)∈(jaN l m).zip (jaN m l):=by
  unfold jbP at q A;rw[if_pos ⟨hl,hm⟩]at q;rw[if_pos ⟨hm,hl⟩]at A;exact bI (i:=i) (List.getElem?_zip_eq_some.2 ⟨q,A⟩)
 exact fun e=>jpl l m _ Z e.symm
theorem jrV{α:Type}{x:α}:∀ {l:List α},l.Nodup->(∀ y∈l,y=x)->l.length<=1
 | [],_,_=>cB _
 | [_],_,_=>bM _
 | y :: z :: r,h,e=>by
  rw[dH]at h;exact absurd (by rw[e y (by simp), <-e z (by simp)];simp) h.1
theorem jtr{l m:vL}(hl:jap l=0)(hm:jap m=0){c:Chg}(h:jfM l m [c]):(jbP l m).length<=1:=by
 have:=jrV (x:=c.k) (jdv hl hm).keys (fun y z=>by
  obtain⟨d,A,rfl⟩:=bH.1 z
  refine Decidable.byContradiction fun o=>jvG hl hm d A (h.rest _ fun E q e=>o ?_);rw[bO.1 q]at e;exact e.symm)
 simpa using this
noncomputable def justS(l:vL):vT:=(jay l).map fun t=>(ky t,0,itOf t)
theorem jtQ{l:vL}(hl:jap l=0)(hU:InjL (jay l)):HasM (justS l) l:=by
 refine⟨hl,fun x e=>?_⟩
 have e:=jbJ.1 e
 obtain⟨y,o⟩:=dQ.1 (jdV.2 (show ky x∈(justS l).map (·.1)from bH.2 ⟨_,bH.2 ⟨x,e,rfl⟩,rfl⟩))
 obtain⟨q,z⟩:=ja6 o
 obtain⟨t,A,rfl⟩:=bH.1 q
 exact⟨_,o,ju1 hU A e z⟩
theorem jsz{l m:vL}(hl:jap l=0)(hm:jap m=0){c:Chg}(h:jfM l m [c]){B:vM}(hB:jvg l m B)(hU:InjL (jay l)):B.length<=16:=by
 have z:=jou (justS l) hm
 have:=jm5 (a:=B) (b:=(newM (justS l) m).map shaB) hB.1 fun k A=>by
  obtain⟨⟨t,E,e⟩,o⟩:=(hB.2 k).1 A
  rcases z.all t (jbJ.1 E)with h | h
  ·exact bH.2 ⟨t,h,e.symm⟩
  ·obtain⟨y,H,J⟩:=bH.1 h
   obtain⟨K,q,rfl⟩:=bH.1 H
   exact absurd ⟨K,jbJ.2 q,by rw[e];exact jbW J.symm⟩ o
 rw[cC]at this;exact bK this (jv8 (jtQ hl hU) hm h)
end
section
open Go Go.RowKit
attribute [local go_sem] Oper.semAt_some
theorem jiK.flatA{a b:vL}{more:vM}{w w':vW}{s bm:Nat}{S:vT}(h:jiK a b more w s bm S w'):∀ x∈jao (jav a),x∈jay a++jay b:=fun x e=>cA _ (jbJ.1 e)
theorem jiK.flatB{a b:vL}{more:vM}{w w':vW}{s bm:Nat}{S:vT}(h:jiK a b more w s bm S w'):∀ x∈jao (jav b),x∈jay a++jay b:=fun x e=>dD _ (jbJ.1 e)
theorem jiK.injU{a b:vL}{more:vM}{w w':vW}{s bm:Nat}{S:vT}(h:jiK a b more w s bm S w'):InjL (jay a++jay b):=fun x o y q e=>h.inj x (cA _ o) y (cA _ q) e
theorem jng{W:vW}{b:Nat}(c:Chg){T:TypeId}(hB:Blk W b (.cells #[.string c.key,.string c.value,.bool c.gone] T)):RdC W (.slice (some ⟨b,0,none⟩) 1 1) [c]:=jkA [c] hB
theorem jsy(w:vW)(hc:jbV w)(he:ErrT w)(u:vV)(l:vL)(ck cv:vB)(cg:Bool)(hu:RdP w u l)(hn:l.length<=9223372036854775807)(hs:jeN l)(hk:ck.size<=9223372036854775807)(hv:cv.size<=9223372036854775807) :
  vR 7 #[u,.agg #[.string ck,.string cv,.bool cg]] w (.bool true):=by
 have HC:=Hd hc;have a1:=Hd he;have HU:=Hd hu;have HN:=Hd (bB hn hs);have a2:Hid (∀ c∈[(⟨ck,cv,cg⟩:Chg)],c.key.size<=9223372036854775807/\c.value.size<=9223372036854775807):=(fun c hc=>by rw[bO.1 hc];exact⟨hk,hv⟩)
 obtain⟨ua,uc,rfl⟩:=hu.sl
 clear hc he hu hn hs hk hv;go_enter Tryz.func7,Tryz.ntmps7;go_wp2_with fail
 obtain⟨w1,X⟩:=vE (w.alloc (.cells #[.string ck,.string cv,.bool cg] 59))
 rw[<-X]
 obtain⟨g,hg⟩:=vE w.heap.size
 have b9:=Hd (show Blk w1 g (.cells #[.string ck,.string cv,.bool cg] 59) by rw[X,hg];exact Blk.new w _);have Z:=Hd (show Ext w w1 by rw[X];exact (ExtR w).alloc _);rw[<-hg];clear hg X;refine vC (jms w1 (HC.o.ext Z.o) (a1.o.ext Z.o)) fun w2 E=>?_;have c0:=Hd (Z.o.trans E);have K:=Hd (b9.o.keeps E (fun h=>h));have q1:=K.o.cell (i:=0) (v:=.string ck) vF;have q2:=K.o.cell (i:=1) (v:=.string cv) vF;have q3:=K.o.cell (i:=2) (v:=.bool cg) vF;clear E Z b9;go_wp2_with fail
 refine vH (jq2 _ _ [⟨ck,cv,cg⟩] (jng ⟨ck,cv,cg⟩ (Blk.new w2 (.cells #[.string ck,.string cv,.bool cg] 59))) (by simp) a2.o) fun w3 E=>?_;have a3:=((ExtR w2).alloc (.cells #[.string ck,.string cv,.bool cg] 59)).trans E;have a0:=Hd (c0.o.trans a3);have O:=Hd (K.o.keeps a3 (fun h=>h));have q1:=O.o.cell (i:=0) (v:=.string ck) vF;have q2:=O.o.cell (i:=1) (v:=.string cv) vF;have q3:=O.o.cell (i:=2) (v:=.bool cg) vF
 obtain⟨fw,c2⟩:=vE (fewC [(⟨ck,cv,cg⟩:Chg)])
 rw[<-c2];clear a3 c0 K c2;go_wp2_with fail
 have H:=(ExtR w3).alloc (.cells #[.string ck,.string cv,.bool cg] 59);refine (jjN _ _ _ l [⟨ck,cv,cg⟩] (HU.o.ext (a0.o.trans H)) (jng ⟨ck,cv,cg⟩ (Blk.new w3 (.cells #[.string ck,.string cv,.bool cg] 59))) HN.o.1 (by simp) HN.o.2 a2.o).mono ?_;intro e w4 hP;unfold jdK at hP
 by_cases h0:ja3 l [⟨ck,cv,cg⟩]=0
 case neg =>
  rw[if_neg h0]at hP
  obtain⟨rfl,E⟩:=hP
  have q:=Hd (a0.o.trans (H.trans E))
  obtain⟨x,hx⟩:=vE (ja3 l [⟨ck,cv,cg⟩])
  rw[<-hx]at h0 ⊢;have c1:(x != 0)=true:=by simpa using h0
  clear E hx H q1 q2 q3;cases fw with
  | false =>
   go_wp2_with fail
   go_ret
   exact⟨rfl,q.o⟩
  | true =>
   go_wp2_with fail
   go_ret
   exact⟨rfl,q.o⟩
 rw[if_pos h0]at hP
 obtain⟨r,rfl,hR⟩:=hP
 obtain⟨c,d3⟩:∃ c:Chg,c=⟨ck,cv,cg⟩:=⟨_,rfl⟩
 obtain⟨m,hm⟩:=vE (ja2 l [⟨ck,cv,cg⟩])
 have hR:ERow (w3.alloc (.cells #[.string ck,.string cv,.bool cg] 59)) w4 r m.length m:=by rw[hm];exact hR
 have a4:jap m=0:=by rw[hm];exact jcb h0
 have c3:jfM l m [⟨ck,cv,cg⟩]:=by rw[hm];exact jrA h0
 have HM:=Hd (bB a4 (bB c3 (bB hm h0)));have q:=Hd (a0.o.trans (H.trans hR.ext));have c4:=Hd (O.o.keeps (H.trans hR.ext) (fun h=>h));have d4:=Hd hR.rd
 obtain⟨ma,mc,rfl⟩:=hR.sl
 have a5:=jau a4;have c5:=Hd (show m.length<=9223372036854775807/\jeN m from⟨by have:=a5.len;omega,fun p hp=>by have:=a5.size p hp;omega⟩);clear hR a4 c3 hm h0 a5 H a0 O q1 q2 q3 d3;cases fw with
 | false =>
  go_wp2_with fail
  go_ret
  exact⟨rfl,q.o⟩
 | true =>
 go_wp2_with fail
 refine (juO w4 (HC.o.ext q.o) (a1.o.ext q.o) _ _ (.slice none 0 0) l m [] (HU.o.ext q.o) d4.o HN.o.1 c5.o.1 HN.o.2 c5.o.2 (fM _ _ _ _) vI).mono ?_;rintro e w5 (⟨rfl,E⟩ |⟨s,bm,S,rfl,J⟩)
 ·have Q:=Hd (q.o.trans E)
  clear E;go_wp2_with fail
  go_ret
  exact⟨rfl,Q.o⟩
 have A:=Hd J;have Q:=Hd (q.o.trans J.tst.ext);have d5:=Hd (c4.o.keeps J.tst.ext (fun h=>h));have c8:S.length<=100000:=by have:=J.tst.len;omega
 have a8:=Hd (jlv w5 s bm 2000 S J.tst.st J.nodes c8 J.ha J.hb J.injU J.flatA J.flatB);have HO:=Hd (fun(W:vW) (k:Ext w5 W)=>jjt W s bm 2000 S (A.o.tst.st.ext k) A.o.ha A.o.hb A.o.injU A.o.flatA A.o.flatB);have a9:=Hd (fun(W:vW) (k:Ext w5 W) (v:vV) (hv:RdC W v [⟨ck,cv,cg⟩])=>jgo W (HC.o.ext (Q.o.trans k)) (a1.o.ext (Q.o.trans k)) s bm 2000 S (A.o.tst.st.ext k) A.o.nodes A.o.ha v [⟨ck,cv,cg⟩] hv (by simp) a2.o (rootM m));have c9:makesN l [⟨ck,cv,cg⟩] (rootM m)=0:=by unfold makesN;rw[if_pos HM.o.2.2.2, <-HM.o.2.2.1,if_pos rfl]
 rw[c9]at a9
 obtain⟨ra,d0⟩:=vE (rootM l)
 obtain⟨rb,d1⟩:=vE (rootM m)
 rw[<-d0, <-d1]at a8 HO a9 ⊢
 obtain⟨B,hB,z⟩:=a8.o
 have b8:=jsz A.o.ha.ok A.o.hb.ok HM.o.2.1 hB (fun x hx y hy e=>A.o.injU x (cA _ hx) y (cA _ hy) e);have d6:=jtr A.o.ha.ok A.o.hb.ok HM.o.2.1
 obtain⟨n,hn⟩:=vE B.length
 unfold jnu at z;rw[<-hn]at b8 z;have d2:=Hd z;clear J d0 d1 hB z c8 a8 hn c9 q c4;go_wp2_with fail
 refine d2.o.mono ?_;rintro e w6 ⟨v6,rfl,b0⟩;have b3:=Hd b0.ext
 obtain⟨a6,c6,rfl⟩:=b0.sl
 clear b0 d2;go_wp2_with fail
 have h1:=HO.o w6 b3.o;unfold OfP at h1
 obtain⟨k,hk⟩:=vE (jbP l m).length
 rw[<-hk]at h1 d6;refine h1.mono ?_;rintro e w7 ⟨v7,rfl,b4⟩;have b5:=Hd (b3.o.trans b4.ext)
 obtain⟨a7,c7,rfl⟩:=b4.sl
 have b6:=Hd (d5.o.keeps b5.o (fun h=>h));have q1:=b6.o.cell (i:=0) (v:=.string ck) vF;have q2:=b6.o.cell (i:=1) (v:=.string cv) vF;have q3:=b6.o.cell (i:=2) (v:=.bool cg) vF;have b1:(n:Int)<=16:=vO
 have b2:(k:Int)<=1:=vO
 clear b4 h1 hk b3 HO;go_wp2_with fail
 have b7:=(ExtR w7).alloc (.cells #[.string ck,.string cv,.bool cg] 59);refine vH (a9.o _ (b5.o.trans b7) _ (jng ⟨ck,cv,cg⟩ (Blk.new w7 (.cells #[.string ck,.string cv,.bool cg] 59)))) fun w8 E=>?_;have d7:=Hd (Q.o.trans ((b5.o.trans b7).trans E));clear b7;go_wp2_with fail
 go_ret
 exact⟨rfl,d7.o⟩
end
section
open Go Go.ChangeShapes Go.WideShapes Go.ChangeAt Go.RowKit Go.Deep
theorem Tryz.ownK:ownKnob Tryz.prog.godebug=none:=vY
theorem Tryz.laidOutK:laidOutB Tryz.prog=true:=vY
theorem Tryz.cellsEnt:Tryz.prog.cellsOf 71=2:=vY
theorem Tryz.cellsStr:Tryz.prog.cellsOf 9=1:=vY
theorem Tryz.cellsBool:Tryz.prog.cellsOf 4=1:=vY
theorem jcE:maxLen<=9223372036854775807:=by unfold maxLen;omega
section
variable {H:Type} {enc:TypeId × vV->H} {w:vW} {base:Nat} {spare:Nat->Bool} {held:Bool}
theorem jt7{n:Nat}{a:Addr}{cs:List vV}{x:DataW H × List MemPlace}(hc:w.cells? base a 2=some cs)(h:DataW.trod enc Tryz.prog w base spare held n 71 cs=some x) :
  ∃ p:Pair,w.cell? (a.add 0)=some (.string p.1)/\w.cell? (a.add 1)=some (.string p.2)/\p.1.size<=9223372036854775807/\p.2.size<=9223372036854775807:=by
 obtain⟨_,O,z⟩:=World.cells?_some hc
 obtain⟨xs,m,_,_,_,q,A⟩:=DataW.trod_struct Tryz.underlying71 h
 match cs,O with
 | [c0,c1],_ =>
  have e:DataW.trod enc Tryz.prog w base spare held m 9 (([c0,c1].drop 0).take (Tryz.prog.cellsOf 9))=xs[0]?:=A 0 _ rfl;have o:DataW.trod enc Tryz.prog w base spare held m 9 (([c0,c1].drop 1).take (Tryz.prog.cellsOf 9))=xs[1]?:=A 1 _ rfl;rw[Tryz.cellsStr]at e o;dsimp only[List.drop,List.take]at e o;have E:∀ i,i < 2->∃ y,xs[i]?=some y:=fun i Q=>⟨_,bA (by rw[q];exact Q)⟩
  obtain⟨y0,X⟩:=E 0 vO
  obtain⟨y1,Z⟩:=E 1 vO
  rw[X]at e;rw[Z]at o
  obtain⟨r,J,_,w0⟩:=DataW.trod_string Tryz.underlying9 e
  obtain⟨s,K,_,w1⟩:=DataW.trod_string Tryz.underlying9 o
  simp only[List.cons.injEq,and_true]at J K;subst J K
  exact⟨(r,s),z 0 vO,z 1 vO,bK w0 jcE,bK w1 jcE⟩
theorem jrv{α:Type}(n:Nat)(d:α)(P:Nat->α->Prop)(h:∀ i,i < n->∃ x,P i x):∃ l:List α,l.length=n/\∀ i x,l[i]?=some x->P i x:=by
 induction n with
 | zero=>exact⟨[],rfl,fun i x o=>by simp at o⟩
 | succ n ih =>
  obtain⟨l,q,z⟩:=ih fun i A=>h i vO
  obtain⟨x,o⟩:=h n vO
  refine⟨l++[x],by simp[q],fun i y e=>?_⟩
  by_cases A:i < n
  ·rw[cU vO]at e;exact z i y e
  ·rw[cX vO]at e
   have:i - l.length=0:=by
    have:=(bU.1 e).1
    simp at this;omega
   rw[this]at e;simp at e;subst e;rw[show i=n by omega];exact o
theorem je1{v:vV}{d:DataW H}{p:List MemPlace}(hv:∃ a n c,v=.slice a n c)(h:DataW.Trod enc Tryz.prog w 0 spare held 32 v d p) :
  ∃ l:vL,RdP w v l/\l.length<=9223372036854775807/\∀ p∈l,p.1.size<=9223372036854775807/\p.2.size<=9223372036854775807:=by
 obtain⟨Q,X,Z,rfl⟩:=hv
 obtain⟨a1,hf⟩:=h
 rcases open_slice Tryz.underlying32 hf with⟨hcs,_⟩ |⟨a,len,cap,m,n,D,Pl,hcs,_,hl,hm,hmm,_,K⟩
 ·simp only[Value.cells]at hcs
  have e:Value.slice Q X Z=.slice none 0 0:=by simpa using hcs
  rw[e]
  exact⟨[],.inl ⟨none,0,rfl,rfl⟩,by simp,by simp⟩
 ·have e:Value.slice Q X Z=.slice (some a) len cap:=by simpa [Value.cells]using hcs
  rw[e];have a2:len<=m:=by rw[hmm];split <;> omega
  obtain⟨l,A,z⟩:=jrv len pd (fun i p=>w.cell? ((a.add (i * 2)).add 0)=some (.string p.1)/\w.cell? ((a.add (i * 2)).add 1)=some (.string p.2)/\p.1.size<=9223372036854775807/\p.2.size<=9223372036854775807) (fun i a3=>by
   obtain⟨a4,h1,h2⟩:=K i vO
   rw[Tryz.cellsEnt]at h1;exact jt7 h1 h2)
  have O:∀ p∈l,p.1.size<=9223372036854775807/\p.2.size<=9223372036854775807:=fun p hp=>by
   obtain⟨i,K⟩:=fZ hp
   exact (z i p K).2.2
  have E:l.length<=9223372036854775807:=by have:=jcE;omega
  refine⟨l,?_,E,O⟩
  by_cases h0:len=0
  ·subst h0
   exact .inl ⟨some a,cap,rfl,bE A⟩
  ·obtain⟨p0,J⟩:∃ p,l[0]?=some p:=⟨_,bA vO⟩
   have q:a.spot=none:=by simpa [Addr.add]using World.cell?_spot (z 0 p0 J).1
   obtain⟨b,o,sp⟩:=a
   dsimp only at q;subst q;refine .inr ⟨b,o,cap,by rw[A],dZ w _ (z 0 p0 J).1,by omega,fun j x hx=>?_⟩
   obtain⟨q1,q2,_⟩:=z j x hx
   rw[Go.Deep.add_add,Go.WideShapes.add_plain]at q1 q2
   exact⟨q1,q2⟩
end
end
section
open Go Go.ChangeShapes Go.WideShapes Go.ChangeAt Go.RowKit Go.Deep
theorem Tryz.cellsChg:Tryz.prog.cellsOf 59=3:=vY
section
variable {H:Type} {enc:TypeId × vV->H} {w:vW} {base:Nat} {spare:Nat->Bool} {held:Bool}
theorem jt6{n:Nat}{a:Addr}{cs:List vV}{x:DataW H × List MemPlace}(hc:w.cells? base a 3=some cs)(h:DataW.trod enc Tryz.prog w base spare held n 59 cs=some x) :
  ∃ p:Chg,w.cell? (a.add 0)=some (.string p.key)/\w.cell? (a.add 1)=some (.string p.value)/\w.cell? (a.add 2)=some (.bool p.gone)/\p.key.size<=9223372036854775807/\p.value.size<=9223372036854775807:=by
 obtain⟨_,X,z⟩:=World.cells?_some hc
 obtain⟨xs,m,_,_,_,A,E⟩:=DataW.trod_struct Tryz.underlying59 h
 match cs,X with
 | [c0,c1,c2],_ =>
  have e:DataW.trod enc Tryz.prog w base spare held m 9 (([c0,c1,c2].drop 0).take (Tryz.prog.cellsOf 9))=xs[0]?:=E 0 _ rfl;have o:DataW.trod enc Tryz.prog w base spare held m 9 (([c0,c1,c2].drop 1).take (Tryz.prog.cellsOf 9))=xs[1]?:=E 1 _ rfl;have q:DataW.trod enc Tryz.prog w base spare held m 4 (([c0,c1,c2].drop 2).take (Tryz.prog.cellsOf 4))=xs[2]?:=E 2 _ rfl;rw[Tryz.cellsStr]at e o;rw[Tryz.cellsBool]at q;dsimp only[List.drop,List.take]at e o q;have J:∀ i,i < 3->∃ y,xs[i]?=some y:=fun i Z=>⟨_,bA (by rw[A];exact Z)⟩
  obtain⟨y0,e0⟩:=J 0 vO
  obtain⟨y1,e1⟩:=J 1 vO
  obtain⟨y2,e2⟩:=J 2 vO
  rw[e0]at e;rw[e1]at o;rw[e2]at q
  obtain⟨r,K,_,w0⟩:=DataW.trod_string Tryz.underlying9 e
  obtain⟨s,O,_,w1⟩:=DataW.trod_string Tryz.underlying9 o
  obtain⟨b,Q,_⟩:=DataW.trod_bool Tryz.underlying4 q
  simp only[List.cons.injEq,and_true]at K O Q;subst K O Q
  exact⟨⟨r,s,b⟩,z 0 vO,z 1 vO,z 2 vO,bK w0 jcE,bK w1 jcE⟩
theorem jlW{v:vV}{d:DataW H}{p:List MemPlace}(hv:∃ a n c,v=.slice a n c)(h:DataW.Trod enc Tryz.prog w 0 spare held 23 v d p) :
  ∃ l:List Chg,RdC w v l/\l.length<=9223372036854775807/\∀ p∈l,p.key.size<=9223372036854775807/\p.value.size<=9223372036854775807:=by
 obtain⟨Q,X,Z,rfl⟩:=hv
 obtain⟨a1,hf⟩:=h
 rcases open_slice Tryz.underlying23 hf with⟨hcs,_⟩ |⟨a,len,cap,m,n,D,Pl,hcs,_,hl,hm,hmm,_,K⟩
 ·simp only[Value.cells]at hcs
  have e:Value.slice Q X Z=.slice none 0 0:=by simpa using hcs
  rw[e]
  exact⟨[],.inl ⟨none,0,rfl,rfl⟩,by simp,by simp⟩
 ·have e:Value.slice Q X Z=.slice (some a) len cap:=by simpa [Value.cells]using hcs
  rw[e];have a2:len<=m:=by rw[hmm];split <;> omega
  obtain⟨l,A,z⟩:=jrv len (⟨⟨#[]⟩,⟨#[]⟩,false⟩:Chg) (fun i p=>w.cell? ((a.add (i * 3)).add 0)=some (.string p.key)/\w.cell? ((a.add (i * 3)).add 1)=some (.string p.value)/\w.cell? ((a.add (i * 3)).add 2)=some (.bool p.gone)/\p.key.size<=9223372036854775807/\p.value.size<=9223372036854775807) (fun i a3=>by
   obtain⟨a4,h1,h2⟩:=K i vO
   rw[Tryz.cellsChg]at h1;exact jt6 h1 h2)
  have O:∀ p∈l,p.key.size<=9223372036854775807/\p.value.size<=9223372036854775807:=fun p hp=>by
   obtain⟨i,K⟩:=fZ hp
   exact (z i p K).2.2.2
  have E:l.length<=9223372036854775807:=by have:=jcE;omega
  refine⟨l,?_,E,O⟩
  by_cases h0:len=0
  ·subst h0
   exact .inl ⟨some a,cap,rfl,bE A⟩
  ·obtain⟨p0,J⟩:∃ p,l[0]?=some p:=⟨_,bA vO⟩
   have q:a.spot=none:=by simpa [Addr.add]using World.cell?_spot (z 0 p0 J).1
   obtain⟨b,o,sp⟩:=a
   dsimp only at q;subst q;refine .inr ⟨b,o,cap,by rw[A],dZ w _ (z 0 p0 J).1,by omega,fun j x hx=>?_⟩
   obtain⟨q1,q2,q3,_⟩:=z j x hx
   rw[Go.Deep.add_add,Go.WideShapes.add_plain]at q1 q2 q3
   exact⟨q1,q2,q3⟩
end
end
section
open Go Go.RowKit
def jqK:List Int:=jhU.map fun x=>(x.toNat:Int)
theorem jqL:(Rows.laid_guilloche_sha_cubes:DataW Unit)=Lib.tabData .u32 jqK:=vY
theorem Tryz.gCubes:Tryz.prog.globalNamed "guilloche/sha.cubes"=some 0:=vY
theorem Tryz.gCubesType:(Tryz.prog.globals[0]?).map (·.type)=some 230:=vY
theorem Tryz.uCubes:Tryz.prog.underlying 230=some (.array 64 167):=vY
theorem Tryz.cellsU32:Tryz.prog.cellsOf 167=1:=vY
theorem Tryz.cellsCubes:Tryz.prog.cellsOf 230=64:=vY
theorem jnG{W:vW}(h:laidMetH Tryz.prog [("errors.errorType",Rows.laid_errors_errorType),("guilloche/sha.cubes",Rows.laid_guilloche_sha_cubes)] W):jbV W:=by
 have e:laidMet Tryz.prog [("guilloche/sha.cubes",Rows.laid_guilloche_sha_cubes)] W:=(laidMetH_iff.1 h).1;rw[jqL]at e;have o:=Lib.tabIs_of_head Tryz.gCubes Tryz.gCubesType Tryz.uCubes Tryz.uU32 Tryz.cellsU32 Tryz.cellsCubes e;intro i q
 have:=o.cell Tryz.gCubes i (by unfold jqK;rw[cC];exact q)
 rw[this];unfold jqK wv;simp only[bG,bZ];cases jhU[i]? <;> rfl
theorem Tryz.gErr:Tryz.prog.globalNamed "errors.errorType"=some 1:=vY
theorem Tryz.rtypeCut:(Tryz.prog.cutTypes.find? (·.1 == "internal/reflectlite.rtype")).map (·.2)=some 193:=vY
theorem Tryz.errRow:(List.range Tryz.prog.types.size).all (fun t => !(Tryz.prog.rowNamed t [101,114,114,111,114]) || t == 106)=true:=vY
theorem Tryz.errHandle:typeHandle Tryz.prog 106=.pointer (some ⟨3,106,none⟩):=vY
theorem juV{W:vW}(h:laidMetH Tryz.prog [("errors.errorType",Rows.laid_errors_errorType),("guilloche/sha.cubes",Rows.laid_guilloche_sha_cubes)] W):ErrT W:=by
 have z:=(laidMetH_iff.1 h).2 ("errors.errorType",Rows.laid_errors_errorType) (by simp[Rows.laid_errors_errorType,DataW.handleName?]);have A:∃ e u ty,(Rows.laid_errors_errorType:DataW Unit).handleName?=some e/\(Tryz.prog.cutTypes.find? (·.1 == "internal/reflectlite.rtype")).map (·.2)=some u/\ty < Tryz.prog.types.size/\Tryz.prog.rowNamed ty e=true/\W.var? Tryz.prog "errors.errorType"=some #[.iface u (.agg #[typeHandle Tryz.prog ty])]:=z
 obtain⟨e,u,ty,E,H,J,K,o⟩:=A
 obtain rfl:u=193:=bV (H.symm.trans Tryz.rtypeCut);obtain rfl:e=[101,114,114,111,114]:=(bV (show some [101,114,114,111,114]=some e from E)).symm;have q:=dS.1 Tryz.errRow ty (dJ.2 J);rw[K]at q;obtain rfl:ty=106:=by simpa using q
 rw[Tryz.errHandle]at o
 have:=World.var?_cell Tryz.gErr o 0
 exact this
end
section
open Go Go.ChangeShapes Go.WideShapes Go.ChangeAt Go.RowKit
def juw:Obj->Obj
 | .cells _ t frozen=>.cells (jhU.map wv).toArray t frozen
 | o=>o
def jx9:Obj->Obj
 | .cells _ t frozen=>.cells #[.iface 193 (.agg #[.pointer (some ⟨3,106,none⟩)])] t frozen
 | o=>o
noncomputable def laidWorld(os:Os):vW:=
 { World.holding Tryz.prog os ⟨#[],#[],[]⟩with heap:=((World.holding Tryz.prog os ⟨#[],#[],[]⟩).heap.modify 0 juw).modify 1 jx9 }
theorem joc(os:Os)(args:Array vV):laidMetH Tryz.prog [("errors.errorType",Rows.laid_errors_errorType),("guilloche/sha.cubes",Rows.laid_guilloche_sha_cubes)] ((laidWorld os).forCall (fun _ _=>0) ⟨#[],args,[]⟩).memory:=
 laidMetH_of_parts (laidMet_of_run' 8 vY vY) vY
end
end Go.Proofs.YtmobgkphhbmhbaaGreatDoor
