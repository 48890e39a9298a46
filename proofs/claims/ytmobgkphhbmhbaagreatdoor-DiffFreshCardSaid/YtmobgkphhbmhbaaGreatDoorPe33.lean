/- Lemmas; each is under no condition but those that it states. -/
import Derived.Test.YtmobgkphhbmhbaaGreatDoorPe32
import Derived.Lib.SmallJoins
import Derived.Test.YtmobgkphhbmhbaaGreatDoorCards
import Derived.Test.YtmobgkphhbmhbaaGreatDoorTie
import Derived.Deep.DeepHandedRow
import Derived.Lay
namespace Go.Proofs.YtmobgkphhbmhbaaGreatDoor
set_option linter.unusedSimpArgs false
set_option linter.unusedVariables false
set_option maxRecDepth 100000
set_option maxHeartbeats 16000000
section
open Go Go.RowKit
attribute [local go_sem] Oper.semAt_some
theorem jtu{W0 W:vW}(hc:jbS W)(he:ErrT W){s bm:Nat}{room:Int}{U:vM}{S:vT}{n:Nat}(h:Tst W0 W s bm room U S n)(hn:n<=5000)(hU:InjL U)(hN:jvx U){l:vL}(hM:HasM S l)(u:vV)(cs:List Chg)(hu:RdC W u cs)(hnc:cs.length<=9223372036854775807)(hsc:∀ c∈cs,c.key.size<=9223372036854775807/\c.value.size<=9223372036854775807)(hr0:0<=room)(hr1:room<=9223372036854775807)(h0:jbf l cs=0)(hs:∀ t∈jaL (ja9 l cs),t∈U){k:Nat}(hk:(newM S (ja9 l cs)).length<=k)(hroom:(n:Int)+k<=room)(hk1:1<=k) :
  vQ 20 #[.pointer (some ⟨s,0,none⟩),.string (rootM l),u] W fun e E=>e=.returned (.tuple #[.string (rootM (ja9 l cs)),.int .i64 0])/\∃ o,Tst W0 E s bm room U o (n+k)/\HasM o (ja9 l cs)/\AddK W U S (ja9 l cs) (newM S (ja9 l cs)) o/\jad (fun z=>z=bm\/z∈S.map (·.2.1)) W E:=by
 have hb:=h.bds hn;refine (jtt W hc he s bm room S h.st (h.kp.nodes hN) l hM u cs hu hnc hsc hr0 hr1 hb.1 hb.2.1 hb.2.2).mono ?_;intro e E H
 obtain⟨o,q⟩:=jts W hU h.kp h0 hs H (by have:=h.len;omega)
 exact⟨q.res,o,h.add hk hk1 q,q.add.has hU (jdD h0) hs,q.add,q.kp⟩
theorem Tst.o{W0 W:vW}{s bm:Nat}{room:Int}{U:vM}{S:vT}{n:Nat}(h:Tst W0 W s bm room U S n){z:Nat}(hz:W.heap.size<=z):¬(z=bm\/z∈S.map (·.2.1)):=by
 rintro (rfl | e)
 ·obtain⟨E,H,hb,_⟩:=h.st.mp.mp
  have:=hb.lt;omega
 ·obtain⟨x,q,rfl⟩:=bC.1 e
  obtain⟨J,hb,_⟩:=(h.st.mp.items x q).cells
  have:=hb.lt;omega
theorem jm9{W:vW}{b:Nat}(xs:List Chg){T:TypeId}(hB:Blk W b (.cells (jdR xs).toArray T)):RdC W (.slice (some ⟨b,0,none⟩) xs.length xs.length) xs:=
 .inr ⟨b,0,xs.length,rfl,hB.lt,bM _,fun j x e=>by
  obtain⟨o,q,z⟩:=jcT xs j x e
  exact⟨by rw[cL];exact hB.cellL o,by rw[cL];exact hB.cellL q,by rw[cL];exact hB.cellL z⟩⟩
theorem jzh:makesN twP dwC (rootM dwQ)=0:=by unfold makesN;rw[if_pos dw_e,dw_a,if_pos rfl]
theorem jzi:makesN twP [] (rootM dwQ)=9:=by unfold makesN;rw[if_pos jzf,jzb,if_neg (fun e=>jx2 e.symm)]
theorem jvn(x:vB):(x.toList == x.toList)=true:=by rw[jdr];exact decide_eq_true rfl
theorem jmg(w:vW)(hc:jbS w)(he:ErrT w):vR 21 #[] w (.bool true):=by
 have HC:=Hd hc;have Z:=Hd he;clear hc he;go_enter Tryz.func21,Tryz.ntmps21;go_wp2_with fail
 have a2:=(ExtR w).alloc (.cells (jb2 twP).toArray 71);refine (jn0 _ (HC.o.ext a2) (Z.o.ext a2) _ twP (juw w twP 71) (by show 2<=9223372036854775807;omega) jx3).mono ?_;rintro e w2 (⟨rfl,hE,d9⟩ |⟨s,bm,S,rfl,hH⟩)
 ·exact absurd ⟨jxY,tw_p,jv1⟩ d9
 rw[show shaB (jau twP).text=rootM twP from rfl];have b2:=Hd a2;have b3:=Hd (hH.tst.more jq0);have HM:=Hd hH.has;clear hH a2;go_wp2_with fail
 have c3:=(ExtR w2).alloc (.cells (jdR dwC).toArray 59);have b4:=Hd (b3.o.grow c3);have c4:=Hd (juv w2 dwC 59);have b5:Ext w (w2.alloc (.cells (jdR dwC).toArray 59)):=b2.o.trans b4.o.ext;have hn:(newM S (ja9 twP dwC)).length<=1:=by rw[dw_a,jwu dw_b];exact bM _
 have b6:=jtu (HC.o.ext b5) (Z.o.ext b5) b4.o vI jjb jnL HM.o _ dwC c4.o (by show 2<=9223372036854775807;omega) jqZ vI vI dw_e (by rw[dw_a];exact jxZ) hn vI (bM _);rw[dw_a]at b6;clear c3 hn;refine b6.mono ?_;rintro e w4 ⟨rfl,S4,a3,c5,c9,d0⟩;have a4:=Hd ((Blk.new w2 (.cells (jdR dwC).toArray 59)).keeps d0 (b3.o.o (bM _)));have z:=Hd a3;have d1:=Hd c5;have H:=Hd (c9.more jjb jq0 HM.o);have hK:jdu S4 ⟨#[63]⟩=false:=by unfold jdu;rw[jzn z.o.kp vI];rfl
 have HK:=Hd hK;have a5:Hid (AllN S4):=a3.kp.nodes jnL;have a9:Hid (∀ x∈jam (jau twP),x∈dwU):=fun x hx=>jq0 x (jb0.1 hx);have d2:Hid (∀ x∈jam (jau dwQ),x∈dwU):=fun x hx=>jxZ x (jb0.1 hx);have Q:Hid (Ext w w4):=b2.o.trans a3.ext;clear a3 c5 c9 d0 b6 hK b4 b3 HM c4 b5 b2
 obtain⟨cb,d3⟩:=vE w2.heap.size
 rw[<-d3]at a4 ⊢;clear d3;go_wp2_with fail
 have hO:=jok w4 s bm 2000 S4 z.o.st H.o d1.o jjb a9.o d2.o;unfold OfP at hO;rw[jzc]at hO;refine hO.mono ?_;rintro e w5 ⟨v5,rfl,b7⟩;have d4:=Hd b7.rdT;have b8:=Hd b7.ext;clear b7 hO;go_wp2_with fail
 have hO:=jok w5 s bm 2000 S4 (z.o.st.ext b8.o) H.o H.o jjb a9.o a9.o;unfold OfP at hO;rw[jze]at hO;refine hO.mono ?_;rintro e w6 ⟨v6,rfl,b0⟩;have b9:=Hd (b8.o.trans b0.ext);have d5:=Hd (d4.o.ext b0.ext)
 obtain⟨a6,c6,rfl⟩:=b0.sl
 clear b0 hO b8 d4;go_wp2_with fail
 obtain⟨B,hB,hF⟩:=jig w6 s bm 2000 S4 (z.o.st.ext b9.o) a5.o (by have:=z.o.len;omega) H.o d1.o jjb a9.o d2.o
 obtain rfl:=dw_f hB;unfold jpZ at hF;rw[dw_s]at hF;refine hF.mono ?_;rintro e w7 ⟨v7,rfl,O⟩;have b1:=Hd (b9.o.trans O.ext);have d6:=Hd (d5.o.ext O.ext)
 obtain⟨a7,c7,rfl⟩:=O.sl
 obtain⟨g7,rfl⟩:=jeD O vI
 have q7:=jef O.own (j:=0) (u:=.string (rootM dwQ)) vF;have Q7:=Hd q7;clear O hF hB b9 d5 q7;go_wp2_with fail
 have d7:=juV w7 s bm 2000 S4 (z.o.st.ext b1.o) a5.o H.o (.slice (some ⟨cb,0,none⟩) 2 2) dwC (jm9 dwC (a4.o.keeps b1.o (fun h=>h))) (by show 2<=9223372036854775807;omega) jqZ;refine d7.mono ?_;intro e w8 hU;unfold js5 at hU;rw[if_pos dw_e]at hU;unfold OfP at hU;rw[dw_a,jzd]at hU
 obtain⟨v8,rfl,J⟩:=hU
 have c0:=Hd (b1.o.trans J.ext);have d8:=Hd (d6.o.ext J.ext);have Q8:=Hd (jaa Q7.o J.ext)
 obtain⟨a8,c8,rfl⟩:=J.sl
 obtain⟨g8,rfl⟩:=jeD J vI
 have q9:=J.own.cellAt 5 vI;have Q9:=Hd (show w8.cell? ⟨g8,5,none⟩=some (.bool true)from q9);clear J d7 b1 d6 Q7 q9;go_wp2_with fail
 refine vC (jzt w8 s bm 2000 S4 (z.o.st.ext c0.o) (rootM twP) ⟨#[63]⟩ (by rw[HK.o,Bool.and_false])) fun w9 X=>?_;have c1:=Hd (c0.o.trans X);have e0:=Hd (d8.o.ext X);have Q8:=Hd (jaa Q8.o X);have Q9:=Hd (jaa Q9.o X);clear X c0 d8;go_wp2_with fail
 refine vC (jwT w9 v5 (.slice (some ⟨cb,0,none⟩) 2 2) dwC e0.o (jm9 dwC (a4.o.keeps c1.o (fun h=>h))) (by show 2<=1000000;omega)) fun e1 K=>?_;have q:=Hd (c1.o.trans K);have q8:=jaa Q8.o K;have q9:=jaa Q9.o K;have hq:=jvn (rootM dwQ);clear K c1;go_wp2_with fail
 have hM:=jlD e1 (HC.o.ext (Q.o.trans q.o)) (Z.o.ext (Q.o.trans q.o)) s bm 2000 S4 (z.o.st.ext q.o) a5.o H.o (.slice (some ⟨cb,0,none⟩) 2 2) dwC (jm9 dwC (a4.o.keeps q.o (fun h=>h))) (by show 2<=9223372036854775807;omega) jqZ (rootM dwQ);rw[jzh]at hM;refine hM.mono ?_;rintro e e2 ⟨rfl,a0⟩;have E:=Hd (q.o.trans a0);clear a0 hM q q8 q9 hq;go_wp2_with fail
 have hM:=jlD e2 (HC.o.ext (Q.o.trans E.o)) (Z.o.ext (Q.o.trans E.o)) s bm 2000 S4 (z.o.st.ext E.o) a5.o H.o (.slice none 0 0) [] (.inl ⟨_,_,rfl,rfl⟩) (cC _) (fun c hc=>(cM hc).elim) (rootM dwQ);rw[jzi]at hM;refine hM.mono ?_;rintro e e3 ⟨rfl,a1⟩;have c2:=Hd (E.o.trans a1);clear a1 hM E;go_wp2_with fail
 go_ret
 exact⟨rfl,Q.o.trans c2.o⟩
theorem SRow.over{F:BSet}{w0 w w':vW}{v:vV}{n:Nat}{xs:vM}(h:SRow w0 w v n xs)(k:jad F w w')(hF:∀ b,F b->b < w0.heap.size):RdS w' v xs:=
 jhl (jaY h.own k fun b hb e=>by have:=h.new b hb;have:=hF b e;omega)
def jxx(l:vL)(w:vW)(e:Ending)(w':vW):Prop:=∃ a n c k L,e=.returned (.tuple #[.slice a n c,.int .i64 k])/\SRow w w' (.slice a n c) n L/\n=L.length/\n<=121/\k=jat l/\(jat l=0->L=jaL l)
theorem jlL(w:vW)(hc:jbS w)(v:vV)(l:vL)(hv:RdP w v l)(hn:l.length<=9223372036854775807)(hs:jga l) :
  vQ 30 #[v] w (jxx l w):=by
 by_cases h:jat l=0
 ·refine (joi w v l hc hv h).mono ?_
  rintro e w' ⟨u,n,rfl,o⟩;have o:SRow w w' u n (jaL l):=o;have q:(jaL l).length=n:=by have:=o.len;simpa using this
  obtain⟨a,c,rfl⟩:=o.sl
  exact⟨a,n,c,0,_,rfl,o,q.symm,by rw[<-q];exact jc0 h,h.symm,fun _=>rfl⟩
 ·refine (jlK w v l hv hn hs h).mono ?_
  rintro e w' ⟨rfl,z⟩
  exact⟨none,0,0,jat l,[],rfl,ORow.nil _ _ z,rfl,by omega,rfl,fun E=>absurd E h⟩
theorem jf7{ops:Array Oper}{rest:List Oper}{d:Option Tmp}{ty:TypeId}{pos:String}{af:Array Edge}{a:Act}{w0 w1 w:vW}{Q:Exit->Act->vW->Prop}{s x:Operand}{v pv:vV}{n m N:Nat}{xs:List vV}{ys:vM}
  (hR:ORow 9 1 w0 w v n xs) (hP:SRow w1 w pv m ys) (hN:n+m=N) (hs:a.eval s=v) (hx:a.eval x=pv) (h63:N<=1000000)
  (h:∀ o w',ORow 9 1 w0 w' o N (xs++ys.map Value.string)->wpList Tryz.prog ops Q rest (a.put d o) w') :
  wpList Tryz.prog ops Q (⟨d,.call { callee:=.builtin .append,args:=#[s,x],argTypes:=#[22,22] },ty,pos,af,none⟩ :: rest) a w:=by
 subst hN
 obtain⟨Z,⟨rfl,q⟩ |⟨g,z,E,rfl,q,h4,h5,h6,h7⟩⟩:=hP.own
 ·have H:ys=[]:=by
   have:=hP.len
   rw[q]at this;exact bE (by simpa using this)
  subst H
  obtain⟨ad,c,rfl⟩:=hR.sl
  have J:n<=c:=by
   obtain⟨_,⟨e,e2⟩ |⟨g,z,E,e,_,_,k5,_⟩⟩:=hR.own
   ·omega
   ·obtain⟨_,_,e⟩:=dY e;omega
  refine jf6 Tryz.sStrs hs hx J (h _ _ ?_);subst q;simpa using hR
 ·exact ja5 Tryz.sStrs hR s x rfl hs hx (fun j u K=>hP.own.cells (g:=g) rfl j u K) (fun u O=>by obtain⟨y,_,rfl⟩:=bC.1 O;rfl) (by have:=hP.len;simpa using this) rfl (by unfold maxLen;omega) vO (fun o w' X _ _=>h o w' X)
def jxb(w:vW)(e:Ending)(w':vW):Prop:=e=.returned (.tuple #[.pointer none,.string ⟨#[]⟩,.string ⟨#[]⟩])/\Ext w w'
structure jf8(a b:vL)(more:vM)(w:World)(s bm:Nat)(S:vT)(w':World):Prop where
 fa:fewB a=true
 fb:fewB b=true
 ha:HasM S a
 hb:HasM S b
 inj:InjL (jaL a++jaL b++more)
 tst:Tst w w' s bm 2000 (jaL a++jaL b) S 250
 key:∀ k,k∈S.map (·.1)↔(∃ t∈jaL a,k=ky t)\/∃ t∈jaL b,k=ky t
 held:∀ k,jik (atL S k)=(if k=ky (jau a).text then 1 else 0)+(if k=ky (jau b).text then 1 else 0)
def jyL(a b:vL)(more:vM)(w:vW)(e:Ending)(w':vW):Prop:=jxb w e w'\/∃ s bm S,e=.returned (.tuple #[.pointer (some ⟨s,0,none⟩),.string (rootM a),.string (rootM b)])/\jf8 a b more w s bm S w'
theorem jf8.nodes{a b:vL}{more:vM}{w w':vW}{s bm:Nat}{S:vT}(h:jf8 a b more w s bm S w'):jhM S:=h.tst.kp.nodes fun t e=>(bO.1 e).elim (jdN h.ha.ok t) (jdN h.hb.ok t)
theorem ju5(w:vW)(hc:jbS w)(he:ErrT w)(u v mv:vV)(a b:vL)(mo:vM)(ha:RdP w u a)(hb:RdP w v b)(hna:a.length<=9223372036854775807)(hnb:b.length<=9223372036854775807)(hsa:jga a)(hsb:jga b){mn:Nat}(hm:w.ownsRow 0 9 1 mv mn (mo.map Value.string))(hmn:mn<=100000) :
  vQ 22 #[u,v,mv] w (jyL a b mo w):=by
 have HC:=Hd hc;have c5:=Hd he;have HA:=Hd ha;have HB:=Hd hb;have HN:=Hd (bB (bB hna hnb) (bB hsa hsb));have e9:=Hd hm
 obtain⟨ua,uc,rfl⟩:=ha.sl
 obtain⟨va,vc,rfl⟩:=hb.sl
 clear hc he ha hb hna hnb hsa hsb hm;go_enter Tryz.func22,Tryz.ntmps22;go_wp2_with fail
 refine vH (jvd w _ b HB.o HN.o.1.2 HN.o.2.2) fun w1 E=>?_
 obtain⟨fb,b0⟩:=vE (fewB b)
 have f0:=Hd b0;rw[<-b0];clear b0;go_wp2_with fail
 have H:vQ 53 #[.slice ua a.length uc] w1 fun e w2=>∃ sp xr,e=.returned (.tuple #[.pointer sp,.string xr])/\Ext w1 w2/\(sp=none\/∃ s bm S,sp=some ⟨s,0,none⟩/\xr=rootM a/\jfF a w1 s bm S w2):=by
  refine (jn0 w1 (HC.o.ext E.o) (c5.o.ext E.o) _ a (HA.o.ext E.o) HN.o.1.1 HN.o.2.1).mono ?_;rintro e w2 (⟨rfl,hE,_⟩ |⟨s,bm,S,rfl,H⟩)
  ·exact⟨none,_,rfl,hE,.inl rfl⟩
  ·exact⟨_,_,rfl,H.ext,.inr ⟨s,bm,S,rfl,rfl,H⟩⟩
 refine H.mono ?_;rintro e w2 ⟨sp,xr,rfl,b1,c6⟩;have f1:=Hd c6;have f7:=Hd b1;have b2:=Hd (E.o.trans b1);clear H c6 b1;go_wp2_with fail
 refine (jlL w2 (HC.o.ext b2.o) _ b (HB.o.ext b2.o) HN.o.1.2 HN.o.2.2).mono ?_;rintro e w6 ⟨ya,yn,yc,k1,Y,rfl,O,c7,e7,c8,c9⟩;have d0:=Hd O;have b3:=Hd (b2.o.trans O.ext);have b4:=Hd (bB c7 (bB c8 c9));have a0:=Hd O.ext;clear O c7 c9 c8;go_wp2_with fail
 refine (jlL w6 (HC.o.ext b3.o) _ a (HA.o.ext b3.o) HN.o.1.1 HN.o.2.1).mono ?_;rintro e w7 ⟨xa,xn,xc,k2,X,rfl,hX,d1,e8,d2,d3⟩;have d4:=Hd hX;have b5:=Hd (d0.o.mono hX.ext);have b6:=Hd (b3.o.trans hX.ext);have a1:=Hd (a0.o.trans hX.ext);have f2:=Hd (bB d1 (bB d2 d3));have Q:Hid (SRow (bare w7) w7 mv mn mo):=ORow.any (jbh e9.o b6.o);clear hX d1 d3 d2 a0 d0
 obtain⟨N,hN⟩:∃ N,xn+yn=N:=⟨_,rfl⟩
 obtain⟨N2,d5⟩:∃ N2,N+mn=N2:=⟨_,rfl⟩
 have b9:N<=1000000:=vO
 have c0:xn<=1000000:=vO
 have a2:N2<=1000000:=vO
 have d6:=Hd (bB hN d5);have d7:=Hd (show ORow 9 1 w7 (w7.alloc (.cells #[] 9)) (.slice (some ⟨w7.heap.size,0,none⟩) 0 0) 0 []from ORow.lit #[] (ExtR w7) vI rfl);have d8:=Hd (d4.o.mono ((ExtR w7).alloc (.cells #[] 9)));have f3:=Hd (Q.o.mono ((ExtR w7).alloc (.cells #[] 9)));clear hN d5;go_wp2_with (first
  |(at_builtin;(refine jf7 d7.o d8.o (cL xn) rfl rfl c0 ?_;intro v8 w8 r1;have d9:=Hd r1;have e0:=Hd (b5.o.mono r1.ext);have f4:=Hd (Q.o.mono r1.ext);clear r1))
  |(at_builtin;(refine jf7 d9.o e0.o d6.o.1 rfl rfl b9 ?_;intro v9 w9 r2;have e1:=Hd r2;have e2:=Hd (Q.o.mono r2.ext);clear r2))
  |(at_builtin;(refine jf7 e1.o e2.o d6.o.2 rfl rfl a2 ?_;intro f8 e3 r3;have e4:=Hd r3;obtain⟨aa,ac,c2⟩:=r3.sl;subst c2;clear r3)))
 have J:=Hd (show SRow w7 e3 (.slice aa N2 ac) N2 (X++Y++mo)from by have h:=e4.o;rw[cP, <-bY, <-bY]at h;exact h);have b7:=Hd (b6.o.trans J.o.ext);have a3:=Hd (a1.o.trans J.o.ext);have e5:=Hd (b5.o.mono J.o.ext);have c3:=Hd (show (X++Y++mo).length=N2 from by have:=J.o.len;simpa using this);clear d9 e1 e4 e0 f4 e2 f3 d7 d8 b6 d4 b5 a1;refine (jmr e3 (HC.o.ext b7.o) _ (X++Y++mo) (SRow.rd J.o) (by rw[c3.o];exact a2)).mono ?_;rintro e Z ⟨q,rfl,hb,hE⟩;have z:=Hd (b7.o.trans hE);have a4:=Hd (a3.o.trans hE);have c4:=Hd (e5.o.mono hE);have f5:=Hd hb;clear hE hb a3 e5 b7 J;cases fb with
 | false =>
  go_wp2_with fail
  refine bodyPost_ret (results_tmp3 rfl _ _ _) rfl ?_;exact .inl ⟨rfl,z.o⟩
 | true =>
 rcases f1.o with rfl |⟨s,bm,S,rfl,rfl,H⟩
 ·go_wp2_with fail
  refine bodyPost_ret (results_tmp3 rfl _ _ _) rfl ?_;exact .inl ⟨rfl,z.o⟩
 by_cases hk:k1=0
 case neg =>
  have c1:(k1 != 0)=true:=by simpa using hk
  go_wp2_with fail
  refine bodyPost_ret (results_tmp3 rfl _ _ _) rfl ?_;exact .inl ⟨rfl,z.o⟩
 subst hk;cases q with
 | false =>
  go_wp2_with fail
  refine bodyPost_ret (results_tmp3 rfl _ _ _) rfl ?_;exact .inl ⟨rfl,z.o⟩
 | true =>
 have K:jat b=0:=b4.o.2.1.symm;have e6:=f2.o.2.2 H.ok;have a8:=b4.o.2.2 K;have HI:=Hd (show InjL (jaL a++jaL b++mo) by have:=f5.o.1 rfl;rw[e6,a8]at this;exact this);have hU:InjL (jaL a++jaL b):=fun x hx y hy e=>HI.o x (cN _ hx) y (cN _ hy) e;have b8:=c4.o;rw[a8]at b8;have a5:=b4.o.1;rw[a8]at a5;have f9:=Hd (H.tst.grow a4.o);have hT:=(H.tst.grow a4.o).more (V:=jaL a++jaL b) (fun t h=>cN _ h);have a9:=hT.bds vI;have a6:=jmo Z (HC.o.ext z.o) (c5.o.ext z.o) s bm 2000 S hT.st _ (jaL b) (SRow.rd b8) False (jgK (jdN K)) vO (jau b).text (jf5 K).head vI vI a9.1 a9.2.1 a9.2.2;have a7:=Hd (fun(e:Ending) (W':vW) (hA:jkL False Z s bm 2000 S (jaL b) e W')=>(show e=.returned (.tuple #[.string (rootM b),.int .i64 0])/\∃ S',jf8 a b mo w s bm S' W' from by
  rcases jno Z Z hU hT.kp (jon S K) (fun t h=>fJ _ h) vO (ExtR Z) hA with⟨_,_,h3⟩ |⟨S',O⟩
  ·have:=H.len
   omega
  ·refine⟨O.res,S',H.few,f0.o.symm,O.add.more hU (fun t h=>cN _ h) H.has,O.add.has hU K (fun t h=>fJ _ h),HI.o,?_,fun k=>?_,fun k=>?_⟩
   ·have h1:=hT.add (k:=121) vO vI O
    refine⟨E.o.trans h1.ext,h1.st,h1.kp,by have:=h1.len;omega,bL E.o.size h1.bnew,fun x hx=>bL E.o.size (h1.new x hx),fun x hx=>by have:=h1.hb x hx;omega⟩
   ·rw[O.add.key,H.key]
   ·rw[O.add.held,H.held]))
 clear hT a9 b8 a8 e6 H hU a5 K;go_wp2_with fail
 refine a6.mono ?_;intro e W' hA
 obtain⟨rfl,S',hB⟩:=a7.o e W' hA
 have f6:=Hd hB;clear hA hB a6;go_wp2_with fail
 refine bodyPost_ret (results_tmp3 rfl _ _ _) rfl ?_;exact .inr ⟨s,bm,S',rfl,f6.o⟩
end
section
open Go Go.RowKit
theorem jqW:∀ l m:vL,(jaW m l).map Chg.key=(jaW l m).map Chg.key:=by
 intro l m
 fun_induction jaW l m with
 | case1=>simp[jaW]
 | case2 p l ih=>rw[jaW,bJ,bJ,ih]
 | case3 q m ih=>rw[jaW,bJ,bJ,ih]
 | case4 p l q m hlt ih =>
  rw[jaW,if_neg (by rw[jlz _ _ hlt];simp),if_pos hlt,bJ,bJ,ih]
 | case5 p l q m hlt hgt ih =>
  rw[jaW,if_pos hgt,bJ,bJ,ih]
 | case6 p l q m hlt hgt hv ih =>
  have o:(q.2.toList == p.2.toList)=true:=by
   have h:p.2.toList=q.2.toList:=by simpa using hv
   rw[h];simp
  rw[jaW,if_neg hgt,if_neg hlt,if_pos o,ih]
 | case7 p l q m hlt hgt hv ih =>
  have o:¬(q.2.toList == p.2.toList)=true:=fun e=>hv (by
   have h:q.2.toList=p.2.toList:=by simpa using e
   rw[h];simp)
  have z:p.1=q.1:=jrB _ _ (by simpa using hlt) (by simpa using hgt);rw[jaW,if_neg hgt,if_neg hlt,if_neg o,bJ,bJ,ih];show p.1 :: _=q.1 :: _;rw[z]
theorem jph(l m:vL):(jb3 m l).map Chg.key=(jb3 l m).map Chg.key:=by
 unfold jb3
 by_cases h:jat l=0/\jat m=0
 ·rw[if_pos h,if_pos ⟨h.2,h.1⟩,jqW]
 ·rw[if_neg h,if_neg fun e=>h ⟨e.2,e.1⟩]
theorem jqV{l m:vL}(hl:jat l=0)(hm:jat m=0):jb3 l m=[]↔l=m:=by
 constructor
 ·intro h
  have e:=jfp hl hm;rw[h]at e;exact jgz (jaw hl).rise (jaw hm).rise fun k=>e.rest k fun c o=>(cM o).elim
 ·rintro rfl;exact jpg l
theorem jsx(w:vW){a b:vL}(ha:jat a=0)(hb:jat b=0)(hI:InjL (jaL a++jaL b)):rootM a=rootM b↔a=b:=by
 constructor
 ·intro h
  have e:∀ {l:vL},∀ t∈jam (jau l),t∈jaL l:=fun {l} t o=>(jaN _ _).2 o;have o:(jau a).text=(jau b).text:=hI _ (cN _ (e _ (jbB _))) _ (fJ _ (e _ (jbB _))) h;exact joL w ha hb (fun x q y z=>hI x (cN _ (e x q)) y (fJ _ (e y z))) o
 ·rintro rfl;rfl
end
section
open Go Go.RowKit
attribute [local go_sem] Oper.semAt_some
theorem jf8.flatA{a b:vL}{more:vM}{w w':vW}{s bm:Nat}{S:vT}(h:jf8 a b more w s bm S w'):∀ x∈jam (jau a),x∈jaL a++jaL b:=fun x e=>cN _ (jb0.1 e)
theorem jf8.flatB{a b:vL}{more:vM}{w w':vW}{s bm:Nat}{S:vT}(h:jf8 a b more w s bm S w'):∀ x∈jam (jau b),x∈jaL a++jaL b:=fun x e=>fJ _ (jb0.1 e)
theorem jf8.injU{a b:vL}{more:vM}{w w':vW}{s bm:Nat}{S:vT}(h:jf8 a b more w s bm S w'):InjL (jaL a++jaL b):=fun x o y q e=>h.inj x (cN _ o) y (cN _ q) e
def jy0(w:vW)(n:Nat)(iv:vV)(wr:vW):Prop:=∃ i:Nat,i<=n/\iv=.int .i64 i/\Ext w wr
theorem juT(w:vW)(hc:jbS w)(he:ErrT w)(u v:vV)(a b:vL)(ha:RdP w u a)(hb:RdP w v b)(hna:a.length<=9223372036854775807)(hnb:b.length<=9223372036854775807)(hsa:jga a)(hsb:jga b) :
  vR 9 #[u,v] w (.bool true):=by
 have HC:=Hd hc;have c0:=Hd he;have HA:=Hd ha;have HB:=Hd hb;have HN:=Hd (bB (bB hna hnb) (bB hsa hsb))
 obtain⟨ua,uc,rfl⟩:=ha.sl
 obtain⟨va,vc,rfl⟩:=hb.sl
 clear hc he ha hb hna hnb hsa hsb;go_enter Tryz.func9,Tryz.ntmps9;go_wp2_with fail
 refine vH (jmg w HC.o c0.o) fun w1 Z=>?_;go_wp2_with fail
 refine (ju5 w1 (HC.o.ext Z.o) (c0.o.ext Z.o) _ _ (.slice none 0 0) a b [] (HA.o.ext Z.o) (HB.o.ext Z.o) HN.o.1.1 HN.o.1.2 HN.o.2.1 HN.o.2.2 (fH _ _ _ _) vI).mono ?_;rintro e w2 (⟨rfl,hE⟩ |⟨s,bm,S,rfl,hY⟩)
 ·have b0:=Hd (Z.o.trans hE)
  clear hE;go_wp2_with fail
  go_ret
  exact⟨rfl,b0.o⟩
 have z:=Hd hY;have b0:=Hd (Z.o.trans hY.tst.ext);have HR:=Hd (jsx w hY.ha.ok hY.hb.ok hY.injU)
 obtain⟨ra,b2⟩:=vE (rootM a)
 obtain⟨rb,b3⟩:=vE (rootM b)
 have a6:=Hd (bB b2 b3);rw[<-b2, <-b3]at HR ⊢;clear hY b2 b3;go_wp2_with fail
 have E:=jok w2 s bm 2000 S z.o.tst.st z.o.ha z.o.hb z.o.injU z.o.flatA z.o.flatB;rw[<-a6.o.1, <-a6.o.2]at E;refine E.mono ?_;rintro e w3 ⟨v3,rfl,b4⟩;have b5:=Hd b4.ext;have c1:=Hd b4;clear b4 E;go_wp2_with fail
 have E:=jok w3 s bm 2000 S (z.o.tst.st.ext b5.o) z.o.hb z.o.ha z.o.injU z.o.flatB z.o.flatA;rw[<-a6.o.1, <-a6.o.2]at E;refine E.mono ?_;rintro e w4 ⟨v4,rfl,a1⟩;have e5:=Hd (b5.o.trans a1.ext);have b6:=Hd a1;have a0:=Hd (ORow.mono c1.o a1.ext);have a7:=Hd (b0.o.trans (b5.o.trans a1.ext))
 obtain⟨a3,c3,rfl⟩:=c1.o.sl
 obtain⟨a4,c4,rfl⟩:=a1.sl
 clear a1 E;have J:=jph a b;have O:(jb3 b a).length=(jb3 a b).length:=by have:=congrArg List.length J;simpa using this
 obtain⟨n,hn⟩:=vE (jb3 a b).length
 rw[<-hn]at O;rw[O, <-hn];have H:=Hd (bB hn O);have e6:n<=80:=by rw[hn];exact ji9 (jaw z.o.ha.ok).len (jaw z.o.hb.ok).len
 have a5:=Hd J;clear J hn O;go_wp2_with fail
 go_loopw [13] (fun iv wr=>jy0 w4 n iv wr) (fun iv _=>n - (intOf iv).toNat)
 case atStart=>exact⟨0,cC _,rfl,ExtR _⟩
 case round =>
  obtain⟨i,hi,rfl,hE⟩:=hrel
  have q:=Hd hE;clear hE
  by_cases hlt:i < n
  ·obtain⟨c,hc⟩:∃ c,(jb3 a b)[i]?=some c:=⟨_,bA (by rw[<-H.o.1];exact hlt)⟩
   obtain⟨d,hd⟩:∃ d,(jb3 b a)[i]?=some d:=⟨_,bA (by rw[H.o.2];exact hlt)⟩
   have b7:d.key=c.key:=by
    have E:=congrArg (fun l:vM=>l[i]?) a5.o;simp only[cA,hc,hd,gB]at E;exact bV E
   obtain⟨g3,rfl⟩:=jeD a0.o (by rw[<-H.o.1];omega)
   obtain⟨g4,rfl⟩:=jeD b6.o (by rw[H.o.2];omega)
   obtain⟨e1,_,e3⟩:=jcT _ _ _ hc
   obtain⟨f1,_,f3⟩:=jcT _ _ _ hd
   have d4:=H.o.1;have d5:=H.o.2;have q1:=jaa (show w4.cell? ⟨g3,i * 3,none⟩=_ by rw[a0.o.own.cellAt (i * 3) vO,e1]) q.o;have q3:=jaa (show w4.cell? ⟨g3,i * 3+2,none⟩=_ by rw[a0.o.own.cellAt (i * 3+2) vO,e3]) q.o;have p1:=jaa (show w4.cell? ⟨g4,i * 3,none⟩=_ by rw[b6.o.own.cellAt (i * 3) vO,f1]) q.o;have p3:=jaa (show w4.cell? ⟨g4,i * 3+2,none⟩=_ by rw[b6.o.own.cellAt (i * 3+2) vO,f3]) q.o;rw[b7]at p1;have Q:(jiR b c.key).isSome = !c.gone:=by
    have h:=(jfp z.o.ha.ok z.o.hb.ok).done c (bI hc);rw[jgT,show look b c.key.data.toList=c.o from h];unfold Chg.o;cases c.gone <;> rfl
   have X:(jiR a c.key).isSome = !d.gone:=by
    have h:=(jfp z.o.hb.ok z.o.ha.ok).done d (bI hd);rw[<-b7,jgT,show look a d.key.data.toList=d.o from h];unfold Chg.o;cases d.gone <;> rfl
   obtain⟨K,a2⟩:=vE c.key
   obtain⟨cg,c2⟩:=vE c.gone
   obtain⟨dg,c5⟩:=vE d.gone
   rw[<-a2]at q1 p1 Q X;rw[<-c2]at q3 Q;rw[<-c5]at p3 X;have c6:=Hd (bB Q X);have P1:=Hd p1;have P3:=Hd p3;have Q1:=Hd q1;have Q3:=Hd q3;have c7:=Hd hlt;have b1:(i:Int) < (n:Int):=vO
   have c8:a.length<=1000000:=by have:=(jaw z.o.ha.ok).len;omega
   have c9:b.length<=1000000:=by have:=(jaw z.o.hb.ok).len;omega
   have d0:=Hd (bB c8 c9);clear hc hd b7 e1 e3 f1 f3 d4 d5 a2 c2 c5 Q X p1 p3 q3 hlt c8 c9;go_wp2_with fail
   refine vC (jve wr _ a K (HA.o.ext (a7.o.trans q.o)) d0.o.1) fun w5 a8=>?_;have d2:=Hd (q.o.trans a8);have q1:=jaa Q1.o a8
   obtain⟨fo,b8⟩:=vE (jiR a K)
   have hs:fo.isSome = !dg:=by rw[b8];exact c6.o.2
   rw[<-b8,show optV fo=.tuple #[.string (fo.getD ⟨#[]⟩),.bool (!dg)]from by rw[<-hs];cases fo <;> rfl];have d6:=Hd a8;clear a8 hs b8;go_wp2_with fail
   refine vH (jve w5 _ b K (HB.o.ext (a7.o.trans d2.o)) d0.o.2) fun w6 d3=>?_;have d7:=Hd (d2.o.trans d3);have a9:=Hd (d6.o.trans d3)
   obtain⟨go,b9⟩:=vE (jiR b K)
   have hs:go.isSome = !cg:=by rw[b9];exact c6.o.1
   rw[<-b9,show optV go=.tuple #[.string (go.getD ⟨#[]⟩),.bool (!cg)]from by rw[<-hs];cases go <;> rfl];clear hs b9 q1;go_wp2_with fail
   have Q1:=Hd (jaa Q1.o a9.o);have Q3:=Hd (jaa Q3.o a9.o);have P1:=Hd (jaa P1.o a9.o);have P3:=Hd (jaa P3.o a9.o);have d8:=jvn K;have d9:(K.toList != K.toList)=false:=by simp
   refine jai (List.range 29) Ext ExtR ExtT vY vY vY ?_;show MixK _ _ _ _ [0,1,2,3,4,5,6,7,8,9,10,11,12,13,14,15,16,17,18,19,20,21,22,23,24,25,26,27,28] _ _ _;iterate 4 refine vK ?_
   refine qKL ⟨g3,i * 3,none⟩ _ rfl (fun w1 E=>jas (fun w=>by kernel_rfl) (jaa (jaa Q1.o (jaj _)) E)) ?_;refine vS ?_;iterate 4 refine vK ?_
   refine qKL ⟨g4,i * 3,none⟩ _ rfl (fun w1 E=>jas (fun w=>by kernel_rfl) (jaa (jaa P1.o (jaj _)) E)) ?_;refine vS ?_
   refine vK ?_
   iterate 5 refine vK ?_
   refine qKL ⟨g3,i * 3+2,none⟩ _ rfl (fun w1 E=>jas (fun w=>by kernel_rfl) (jaa (jaa Q3.o (jaj _)) E)) ?_;refine vS ?_;have e0:(cg == !cg)=false:=by cases cg <;> rfl
   have e2:(dg == !dg)=false:=by cases dg <;> rfl
   iterate 2 refine vK ?_
   iterate 6 refine vK ?_
   refine qKL ⟨g4,i * 3+2,none⟩ _ rfl (fun w1 E=>jas (fun w=>by kernel_rfl) (jaa (jaa P3.o (jaj _)) E)) ?_;refine vS ?_;iterate 2 refine vK ?_
   refine vK ?_
   refine qKE (fun w7 h7=>?_);have e4:=Hd (d7.o.trans ((jaj _).trans h7));clear h7 d8 d9 e0 e2;go_wp2_with fail
   go_roundw
   case rel=>exact⟨i+1,by have:=c7.o;omega,by go_num,e4.o⟩
   case measure=>have:=c7.o;simp[intOf];omega
  ·obtain rfl:i=n:=vO
   have d1:¬(i:Int) < (i:Int):=vO
   have hz:(jb3 a b=[])↔ra=rb:=by
    rw[jqV z.o.ha.ok z.o.hb.ok];exact HR.o.symm
   by_cases h0:i=0
   ·have hq:(ra.toList == rb.toList)=true:=by
     rw[jdr];exact decide_eq_true (hz.1 (bE (by rw[<-H.o.1];exact h0)))
    subst h0;clear hz;go_wp2_with fail
    go_ret
    exact⟨rfl,a7.o.trans q.o⟩
   ·have hq:(ra.toList == rb.toList)=false:=by
     rw[jdr];exact decide_eq_false fun e=>h0 (by have:=congrArg List.length (hz.2 e);rw[<-H.o.1]at this;exact this)
    have e7:((i:Int) == 0)=false:=by simpa using h0
    clear hz;go_wp2_with fail
    go_ret
    exact⟨rfl,a7.o.trans q.o⟩
end
section
open Go Go.RowKit
section
variable {w:vW} {s bm:Nat} {room:Int} {S:vT} {L:vM} {top:vB} {G:vT} {M:vM} {e:Ending} {w':vW}
end
end
section
open Go Go.RowKit
structure PtR(U:vM)(f:Nat)(l:vL)(t:vB):Prop where
 ok:jaq f l
 text:t=(jab (f+1) l).text
 sub:∀ x∈jam (jab (f+1) l),x∈U
theorem jm6{U:vM}{f:Nat}{l:vL}{t:vB}(h:PtR U f l t):PtR U 12 l t:=by
 have o:jaq 12 l:=⟨fun p q=>⟨(h.ok.size p q).2.1,(h.ok.size p q).2⟩,h.ok.rise⟩;have e:jab (f+1) l=jab (12+1) l:=by
  rcases Nat.le_total f 12 with hf | hf
  ·exact (jfk f 12 l h.ok hf).2
  ·exact (jfk 12 f l o hf).2.symm
 exact⟨o,by rw[<-e];exact h.text,by rw[<-e];exact h.sub⟩
theorem jyx(U:vM):∀ (f:Nat) (l:vL),jaq f l->(∀ x∈jam (jab (f+1) l),x∈U)->∀ t∈jam (jab (f+1) l),∃ g m,PtR U g m t:=by
 intro f;induction f with
 | zero =>
  intro l h q t o;have z:jam (jab (0+1) l)=(jab (0+1) l).text :: jay (jan (jab 0) l):=by
   show jam (.mk (jaS (jak (jab 0) l)) (jan (jab 0) l))=_;rw[jam];rfl
  have H:jan (jab 0) l=[]:=by have:=jbv h;unfold jan;rw[if_pos vO]
  rw[z,H]at o;simp[jay]at o
  exact⟨0,l,h,o,q⟩
 | succ f ih =>
  intro l h q t o;have z:jam (jab (f+1+1) l)=(jab (f+1+1) l).text :: jay (jan (jab (f+1)) l):=by
   show jam (.mk (jaS (jak (jab (f+1)) l)) (jan (jab (f+1)) l))=_;rw[jam];rfl
  rw[z]at o;rcases bK.1 o with e | o
  ·exact⟨f+1,l,h,e,q⟩
  ·obtain⟨K,E,o⟩:=jbb.1 o
   obtain⟨g,m,e,rfl,J,_⟩:=jeP h E
   obtain rfl:f=g:=vO
   exact ih m J (fun x O=>q x (by rw[z];exact bD _ (jbb.2 ⟨_,E,O⟩))) t o
theorem jxR{T:vM}{k:Key}(h:0 < cK T k):∃ r∈T,r.data.toList=k:=by
 unfold cK at h
 obtain⟨r,o,e⟩:=bC.1 (fZ.1 h)
 exact⟨r,o,e⟩
theorem jr8(w:vW){U:vM}(hU:InjL U){S:vT}(hK:Kp U S)(hin:∀ x∈S,∃ m,jat m=0/\(∀ t∈jaL m,t∈U)/\∃ t∈jaL m,x.1=ky t)(G:Key->Prop)(hG:∀ x∈S,0 < x.2.2.held->G x.1)(hcl:∀ x∈S,G x.1->∀ r∈x.2.2.refs,G r.data.toList):∀ x∈S,G x.1:=by
 have X:∀ x∈S,∃ f l,PtR U f l x.2.2.text:=fun x o=>by
  obtain⟨m,E,hs,t,ht,e⟩:=hin x o
  obtain⟨t',a5,e1,e2,_⟩:=hK.is x o
  have:t'=t:=jn6 hU a5 (hs t ht) (e1.symm.trans e)
  subst this;rw[e2];exact jyx U 12 (jaR m) (jbt (jaw E)) (fun x o=>hs x ((jaN _ _).2 o)) t' ((jaN _ _).1 ht)
 have a2:∀ x∈S,¬ G x.1->∃ y∈S,¬ G y.1/\∃ r∈y.2.2.refs,r.data.toList=x.1:=fun x o O=>by
  have h1:=hK.cnt.held x o;have h2:¬ 0 < x.2.2.held:=fun h=>O (hG x o h);have h3:=hK.full x o;have h4:=hK.cnt.used x o
  obtain⟨r,H,e⟩:=jxR (T:=jcs S) (k:=x.1) vO
  obtain⟨y,q,H⟩:=cI.1 H
  exact⟨y,q,fun hg=>O (by rw[<-e];exact hcl y q hg r H),r,H,e⟩
 have Q:∀ x∈S,∀ f l,PtR U f l x.2.2.text->∀ y∈S,∀ g m,PtR U g m y.2.2.text->(∃ r∈y.2.2.refs,r.data.toList=x.1)->∃ J,g=J+1/\PtR U J l x.2.2.text:=by
  intro x o f l Z y q g m E ⟨r,H,e⟩
  obtain⟨ty,_,_,e2,e3⟩:=hK.is y q
  obtain⟨tx,a6,f1,f2,_⟩:=hK.is x o
  have hI:jbj ty (jak (jab g) m):=⟨by rw[<-e2];exact E.text,g,(good g m E.ok).1⟩;rw[e3,jcX w (jcu hI) hI,jda g m E.ok]at H
  obtain⟨K,a3,rfl⟩:=bC.1 H
  have a4:∀ z∈jam K,z∈U:=fun z hz=>E.sub z (by
   show z∈jam (.mk (jaS (jak (jab g) m)) (jan (jab g) m));rw[jam];exact bD _ (jbb.2 ⟨K,a3,hz⟩))
  obtain⟨J,m',rfl,rfl,a7,_⟩:=jeP E.ok a3
  have et:(jab (J+1) m').text=tx:=jn6 hU (a4 _ (jbB _)) a6 (e.trans f1);have hM:PtR U J m' x.2.2.text:=⟨a7,by rw[f2,et],a4⟩;have h1:=jm6 Z;have h2:=jm6 hM
  have:l=m':=jiq w 12 l m' h1.ok h2.ok (fun a ha b hb=>hU a (h1.sub a ha) b (h2.sub b hb)) (h1.text.symm.trans h2.text)
  subst this
  exact⟨J,rfl,hM⟩
 have a1:∀ k,(∀ x∈S,¬ G x.1->∀ f l,PtR U f l x.2.2.text->PtR U k l x.2.2.text)->∀ x∈S,¬ G x.1->False:=by
  intro k;induction k with
  | zero =>
   intro h x o O
   obtain⟨y,q,a0,H⟩:=a2 x o O
   obtain⟨f,l,Z⟩:=X x o
   obtain⟨g,m,E⟩:=X y q
   obtain⟨J,e,_⟩:=Q x o f l Z y q 0 m (h y q a0 g m E) H
   cases e
  | succ k ih =>
   intro h;refine ih fun x o O f l Z=>?_
   obtain⟨y,q,a0,H⟩:=a2 x o O
   obtain⟨g,m,E⟩:=X y q
   obtain⟨J,e,hp⟩:=Q x o f l Z y q (k+1) m (h y q a0 g m E) H
   obtain rfl:k=J:=vO
   exact hp
 intro x o;exact Classical.byContradiction fun O=>a1 12 (fun x o _ f l Z=>jm6 Z) x o O
theorem jf8.inj2{a b:vL}{more:vM}{w w':vW}{s bm:Nat}{S:vT}(h:jf8 a b more w s bm S w'):InjL (jaL a++jaL b):=fun x o y q e=>h.inj x (cN _ o) y (cN _ q) e
theorem jwi{S:vT}(hn:(S.map (·.1)).Nodup){x:Nd5}(hx:x∈S):jik (atL S x.1)=x.2.2.held:=by
 rw[jqm hn hx rfl];rfl
theorem drop_left(w:vW){a b:vL}{more:vM}{w0 w1 W W':vW}{s bm:Nat}{S S':vT}{y:Nd5}(h:jf8 a b more w0 s bm S w1)(hD:jvr W s bm 2000 S S' y W')(hy:atL S (ky (jau b).text)=some y)(hst:jaz W s bm 2000 S) :
  ∀ k,k∈S'.map (·.1)↔∃ t∈jaL a,k=ky t:=by
 have hU:=h.inj2;have hn:=h.tst.st.nd;have H:Kp (jaL a++jaL b) S':=h.tst.kp.drop hD;have Q:=(jaF hy).2;have a2:y.2.2.held=(if ky (jau b).text=ky (jau a).text then 1 else 0)+1:=by
  have:=h.held (ky (jau b).text)
  rw[hy,if_pos rfl]at this;exact this
 have K:∀ z∈S,(setB 3 y.2.1 (y.2.2.held - 1) z).2.2.held=if z.2.1=y.2.1 then y.2.2.held - 1 else z.2.2.held:=fun z hz=>by
  unfold setB
  by_cases e:z.2.1=y.2.1
  ·rw[if_pos e,if_pos e];rfl
  ·rw[if_neg e,if_neg e]
 have O:∀ z:Nd5,(setB 3 y.2.1 (y.2.2.held - 1) z).1=z.1:=fun z=>(jcZ _ _ z).2.2.1;have X:ky (jau a).text∈S'.map (·.1):=by
  obtain⟨x,E⟩:=dB.1 (jdh.2 ((h.key _).2 (.inl ⟨_,bI (jf5 h.ha.ok).head,rfl⟩)))
  have q:=jaF E;have J:=h.held (ky (jau a).text);rw[E,if_pos rfl]at J;have J:x.2.2.held=1+(if ky (jau a).text=ky (jau b).text then 1 else 0):=J
  have:=hD.stay _ (bC.2 ⟨x,q.1,rfl⟩) (by
   rw[K x q.1]
   by_cases e:x.2.1=y.2.1
   ·have a4:x=y:=jaQ hst.mp.blks q.1 (jaF hy).1 e
    have a5:ky (jau a).text=ky (jau b).text:=by rw[<-q.2,a4,Q]
    rw[if_pos e,a2,if_pos a5.symm];decide
   ·rw[if_neg e,J];split <;> omega)
  rw[O,q.2]at this;exact this
 have Z:∀ t∈jaL a,ky t∈S'.map (·.1):=jku w hU H h.ha.ok (fun t o=>cN _ o) X;have a0:=jr8 w hU H (fun x E=>by
   obtain⟨t,o,e,_⟩:=H.is x E
   rcases bO.1 o with o | o
   ·exact⟨a,h.ha.ok,fun t o=>cN _ o,t,o,e⟩
   ·exact⟨b,h.hb.ok,fun t o=>fJ _ o,t,o,e⟩) (fun k=>∃ t∈jaL a,k=ky t) (fun x E hh=>by
   obtain⟨v,hv,e1,_,_,_,e5⟩:=hD.sub x E
   obtain⟨z,hz,rfl⟩:=bC.1 hv
   rw[K z hz]at e5;rw[O]at e1;have a1:=h.held z.1;rw[jwi hn hz]at a1
   by_cases hza:z.1=ky (jau a).text
   ·exact⟨_,bI (jf5 h.ha.ok).head,e1.trans hza⟩
   ·exfalso
    rw[if_neg hza]at a1
    by_cases e:z.2.1=y.2.1
    ·have a6:z=y:=jaQ hst.mp.blks hz (jaF hy).1 e
     rw[if_pos e,a2,if_neg (fun e2=>hza (by rw[a6,Q,e2]))]at e5;omega
    ·rw[if_neg e]at e5
     have:¬ z.1=ky (jau b).text:=fun e2=>e (by
      have:z=y:=jaQ hn hz (jaF hy).1 (e2.trans Q.symm)
      rw[this])
     rw[if_neg this]at a1;omega) (fun x E ⟨t,o,e⟩ r hr=>by
   obtain⟨t',a7,f1,f2,f3⟩:=H.is x E
   have a8:t'=t:=jn6 hU a7 (cN _ o) (f1.symm.trans e);subst a8
   obtain⟨n,a3,hh⟩:=(jf5 h.ha.ok).node t' o
   rw[f3,jcX w (jcu a3) a3]at hr
   obtain⟨t2,a9,e2⟩:=hh r hr
   exact⟨t2,a9,by rw[e2];rfl⟩)
 refine fun k=>⟨fun hk=>?_,fun ⟨t,o,e⟩=>by rw[e];exact Z t o⟩
 obtain⟨x,E,rfl⟩:=bC.1 hk
 exact a0 x E
theorem jt8{a b:vL}{more:vM}{w0 w1:vW}{s bm:Nat}{S S':vT}{B:vM}(h:jf8 a b more w0 s bm S w1)(hn:(S.map (·.1)).Nodup)(hn':(S'.map (·.1)).Nodup)(hk:∀ k,k∈S'.map (·.1)↔∃ t∈jaL a,k=ky t)(hB:jp3 a b B) :
  S'.length+B.length=S.length/\(∀ x∈B,x.data.toList ∉ S'.map (·.1))/\∀ x∈B,x.data.toList∈S.map (·.1):=by
 have Q:∀ x∈B,x.data.toList ∉ S'.map (·.1):=fun x q o=>by
  obtain⟨t,E,e⟩:=(hk _).1 o
  exact ((hB.2 x).1 q).2 ⟨t,jb0.2 E,jbK e⟩
 have X:∀ x∈B,x.data.toList∈S.map (·.1):=fun x q=>by
  obtain⟨⟨t,E,e⟩,_⟩:=(hB.2 x).1 q
  exact (h.key _).2 (.inr ⟨t,jb0.1 E,by rw[e];rfl⟩)
 refine⟨?_,Q,X⟩
 have J:(B.map fun x:vB=>x.data.toList).Nodup:=by
  have:∀ {L:vM},L.Nodup->(L.map fun x:vB=>x.data.toList).Nodup:=fun {L} h=>by
   induction L with
   | nil=>exact .nil
   | cons x L ih =>
    rw[cZ]at h;rw[bJ,cZ]
    refine⟨fun o=>?_,ih h.2⟩
    obtain⟨y,H,e⟩:=bC.1 o
    rw[jbK e]at H;exact h.1 H
  exact this hB.1
 have Z:=jrs (A:=S'.map (·.1)++B.map fun x:vB=>x.data.toList) (B:=S.map (·.1)) (dO.2 ⟨hn',J,fun x q y H e=>by
   obtain⟨z,hz,rfl⟩:=bC.1 H
   exact Q z hz (e ▸ q)⟩) hn (fun k=>by
   rw[bO,h.key,hk];constructor
   ·rintro (o | o)
    ·exact .inl o
    ·obtain⟨x,q,rfl⟩:=bC.1 o
     exact (h.key _).1 (X x q)
   ·rintro (o |⟨t,E,e⟩)
    ·exact .inl o
    ·by_cases ha:∃ K∈jaL a,k=ky K
     ·exact .inl ha
     ·refine .inr (bC.2 ⟨shaB t,(hB.2 _).2 ⟨⟨t,jb0.2 E,rfl⟩,?_⟩,e.symm⟩)
      rintro⟨K,O,e'⟩
      exact ha ⟨K,jb0.1 O,by rw[e];unfold ky;rw[e']⟩)
 have:=Z.length_eq
 simpa using this
def inB(l:vM)(s:vB):Bool:=memB l s
theorem jrm{l:vM}{s:vB}(h:s∈l):inB l s=true:=(jdV l s).2 h
theorem jvi{l:vM}{s:vB}(h:s ∉ l):inB l s=false:=by
 rw[gC];exact fun e=>h ((jdV l s).1 e)
def jyQ(w:vW)(l:vM)(s:vB)(iv:vV)(wr:vW):Prop:=∃ i:Nat,i<=l.length/\iv=.int .i64 i/\Ext w wr/\s ∉ l.take i
theorem in_c(w:vW)(v:vV)(l:vM)(s:vB)(hv:RdS w v l)(hn:l.length<=1000000) :
  vR 38 #[v,.string s] w (.bool (inB l s)):=by
 obtain⟨a,c,J,K⟩:=hv.slice
 have HV:=Hd hv;subst J;clear hv K
 obtain⟨R,O⟩:=vE (inB l s)
 rw[<-O];have HR:=Hd O;clear O;go_enter Tryz.func38,Tryz.ntmps38;go_wp2_with fail
 go_loopw [5] (fun Q wr=>jyQ w l s Q wr) (fun Q _=>l.length - (intOf Q).toNat)
 case atStart=>exact⟨0,by omega,rfl,ExtR w,by simp⟩
 case round =>
  obtain⟨i,hi,rfl,hE,q⟩:=hrel
  have H:=Hd hE;have z:=Hd q;clear hE q
  by_cases hlt:i < l.length
  ·have b1:(i:Int) < (l.length:Int):=vO
   obtain⟨x,X⟩:∃ x,l[i]?=some x:=⟨_,bA hlt⟩
   rcases HV.o with⟨_,_,_,h0⟩ |⟨b,o,c1,hh,hb,hc,hcell⟩
   ·rw[h0]at hlt;cases hlt
   cases hh;have q1:=jaa (hcell i x X) H.o;have HX:=Hd X;clear hcell hb hc X;have E:=jdr x s
   by_cases hxs:x=s
   ·rw[decide_eq_true hxs]at E
    have Z:=Hd (show R=true by rw[HR.o];exact jrm (by rw[<-hxs];exact bI HX.o));clear hxs;go_wp2_with fail
    go_ret
    exact⟨by rw[Z.o];rfl,H.o⟩
   ·rw[decide_eq_false hxs]at E
    have HG:=Hd (show s ∉ l.take (i+1) by
     rw[cB,HX.o];intro e;rcases bO.1 e with e | e
     ·exact z.o e
     ·simp at e;exact hxs e.symm)
    clear hxs;go_wp2_with fail
    go_roundw
    case rel=>exact⟨i+1,by omega,by go_num,H.o,HG.o⟩
    case measure=>exact vJ
  ·have b1:¬(i:Int) < (l.length:Int):=vO
   have Z:=Hd (show R=false by rw[HR.o];refine jvi ?_;have:=z.o;rwa [cD vO]at this);go_wp2_with fail
   go_ret
   exact⟨by rw[Z.o];rfl,H.o⟩
end
section
open Go Go.RowKit
attribute [local go_sem] Oper.semAt_some
def jyO(w:vW)(n:Nat)(iv:vV)(wr:vW):Prop:=∃ i:Nat,i<=n/\iv=.int .i64 i/\Ext w wr
theorem jp3.none{b:vL}{B:vM}(h:jp3 b b B):B=[]:=List.eq_nil_iff_forall_not_mem.2 fun k e=>((h.2 k).1 e).2 ((h.2 k).1 e).1
theorem jmx{l:List (vN)}{x:vB}:x∈baL l↔x.data.toList∈l:=by
 unfold baL;rw[bC];constructor
 ·rintro⟨y,e,rfl⟩;simpa using e
 ·intro h;exact⟨_,h,jbK (by simp)⟩
structure FrY(w:World)(n:Nat)(v3 v5 v7:Value)(xs ys zs:vM):Prop where
 a:RdS w v3 xs
 b:RdS w v5 ys
 c:RdS w v7 zs
 lx:xs.length=n
 ly:ys.length<=1000000
 lz:zs.length<=1000000
 no:∀ x∈xs,inB zs x=false
 yes:∀ x∈xs,inB ys x=true
theorem FrY.get{w:vW}{n m c:Nat}{a:Option Addr}{v5 v7:vV}{xs ys zs:vM}(h:FrY w n (.slice a m c) v5 v7 xs ys zs){i:Nat}(hi:i < n):∃ x b o,a=some ⟨b,o,none⟩/\w.cell? ⟨b,o+i,none⟩=some (.string x)/\inB zs x=false/\inB ys x=true:=by
 obtain⟨x,J⟩:∃ x,xs[i]?=some x:=⟨_,bA (by rw[h.lx];exact hi)⟩
 obtain⟨K,O,H,z⟩:=h.a.slice
 obtain⟨b,o,e,q⟩:=z i x J
 have E:=bI J
 exact⟨x,b,o,by injection H with e1;rw[e1];exact e,q,h.no x E,h.yes x E⟩
theorem jq6(w:vW)(hc:jbS w)(he:ErrT w)(u v:vV)(a b:vL)(ha:RdP w u a)(hb:RdP w v b)(hna:a.length<=9223372036854775807)(hnb:b.length<=9223372036854775807)(hsa:jga a)(hsb:jga b) :
  vR 10 #[u,v] w (.bool true):=by
 have HC:=Hd hc;have d6:=Hd he;have HA:=Hd ha;have HB:=Hd hb;have HN:=Hd (bB (bB hna hnb) (bB hsa hsb))
 obtain⟨ua,uc,rfl⟩:=ha.sl
 obtain⟨va,vc,rfl⟩:=hb.sl
 clear hc he ha hb hna hnb hsa hsb;go_enter Tryz.func10,Tryz.ntmps10;go_wp2_with fail
 refine vH (jmg w HC.o d6.o) fun w1 J=>?_;go_wp2_with fail
 refine (ju5 w1 (HC.o.ext J.o) (d6.o.ext J.o) _ _ (.slice none 0 0) a b [] (HA.o.ext J.o) (HB.o.ext J.o) HN.o.1.1 HN.o.1.2 HN.o.2.1 HN.o.2.2 (fH _ _ _ _) vI).mono ?_;rintro e w2 (⟨rfl,hE⟩ |⟨s,bm,S,rfl,hY⟩)
 ·have b9:=Hd (J.o.trans hE)
  clear hE;go_wp2_with fail
  go_ret
  exact⟨rfl,b9.o⟩
 have E:=Hd hY;have b9:=Hd (J.o.trans hY.tst.ext);have c0:S.length<=100000:=by have:=hY.tst.len;omega
 have Z:=Hd c0;have c1:=Hd (jig w2 s bm 2000 S hY.tst.st hY.nodes c0 hY.ha hY.hb hY.injU hY.flatA hY.flatB)
 obtain⟨ra,c2⟩:=vE (rootM a)
 obtain⟨rb,c6⟩:=vE (rootM b)
 have c8:=Hd (bB c2 c6);rw[<-c2, <-c6]at c1 ⊢
 obtain⟨B,hB,q⟩:=c1.o
 have f0:=Hd hB;have a6:=Hd q;clear hY c2 c6 hB q c0 c1;go_wp2_with fail
 refine a6.o.mono ?_;rintro e w3 ⟨v3,rfl,b3⟩;have d7:=Hd b3.ext;have f1:=Hd b3;clear a6;have d8:=jig w3 s bm 2000 S (E.o.tst.st.ext d7.o) E.o.nodes Z.o E.o.hb E.o.hb E.o.injU E.o.flatB E.o.flatB;rw[<-c8.o.2]at d8
 obtain⟨B0,d9,q⟩:=d8
 obtain rfl:=d9.none;have a6:=Hd q
 obtain⟨a3,c3,rfl⟩:=b3.sl
 clear b3 q d9;go_wp2_with fail
 refine a6.o.mono ?_;rintro e w4 ⟨v4,rfl,b4⟩;have c9:=Hd (d7.o.trans b4.ext);have d3:=Hd (ORow.mono f1.o b4.ext)
 obtain⟨a4,c4,rfl⟩:=b4.sl
 clear b4 a6;go_wp2_with fail
 refine (jl6 w4 s bm 2000 S (E.o.tst.st.ext c9.o) (by have:=Z.o;omega)).mono ?_;rintro e w5 ⟨v5,rfl,a8⟩;have d0:=Hd (c9.o.trans a8.ext);have d4:=Hd (ORow.mono d3.o a8.ext);have d5:=Hd (ORow.since a8 c9.o)
 obtain⟨a5,c5,rfl⟩:=a8.sl
 clear a8;go_wp2_with fail
 refine (jtH w5 s bm 2000 S (E.o.tst.st.ext d0.o) E.o.tst.kp.cnt E.o.tst.kp.full (by have:=E.o.tst.len;omega) (fun x hx=>by have:=E.o.tst.hb x hx;omega) rb).mono ?_;have e0:jik (atL S rb.data.toList)=(if ky (jau b).text=ky (jau a).text then 1 else 0)+1:=by
  have:=E.o.held (ky (jau b).text)
  rw[if_pos rfl]at this;rw[c8.o.2];exact this
 have f2:=Hd e0;clear e0;rintro e w6 (⟨h0,rfl,hE⟩ |⟨S',y,hy,f3,rfl,hD⟩)
 ·exfalso
  have:=f2.o
  rw[h0]at this;split at this <;> omega
 have a1:∀ z,(z=bm\/z∈S.map (·.2.1))->z < w2.heap.size:=fun z hz=>Nat.lt_of_not_le fun hl=>E.o.tst.o hl hz;have a0:=drop_left w5 E.o hD (by rw[c8.o.2]at hy;exact hy) (E.o.tst.st.ext d0.o);have e1:=jt8 E.o E.o.tst.st.nd hD.st.nd a0 f0.o;have e2:Ext w w6:=jad.trans' (b9.o.trans d0.o) hD.kp fun x hx hf=>by
  rcases hf with rfl | hm
  ·have:=E.o.tst.bnew;have:=J.o.size;omega
  ·obtain⟨z,hz,rfl⟩:=bC.1 hm
   have:=E.o.tst.new z hz;have:=J.o.size;omega
 have f4:=Hd e2;have b5:=Hd e1;have e3:=Hd (bB (SRow.over d4.o hD.kp a1) (SRow.over d5.o hD.kp a1));have f5:=Hd hD.st;have a9:S'.length<=100000:=bL hD.len Z.o;have O:=Hd a9;clear hy f3 hD a1 a0 e1 e2 a9;go_wp2_with fail
 refine (jl6 w6 s bm 2000 S' f5.o (by have:=O.o;omega)).mono ?_;rintro e w7 ⟨v7,rfl,a2⟩;have f6:=Hd (f4.o.trans a2.ext);have b0:RdS w7 v7 _:=SRow.rd a2
 obtain⟨a7,c7,rfl⟩:=a2.sl
 obtain⟨n,hn⟩:=vE B.length
 obtain⟨xs,b6⟩:=vE (baL (jcS (B.map fun h=>h.data.toList)))
 obtain⟨ys,b7⟩:=vE (baL (jcS (S.map (·.1))))
 obtain⟨zs,b8⟩:=vE (baL (jcS (S'.map (·.1))))
 have d2:∀ x,x∈xs↔x∈B:=fun x=>by
  rw[b6,jmx,jiG,bC]
  exact⟨fun ⟨z,hz,e⟩=>by rw[<-jbK e];exact hz,fun h=>⟨x,h,rfl⟩⟩
 have Q:∀ l:List (vN),(baL (jcS l)).length=l.length:=fun l=>by unfold baL;rw[bZ,jff]
 have K:=Hd (show FrY w7 n _ _ _ xs ys zs from⟨by rw[b6];exact e3.o.1.ext a2.ext,by rw[b7];exact e3.o.2.ext a2.ext,by rw[b8];exact b0,by rw[b6,Q,bZ,hn],by rw[b7,Q,bZ];have:=Z.o;omega,by rw[b8,Q,bZ];have:=O.o;omega,fun x hx=>jvi (by rw[b8,jmx,jiG];exact b5.o.2.1 x ((d2 x).1 hx)),fun x hx=>jrm (by rw[b7,jmx,jiG];exact b5.o.2.2 x ((d2 x).1 hx))⟩);have H:=b5.o.1;clear a2 b0 b6 b7 b8 d2 Q b5;rw[<-hn]at H K ⊢;clear hn
 obtain⟨m1,e4⟩:∃ m,m=S.length:=⟨_,rfl⟩
 obtain⟨m2,e5⟩:∃ m,m=S'.length:=⟨_,rfl⟩
 rw[<-e4]at H Z K ⊢;rw[<-e5]at H O K ⊢;clear e4 e5;have f8:=Z.o;have f9:=O.o;have g0:(((m2:Int)+(n:Int)) !=(m1:Int))=false:=bne_eq_false_iff_eq.2 vO;go_wp2_with fail
 go_loopw [15] (fun iv wr=>jyO w7 n iv wr) (fun iv _=>n - (intOf iv).toNat)
 case atStart=>exact⟨0,cC _,rfl,ExtR _⟩
 case round =>
  obtain⟨i,hi,rfl,hE⟩:=hrel
  have X:=Hd hE;clear hE
  by_cases hlt:i < n
  ·obtain⟨x,bk,o,rfl,q1,e6,b2⟩:=K.o.get hlt
   have Q1:=Hd (jaa q1 X.o);have e7:=Hd (bB e6 b2);have e8:=Hd hlt;have b1:(i:Int) < (n:Int):=vO
   have q1:=Q1.o;clear e6 b2 hlt;go_wp2_with fail
   refine vC (in_c wr _ zs x (K.o.c.ext X.o) K.o.lz) fun w8 hE=>?_;rw[e7.o.1];have q1:=jaa Q1.o hE;have e9:=Hd (X.o.trans hE);clear hE;go_wp2_with fail
   refine vH (in_c w8 _ ys x (K.o.b.ext e9.o) K.o.ly) fun w9 hE=>?_;rw[e7.o.2];have f7:=Hd (e9.o.trans hE);clear q1;go_wp2_with fail
   go_roundw
   case rel=>exact⟨i+1,by have:=e8.o;omega,by go_num,f7.o⟩
   case measure=>have:=e8.o;simp[intOf];omega
  ·obtain rfl:i=n:=vO
   have d1:¬(i:Int) < (i:Int):=vO
   go_wp2_with fail
   go_ret
   exact⟨rfl,f6.o.trans X.o⟩
end
section
open Go Go.ChangeShapes Go.WideShapes Go.ChangeAt Go.RowKit Go.Deep
theorem Tryz.ownK:ownKnob Tryz.prog.godebug=none:=vY
theorem Tryz.laidOutK:laidOutB Tryz.prog=true:=vY
theorem Tryz.cellsEnt:Tryz.prog.cellsOf 71=2:=vY
theorem Tryz.cellsStr:Tryz.prog.cellsOf 9=1:=vY
theorem jg6:maxLen<=9223372036854775807:=by unfold maxLen;omega
section
variable {H:Type} {enc:TypeId × vV->H} {w:vW} {base:Nat} {spare:Nat->Bool} {held:Bool}
theorem jul{n:Nat}{a:Addr}{cs:List vV}{x:DataW H × List MemPlace}(hc:w.cells? base a 2=some cs)(h:DataW.trod enc Tryz.prog w base spare held n 71 cs=some x) :
  ∃ p:Pair,w.cell? (a.add 0)=some (.string p.1)/\w.cell? (a.add 1)=some (.string p.2)/\p.1.size<=9223372036854775807/\p.2.size<=9223372036854775807:=by
 obtain⟨_,Q,z⟩:=World.cells?_some hc
 obtain⟨xs,m,_,_,_,q,E⟩:=DataW.trod_struct Tryz.underlying71 h
 match cs,Q with
 | [c0,c1],_ =>
  have e:DataW.trod enc Tryz.prog w base spare held m 9 (([c0,c1].drop 0).take (Tryz.prog.cellsOf 9))=xs[0]?:=E 0 _ rfl;have o:DataW.trod enc Tryz.prog w base spare held m 9 (([c0,c1].drop 1).take (Tryz.prog.cellsOf 9))=xs[1]?:=E 1 _ rfl;rw[Tryz.cellsStr]at e o;dsimp only[List.drop,List.take]at e o;have J:∀ i,i < 2->∃ y,xs[i]?=some y:=fun i X=>⟨_,bA (by rw[q];exact X)⟩
  obtain⟨y0,Z⟩:=J 0 vO
  obtain⟨y1,e1⟩:=J 1 vO
  rw[Z]at e;rw[e1]at o
  obtain⟨r,K,_,w0⟩:=DataW.trod_string Tryz.underlying9 e
  obtain⟨s,O,_,w1⟩:=DataW.trod_string Tryz.underlying9 o
  simp only[List.cons.injEq,and_true]at K O;subst K O
  exact⟨(r,s),z 0 vO,z 1 vO,bL w0 jg6,bL w1 jg6⟩
theorem jwp{α:Type}(n:Nat)(d:α)(P:Nat->α->Prop)(h:∀ i,i < n->∃ x,P i x):∃ l:List α,l.length=n/\∀ i x,l[i]?=some x->P i x:=by
 induction n with
 | zero=>exact⟨[],rfl,fun i x o=>by simp at o⟩
 | succ n ih =>
  obtain⟨l,q,z⟩:=ih fun i E=>h i vO
  obtain⟨x,o⟩:=h n vO
  refine⟨l++[x],by simp[q],fun i y e=>?_⟩
  by_cases E:i < n
  ·rw[cW vO]at e;exact z i y e
  ·rw[cV vO]at e
   have:i - l.length=0:=by
    have:=(bU.1 e).1
    simp at this;omega
   rw[this]at e;simp at e;subst e;rw[show i=n by omega];exact o
theorem jdW{v:vV}{d:DataW H}{p:List MemPlace}(hv:∃ a n c,v=.slice a n c)(h:DataW.Trod enc Tryz.prog w 0 spare held 32 v d p) :
  ∃ l:vL,RdP w v l/\l.length<=9223372036854775807/\∀ p∈l,p.1.size<=9223372036854775807/\p.2.size<=9223372036854775807:=by
 obtain⟨X,Z,c0,rfl⟩:=hv
 obtain⟨a1,hf⟩:=h
 rcases open_slice Tryz.underlying32 hf with⟨hcs,_⟩ |⟨a,len,cap,m,n,D,Pl,hcs,_,hl,hm,hmm,_,O⟩
 ·simp only[Value.cells]at hcs
  have e:Value.slice X Z c0=.slice none 0 0:=by simpa using hcs
  rw[e]
  exact⟨[],.inl ⟨none,0,rfl,rfl⟩,by simp,by simp⟩
 ·have e:Value.slice X Z c0=.slice (some a) len cap:=by simpa [Value.cells]using hcs
  rw[e];have a2:len<=m:=by rw[hmm];split <;> omega
  obtain⟨l,E,z⟩:=jwp len pd (fun i p=>w.cell? ((a.add (i * 2)).add 0)=some (.string p.1)/\w.cell? ((a.add (i * 2)).add 1)=some (.string p.2)/\p.1.size<=9223372036854775807/\p.2.size<=9223372036854775807) (fun i a3=>by
   obtain⟨a4,h1,h2⟩:=O i vO
   rw[Tryz.cellsEnt]at h1;exact jul h1 h2)
  have Q:∀ p∈l,p.1.size<=9223372036854775807/\p.2.size<=9223372036854775807:=fun p hp=>by
   obtain⟨i,O⟩:=iD hp
   exact (z i p O).2.2
  have J:l.length<=9223372036854775807:=by have:=jg6;omega
  refine⟨l,?_,J,Q⟩
  by_cases h0:len=0
  ·subst h0
   exact .inl ⟨some a,cap,rfl,bE E⟩
  ·obtain⟨p0,K⟩:∃ p,l[0]?=some p:=⟨_,bA vO⟩
   have q:a.spot=none:=by simpa [Addr.add]using World.cell?_spot (z 0 p0 K).1
   obtain⟨b,o,sp⟩:=a
   dsimp only at q;subst q;refine .inr ⟨b,o,cap,by rw[E],fL w _ (z 0 p0 K).1,by omega,fun j x hx=>?_⟩
   obtain⟨q1,q2,_⟩:=z j x hx
   rw[Go.Deep.add_add,Go.WideShapes.add_plain]at q1 q2
   exact⟨q1,q2⟩
end
end
section
open Go Go.RowKit
def jqH:List Int:=jhV.map fun x=>(x.toNat:Int)
theorem jqI:(Rows.laid_guilloche_sha_cubes:DataW Unit)=Lib.tabData .u32 jqH:=vY
theorem Tryz.gCubes:Tryz.prog.globalNamed "guilloche/sha.cubes"=some 0:=vY
theorem Tryz.gCubesType:(Tryz.prog.globals[0]?).map (·.type)=some 230:=vY
theorem Tryz.uCubes:Tryz.prog.underlying 230=some (.array 64 167):=vY
theorem Tryz.cellsU32:Tryz.prog.cellsOf 167=1:=vY
theorem Tryz.cellsCubes:Tryz.prog.cellsOf 230=64:=vY
theorem jnz{W:vW}(h:laidMetH Tryz.prog [("errors.errorType",Rows.laid_errors_errorType),("guilloche/sha.cubes",Rows.laid_guilloche_sha_cubes)] W):jbS W:=by
 have e:laidMet Tryz.prog [("guilloche/sha.cubes",Rows.laid_guilloche_sha_cubes)] W:=(laidMetH_iff.1 h).1;rw[jqI]at e;have o:=Lib.tabIs_of_head Tryz.gCubes Tryz.gCubesType Tryz.uCubes Tryz.uU32 Tryz.cellsU32 Tryz.cellsCubes e;intro i q
 have:=o.cell Tryz.gCubes i (by unfold jqH;rw[bZ];exact q)
 rw[this];unfold jqH wv;simp only[bH,cA];cases jhV[i]? <;> rfl
theorem Tryz.gErr:Tryz.prog.globalNamed "errors.errorType"=some 1:=vY
theorem Tryz.rtypeCut:(Tryz.prog.cutTypes.find? (·.1 == "internal/reflectlite.rtype")).map (·.2)=some 193:=vY
theorem Tryz.errRow:(List.range Tryz.prog.types.size).all (fun t => !(Tryz.prog.rowNamed t [101,114,114,111,114]) || t == 106)=true:=vY
theorem Tryz.errHandle:typeHandle Tryz.prog 106=.pointer (some ⟨3,106,none⟩):=vY
theorem jvb{W:vW}(h:laidMetH Tryz.prog [("errors.errorType",Rows.laid_errors_errorType),("guilloche/sha.cubes",Rows.laid_guilloche_sha_cubes)] W):ErrT W:=by
 have z:=(laidMetH_iff.1 h).2 ("errors.errorType",Rows.laid_errors_errorType) (by simp[Rows.laid_errors_errorType,DataW.handleName?]);have E:∃ e u ty,(Rows.laid_errors_errorType:DataW Unit).handleName?=some e/\(Tryz.prog.cutTypes.find? (·.1 == "internal/reflectlite.rtype")).map (·.2)=some u/\ty < Tryz.prog.types.size/\Tryz.prog.rowNamed ty e=true/\W.var? Tryz.prog "errors.errorType"=some #[.iface u (.agg #[typeHandle Tryz.prog ty])]:=z
 obtain⟨e,u,ty,H,J,K,O,o⟩:=E
 obtain rfl:u=193:=bV (J.symm.trans Tryz.rtypeCut);obtain rfl:e=[101,114,114,111,114]:=(bV (show some [101,114,114,111,114]=some e from H)).symm;have q:=dU.1 Tryz.errRow ty (dQ.2 K);rw[O]at q;obtain rfl:ty=106:=by simpa using q
 rw[Tryz.errHandle]at o
 have:=World.var?_cell Tryz.gErr o 0
 exact this
end
section
open Go Go.ChangeShapes Go.WideShapes Go.ChangeAt Go.RowKit
def juM:Obj->Obj
 | .cells _ t frozen=>.cells (jhV.map wv).toArray t frozen
 | o=>o
def jyE:Obj->Obj
 | .cells _ t frozen=>.cells #[.iface 193 (.agg #[.pointer (some ⟨3,106,none⟩)])] t frozen
 | o=>o
noncomputable def laidWorld(os:Os):vW:=
 { World.holding Tryz.prog os ⟨#[],#[],[]⟩with heap:=((World.holding Tryz.prog os ⟨#[],#[],[]⟩).heap.modify 0 juM).modify 1 jyE }
theorem jn7(os:Os)(args:Array vV):laidMetH Tryz.prog [("errors.errorType",Rows.laid_errors_errorType),("guilloche/sha.cubes",Rows.laid_guilloche_sha_cubes)] ((laidWorld os).forCall (fun _ _=>0) ⟨#[],args,[]⟩).memory:=
 laidMetH_of_parts (laidMet_of_run' 8 vY vY) vY
end
end Go.Proofs.YtmobgkphhbmhbaaGreatDoor
