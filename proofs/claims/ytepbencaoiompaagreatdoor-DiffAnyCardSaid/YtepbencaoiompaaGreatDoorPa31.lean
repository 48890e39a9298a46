/- Lemmas; each is under no condition but those that it states. -/
import Derived.Test.YtepbencaoiompaaGreatDoorPa29
namespace Go.Proofs.YtepbencaoiompaaGreatDoor
set_option linter.unusedSimpArgs false
set_option linter.unusedVariables false
set_option maxRecDepth 100000
set_option maxHeartbeats 16000000
open Go Go.RowKit
section
attribute [local go_sem] Oper.semAt_some
def jxP(W:vW)(b c:Nat):Prop:=∃ rv,W.cell? ⟨b,1,none⟩=some rv/\rv.ownBlock=some c
def RK(w W:vW):Prop:=w.heap.size<=W.heap.size/\∀ b,b < w.heap.size->∀ c,jxP W b c->jxP w b c
theorem jl8{W W':vW}{b i:Nat}(h:W'.heap[b]?=W.heap[b]?):W'.cell? ⟨b,i,none⟩=W.cell? ⟨b,i,none⟩:=by unfold World.cell?;rw[h]
theorem RK.refl(w:vW):RK w w:=⟨bL _,fun _ _ _ h=>h⟩
theorem RK.trans{a b c:vW}(h:RK a b)(k:RK b c):RK a c:=⟨bH h.1 k.1,fun x e y r=>h.2 x e y (k.2 x (bR e h.1) y r)⟩
theorem RK.keeps{F:BSet}{w W W':vW}(h:RK w W)(k:jag F W W')(hF:∀ b,F b->w.heap.size<=b):RK w W':=⟨bH h.1 k.size,fun b hb c r=>by
 obtain⟨o,e,q⟩:=r
 rw[jl8 (k.block b (bR hb h.1) (fun f=>by have:=hF b f;omega))]at e;exact h.2 b hb c ⟨o,e,q⟩⟩
theorem RK.ext{w W W':vW}(h:RK w W)(e:Ext W W'):RK w W':=h.keeps e (fun _ f=>f.elim)
theorem RK.put{w W W':vW}{bm:Nat}{es:Array MapEntry}{ck:Nat}(h:RK w W)(k:jag (fun z=>z=bm) W W')(hm:Blk W' bm (.map es ck)):RK w W':=⟨bH h.1 k.size,fun b hb c r=>by
 obtain⟨q,o,A⟩:=r
 by_cases e:b=bm
 ·subst e
  unfold World.cell? at o;rw[show W'.heap[b]?=_ from hm]at o;cases o
 ·rw[jl8 (k.block b (bR hb h.1) e)]at o
  exact h.2 b hb c ⟨q,o,A⟩⟩
theorem RK.set{w W:vW}(h:RK w W)(zb:Nat){f:Nat}(hf:f=2\/f=3)(v:vV):RK w (W.setCell ⟨zb,f,none⟩ v):=⟨by rw[gE];exact h.1,fun b hb c r=>by
 obtain⟨q,o,z⟩:=r
 rw[World.cell?_setCell_other _ _ _ _ (fun e=>by have:=congrArg Addr.off e;rcases hf with rfl | rfl <;> cases this)]at o;exact h.2 b hb c ⟨q,o,z⟩⟩
def jnB(w W:vW)(G:vT):Prop:=∀ x∈G,∀ c,jxP W x.2.1 c->w.heap.size<=c
theorem jnB.rk{w W W':vW}{G:vT}(h:jnB w W G)(hk:RK W W')(hl:∀ x∈G,x.2.1 < W.heap.size):jnB w W' G:=fun x e c r=>h x e c (hk.2 _ (hl x e) c r)
def AnyL(L:vM):Prop:=∀ t∈L,(∃ n,jbc t n)\/GetE t
theorem jhY{L:vM}(h:∀ t∈L,t.size<=400000):AnyL L:=fun t e=>jAs t (h t e)
def jzS(w:vW)(bg:Nat)(L:vM)(iv:vV)(W:vW):Prop:=∃ i:Nat,i<=L.length/\iv=.int .i64 i/\(∀ t∈L.take i,∃ n,jbc t n)/\∃ G,ReS w bg G (L.take i) W/\jnB w W G
def AnyQ(Q:Prop)(L:vM):Prop:=∀ t∈L,(∃ n,jbc t n)\/(GetE t/\Q)
theorem jBA{L:vM}(h:AnyL L):AnyQ True L:=fun t o=>(h t o).imp id (fun e=>⟨e,trivial⟩)
theorem jhd{L:vM}(h:∀ t∈L,∃ n,jbc t n):AnyQ False L:=fun t e=>.inl (h t e)
def RdA(Q:Prop)(w:vW)(L:vM)(e:Ending)(w':vW):Prop:=(e=.returned (.tuple #[.map none,.int .i64 2])/\Ext w w'/\Q)\/((∀ t∈L,∃ n,jbc t n)/\∃ bg G,e=.returned (.tuple #[.map (some bg),.int .i64 0])/\ReS w bg G L w'/\jnB w w' G)
theorem jp7{L:vM}{i:Nat}{t:vB}{P:vB->Prop}(h:∀ x∈L.take i,P x)(ht:L[i]?=some t)(hp:P t):∀ x∈L.take (i+1),P x:=fun x e=>by
 rw[cE,ht]at e;rcases bT.1 e with e | e
 ·exact h x e
 ·have e:x∈[t]:=e
  rw[bP.1 e];exact hp
theorem juk(w:vW)(hc:jbN w)(hGE:ErrT w)(v:vV)(L:vM)(hv:RdS w v L)(hl:L.length<=1000)(h0:L≠[])(Q:Prop)(hN:AnyQ Q L) :
  vQ 23 #[v] w (RdA Q w L):=by
 have f7:0 < L.length:=gC.2 h0
 obtain⟨a,c,rfl,_⟩:=hv.slice
 have e9:=Hd hv;have HC:=Hd hc;have HN:=Hd hN;have f0:=Hd hGE;have f1:=Tryz.makeMapIt w;clear hv hc hN h0 hGE;have f8:((L.length:Int) == 0)=false:=by simpa using (by omega:L.length≠0)
 go_enter Tryz.func23,Tryz.ntmps23;go_wp2_with fail
 obtain⟨bg,b8⟩:=vE w.heap.size
 have d6:=Hd b8;rw[<-b8];clear b8 f1;go_loopw [16] (fun iv wr=>jzS w bg L iv wr) (fun iv _=>L.length - (intOf iv).toNat)
 case atStart =>
  refine⟨0,bY _,rfl,fun t ht=>(by cases ht),[],⟨(ExtR w).alloc _,⟨⟨[],0,?_,MapV.nil 0⟩,by simp,fun x q=>by cases q⟩,rfl,by rw[d6.o];exact bL _,fun x q=>by cases q⟩,fun x q=>by cases q⟩
  rw[d6.o];exact Blk.new w _
 case round =>
  obtain⟨i,hi,rfl,a6,G,hS,d7⟩:=hrel
  have b9:=Hd d7;clear d7;have a7:=Hd a6;have E:=Hd hS;clear hS a6
  by_cases hlt:i < L.length
  ·have b1:(i:Int) < (L.length:Int):=vO
   obtain⟨t,ht⟩:∃ t,L[i]?=some t:=⟨_,bA hlt⟩
   obtain⟨ax,cx,hh,J⟩:=e9.o.slice
   obtain⟨ba,oa,f2,c0⟩:=J i t ht
   subst f2;cases hh;have q1:=jaa c0 E.o.ext;rcases HN.o t (bJ ht)with hnode |⟨hbad,hq⟩
   case inr =>
    have d1:=Hd hbad;have HQ:=Hd hq
    obtain⟨n,hn⟩:=vE jak
    have Z:=Hd (show n.refs.length=16 by rw[hn];rfl);have hg:=d1.o wr (f0.o.ext E.o.ext);unfold juK at hg;rw[<-hn]at hg;clear J c0 ht hbad hn hq;go_wp2_with fail
    refine hg.mono ?_;rintro e w4 ⟨rfl,hE⟩;have b4:=Hd (E.o.ext.trans hE);clear hE hg q1;unfold jad.V;go_wp2_with (refine jah Tryz.allocNode rfl rfl ?_;intro W3 b5 b6;refine jae (vs:=n.cells) rfl rfl rfl rfl b5 (by rw[n.cells_len Z.o];rfl) (by rw[n.cells_len Z.o];exact Tryz.szNode) (jad.one _) ?_;intro W4 c1 b7;have K:Ext w4 W4:=b6.trans' b7 (fun x q e=>by have e:x=w4.heap.size:=e;omega))
    go_ret2;exact .inl ⟨rfl,b4.o.trans K,HQ.o⟩
   have a0:=Hd (jp7 a7.o ht hnode)
   obtain⟨n0,d8⟩:=hnode
   have c2:=jb3 d8;have d9:=Hd (jrf ht);have e0:=Hd (show itOf t=⟨t,jaK (nodeOf t),0,0⟩from rfl)
   obtain⟨n,e1⟩:=vE (nodeOf t)
   rw[<-e1]at c2 e0;have f9:=jiM c2
   obtain⟨e2,g,hg⟩:=c2
   have HG:=Hd hg;have Z:=Hd ((hg.one (inlP g)).refs);have e3:=Hd e2;clear J d8 e1 e2 hg c0 ht;go_wp2_with fail
   rw[e3.o];refine vH (jf3 (inlP g) wr n HG.o) fun w4 b4=>?_;rw[<-e3.o];clear q1;unfold jad.V;go_wp2_with (refine jah Tryz.allocNode rfl rfl ?_;intro W3 b5 b6;refine jae (vs:=n.cells) rfl rfl rfl rfl b5 (by rw[n.cells_len Z.o];rfl) (by rw[n.cells_len Z.o];exact Tryz.szNode) (jad.one _) ?_;intro W4 c1 b7;have K:Ext w4 W4:=b6.trans' b7 (fun x q e=>by have e:x=w4.heap.size:=e;omega))
   have c3:=Hd (b4.o.trans K);have e4:=Hd c1;clear b5 b6 c1 b7 K b4;refine vH (of_t _ _ [t] (by simp) (jbK W4 [t] 9) (HC.o.ext ((E.o.ext.trans c3.o).alloc _))) fun w6 hE=>?_;rw[jc1];have c4:=((ExtR W4).alloc (.cells #[.string t] 9)).trans hE;have c5:=Hd (c3.o.trans c4);have f3:=Hd (e4.o.keeps c4 (fun h=>h));have z:=Hd (E.o.keeps c5.o);have A:=z.o.at'.look (shaB t) false;have c6:=Hd (jxY (L:=G) (k:=ky t));have a4:Hid ((shaB t).data.toList=ky t):=rfl;have c7:=Hd (show addG (G.map kvI) t=if (G.map kvI).any (fun x=>decide (ky t=x.1))then G.map kvI else G.map kvI++[(ky t,itOf t)]from rfl);rw[a4.o]at A;simp only[cO,if_false]at A
   obtain⟨sh,e5⟩:=vE (shaB t)
   rw[<-e5]at A a4 ⊢
   obtain⟨kt,e6⟩:=vE (ky t)
   rw[<-e6]at A a4 c6 c7;clear c4 c3 e4 e5 e6;cases ha:atL G kt with
   | some x =>
    rw[ha]at A;unfold ptrO at A;simp only at A;have hz:addG (G.map kvI) t=G.map kvI:=by rw[c7.o,c6.o,ha];rfl
    have HZ:=Hd hz;clear ha hz;go_wp2_with fail
    go_roundw
    case rel =>
     exact⟨i+1,by omega,by go_num,a0.o,G,⟨z.o.ext,z.o.at',by rw[d9.o, <-z.o.is,HZ.o],z.o.new,z.o.news⟩,b9.o.rk ((RK.refl _).ext c5.o) (fun x q=>(E.o.at'.items x q).lt)⟩
    case measure=>exact vJ
   | none =>
    rw[ha]at A;unfold ptrO at A;simp only at A;have hz:addG (G.map kvI) t=G.map kvI++[(kt,itOf t)]:=by rw[c7.o,c6.o,ha];rfl
    have HZ:=Hd hz;have HA:=Hd ha;have a3:=jas w6 _ n Z.o f3.o;unfold jad.V at a3;clear ha hz;go_wp2_with (refine jaf 99 (.tmp 7) rfl rfl _ _ rfl a3 ?_)
    refine (jkZ g n HG.o w6).mono ?_;rintro e H ⟨v8,rfl,a5,d2⟩;have c9:=a5.ext;have a1:=a5.new;have a9:=a5.own
    obtain⟨a8,c8,rfl⟩:=a5.sl
    have S8:=z.o.keeps c9;have e7:=S8.at'.ext ((ExtR H).alloc (.cells #[.string t,.slice a8 (jaK n).length c8,.int .i64 0,.int .i64 0] 65));have d0:=Blk.new H (.cells #[.string t,.slice a8 (jaK n).length c8,.int .i64 0,.int .i64 0] 65);have e8:je9 (H.alloc (.cells #[.string t,.slice a8 (jaK n).length c8,.int .i64 0,.int .i64 0] 65)) H.heap.size (itOf t):=by
     rw[e0.o]
     exact⟨_,d0,jbm a9 ((ExtR H).alloc _)⟩
    obtain⟨ob,g0,O⟩:=e7.put sh (by rw[a4.o];exact HA.o) e8 (fun x q e=>by have:=(S8.at'.items x q).lt;omega)
    rw[a4.o]at O;have b0:Ext w ((H.alloc (.cells #[.string t,.slice a8 (jaK n).length c8,.int .i64 0,.int .i64 0] 65)).putObj bg ob):=(S8.ext.alloc _).putObj (.inr S8.new) _;have d3:=S8.ext.size;have b2:RK wr H:=((RK.refl _).ext c5.o).ext c9;have X:∃ es ck,Blk ((H.alloc (.cells #[.string t,.slice a8 (jaK n).length c8,.int .i64 0,.int .i64 0] 65)).putObj bg ob) bg (.map es ck):=by
     obtain⟨es,ck,h1,_⟩:=O.mp
     exact⟨_,ck,h1⟩
    obtain⟨g1,g2,X⟩:=X
    have a2:=(b2.ext ((ExtR H).alloc (.cells #[.string t,.slice a8 (jaK n).length c8,.int .i64 0,.int .i64 0] 65))).put (jag.onePut _ bg ob) X;have b3:=Hd (show jnB w ((H.alloc (.cells #[.string t,.slice a8 (jaK n).length c8,.int .i64 0,.int .i64 0] 65)).putObj bg ob) (G++[(kt,H.heap.size,itOf t)])from fun x q c r=>by
     rcases bT.1 q with q | q
     ·exact b9.o.rk a2 (fun x q=>(E.o.at'.items x q).lt) x q c r
     ·rw[bP.1 q]at r
      obtain⟨rv,r1,r2⟩:=r
      have f4:H.heap.size≠bg:=fun e=>by
       obtain⟨_,_,h1,_⟩:=S8.at'.mp
       have:=h1.lt;omega
      have hq:((H.alloc (.cells #[.string t,.slice a8 (jaK n).length c8,.int .i64 0,.int .i64 0] 65)).putObj bg ob).cell? ⟨H.heap.size,1,none⟩=some (.slice a8 (jaK n).length c8):=(d0.keeps (jag.onePut _ bg ob) f4).cell (i:=1) vF;have r1:_=some rv:=r1;rw[hq]at r1;have e:=bQ r1;rw[<-e]at r2
      have:=a1 c r2
      have:=z.o.ext.size
      omega)
    have d4:=Hd b0;have d5:=Hd O;have f5:Hid (w.heap.size<=H.heap.size):=S8.ext.size;clear b2 X a2 d3 b0 O e8 d0 e7 S8 a9 a1 c9 a5 d2 a3 A;go_wp2_with fail
    go_roundw
    case rel =>
     refine⟨i+1,by omega,by go_num,a0.o,G++[(kt,H.heap.size,itOf t)],⟨d4.o,d5.o,?_,z.o.new,?_⟩,b3.o⟩
     ·rw[d9.o, <-z.o.is,HZ.o,bZ];rfl
     ·intro x q
      rcases bT.1 q with q | q
      ·exact z.o.news x q
      ·simp only[bP]at q;subst q;exact f5.o
    case measure=>exact vJ
  ·have f6:i=L.length:=vO
   subst f6;have HS:=Hd (show ReS w bg G L wr by have:=E.o;rwa [cF]at this);clear E;go_wp2_with fail
   go_ret2;exact .inr ⟨by have h:=a7.o;rwa [cF]at h,bg,G,rfl,HS.o,b9.o⟩
def okM(S G:vT)(M:vM)(x:vB):Bool:=memB (ja7 M) x ||(atL S x.data.toList).isSome ||(atL G x.data.toList).isSome
theorem jpz(w0:vW)(s bm:Nat)(room:Int)(S G:vT)(bg b:Nat)(h:jax w0 s bm room S)(hG:jdy w0 bg G)(W:vW)(M:vM)(hM:Meet w0 s S bg b M W)(x:vB)(hl:M.length<=1000000) :
  vQ 48 #[.string x,.pointer (some ⟨b+4,0,none⟩),.pointer (some ⟨b,0,none⟩),.pointer (some ⟨b+2,0,none⟩),.pointer (some ⟨b+1,0,none⟩)] W fun e w'=>e=.returned (.bool (okM S G M x))/\Meet w0 s S bg b (M++[x]) w':=by
 have HM:=Hd hM;have HS:=Hd h
 obtain⟨es,ck,h5,h6⟩:=hM.tab
 obtain⟨v,n,h1,h2,h3,h4⟩:=hM.var
 obtain⟨ad,cp,rfl⟩:=jaL h2
 obtain⟨cn,a6⟩:=vE (cntB M x)
 have f0:cn<=1000000:=by
  rw[a6];unfold cntB;refine bH iG ?_;rw[cB];exact hl
 have e6:=h6 x;rw[<-a6]at e6;have d0:(Instr.lookup 82 (.map (some (b+3))) (.string x) false).run Tryz.prog W=.ok (.int .i64 (cn:Int)) W:=by
  have:=jcg Tryz.ES Tryz.uMapSI h5 (Tryz.zeroI W) x.data.toList false
  rw[e6]at this;unfold cntV at this
  by_cases h0:cn=0
  ·rw[if_pos h0]at this;rw[h0];exact this
  ·rw[if_neg h0]at this;exact this
 obtain⟨a7,a0⟩:=vE (jbo es x.data.toList (.int .i64 ((cn:Int)+1)) ck)
 obtain⟨b3,a9⟩:=vE (if (jaS es x.data.toList).isSome then ck else ck+1)
 obtain⟨A,b4⟩:=vE (W.putObj (b+3) (.map (Tryz.ES.arr a7) b3))
 have d1:(Instr.mapUpdate 82 (.map (some (b+3))) (.string x) (.int .i64 ((cn:Int)+1))).run Tryz.prog W=.ok () A:=by
  have:=jb5 Tryz.ES Tryz.uMapSI h5 x.data.toList (.int .i64 ((cn:Int)+1))
  rw[<-a0, <-a9, <-b4]at this;exact this
 have B2:Blk A (b+3) (.map (Tryz.ES.arr a7) b3):=by rw[b4];exact h5.put_same _
 have e7:∀ y:vB,jaS a7 y.data.toList=cntV (cntB (M++[x]) y):=fun y=>by
  rw[a0,jcy,h6 y,jse]
  by_cases hxy:y.data.toList=x.data.toList
  ·have e1:y=x:=ByteArray.ext (Array.ext' hxy)
   subst e1;rw[if_pos rfl,if_pos rfl, <-a6];unfold cntV;rw[if_neg vO];simp
  ·rw[if_neg hxy,if_neg (fun e=>hxy e.symm)];rfl
 have b0:(Instr.lookup 82 (.map (some (b+3))) (.string x) false).run Tryz.prog A=.ok (.int .i64 ((cn:Int)+1)) A:=by
  have:=jcg Tryz.ES Tryz.uMapSI B2 (Tryz.zeroI A) x.data.toList false
  rw[a0,jcy,if_pos rfl]at this;exact this
 have K2:jag (fun z=>z=b+3) W A:=by rw[b4];exact jag.onePut _ _ _
 have q9:W.cell? ⟨b+4,0,none⟩=some (.map (some (b+3))):=hM.c9.cell (i:=0) vF;have E2:Ext w0 A:=hM.ext.trans' K2 (fun y hy e=>by have e:y=_:=e;have:=hM.lo;omega);have C9:=hM.c9.keeps K2 vO;have f1:A.cell? ⟨b+4,0,none⟩=some (.map (some (b+3))):=C9.cell (i:=0) vF;have C3:=hM.c3.keeps K2 vO;have f2:A.cell? ⟨b,0,none⟩=some (.pointer (some ⟨s,0,none⟩)):=C3.cell (i:=0) vF;have C5:=hM.c5.keeps K2 vO;have V2:=h1.keeps K2 vO;have O2:=jaY h2 K2 (fun z K e=>by have:=h4 z K;have e:z=_:=e;omega);have f3:A.cell? ⟨b+2,0,none⟩=some (.slice ad n cp):=V2.cell (i:=0) vF;have e5:A.frozen? ⟨b+2,0,none⟩=false:=V2.frozen;have qs:=(h.st.keeps E2 (fun g=>g)).cell (i:=1) (v:=.map (some bm)) vF;have E:=(h.mp.ext E2).look x false;simp only[cO,if_false]at E;have a2:=Hd (show memB (ja7 M) x=true↔cn≠0 from by
  rw[jeZ,jaQ,a6];unfold cntB;rw[<-jA,gG,bI]
  exact⟨fun hm=>⟨x,hm,rfl⟩,fun ⟨y,hy,e⟩=>by rw[<-show y=x from ByteArray.ext (Array.ext' e)];exact hy⟩)
 have b7:=Hd (jpj S M x);have b1:=Hd (show ∃ es ck,Blk A (b+3) (.map (Tryz.ES.arr es) ck)/\∀ y:vB,jaS es y.data.toList=cntV (cntB (M++[x]) y)from⟨a7,b3,B2,e7⟩);have d2:Hid (∀ W3:vW,Ext w0 W3->jdy W3 bg G):=fun _ e=>hG.ext e
 obtain⟨ok,q⟩:=vE (okM S G M x)
 rw[<-q];have a3:=Hd q;clear q;have f4:=Hd K2;have d3:=Hd C3;have d4:=Hd C5;have b5:=Hd C9;have b6:=Hd V2;have d5:=Hd O2;have d6:=Hd E2;have H4:=Hd h4;have H3:=Hd h3;have a4:=Hd hM.lo;have b2:Hid (frK S (M++[x])=frK S M->Meet w0 s S bg b (M++[x]) A):=(fun e=>⟨E2,hM.lo,C3,C5,C9,⟨a7,b3,B2,e7⟩,_,n,V2,by rw[e];exact O2,by rw[bF];omega,h4⟩);clear hM h h1 h2 h4 h5 h6 a6 e6 a0 a9 b4 B2 e7 K2 C3 C5 C9 V2 O2 E2 hG
 by_cases hc0:cn=0
 ·subst hc0
  have d7:memB (ja7 M) x=false:=by
   cases hm:memB (ja7 M) x with
   | false=>rfl
   | true=>exact absurd rfl (a2.o.1 hm)
  have b8:=Hd d7;have e8:(Instr.lookup 82 (.map (some (b+3))) (.string x) false).run Tryz.prog W=.ok (.int .i64 0) W:=d0;have e9:(Instr.mapUpdate 82 (.map (some (b+3))) (.string x) (.int .i64 1)).run Tryz.prog W=.ok () A:=d1;have e0:(Instr.lookup 82 (.map (some (b+3))) (.string x) false).run Tryz.prog A=.ok (.int .i64 1) A:=b0;clear d7 d0 d1 b0;cases hs:atL S x.data.toList with
  | some y =>
   rw[hs]at E;unfold ptrO at E;simp only at E;have a5:=Hd (show frK S (M++[x])=frK S M by rw[b7.o,b8.o,hs];rfl);have q:ok=true:=by rw[a3.o];unfold okM;rw[hs];simp
   subst q;clear hs a3;go_enter Tryz.func48,Tryz.ntmps48;go_wp2_with fail
   go_ret
   exact⟨rfl,b2.o a5.o⟩
  | none =>
   rw[hs]at E;unfold ptrO at E;simp only at E;have a5:=Hd (show frK S (M++[x])=frK S M++[x] by rw[b7.o,b8.o,hs];rfl);have q:ok=(atL G x.data.toList).isSome:=by rw[a3.o];unfold okM;rw[hs,b8.o];simp
   have a1:=Hd q;clear hs a3 q;have d8:n+1<=maxLen:=by have:=H3.o;unfold maxLen;omega
   have d9:(n+1) * 16<=140737488355328:=by have:=H3.o;omega
   cases hyg:atL G x.data.toList with
   | some yg =>
    have b9:=Hd hyg;have q:ok=true:=by rw[a1.o,hyg];rfl
    subst q;clear hyg a1;go_enter Tryz.func48,Tryz.ntmps48
    obtain⟨i0,hi,c0,c1,c2⟩:=info_parts Tryz.infoStr
    go_wp2_with (at_builtin;refine jcC _ rfl (.tmp 24) (.tmp 26) 22 rfl 9 i0 _ 1 16 Tryz.uStrs hi c0 c1 c2 rfl vI (.slice ad n cp) n _ rfl (jbm d5.o ((ExtR A).alloc _)) ⟨A.heap.size,0,none⟩ 1 1 [.string x] rfl rfl (ja3 (Blk.new A _)) (by simp[Value.oneCell']) d8 d9 ?_;intro v' O r1 r2 J;obtain⟨Q,X,rfl⟩:=jaL r1;have K6:jag (fun z=>(Value.slice ad n cp).ownBlock=some z) A O:=((jag.refl _ A).alloc _).trans r2;have nO:∀ z,z < b+5->¬(Value.slice ad n cp).ownBlock=some z:=(fun z K e=>by have:=H4.o z e;omega);have Z:=b6.o.keeps K6 (nO _ vO);have e2:O.cell? ⟨b+2,0,none⟩=some (.slice ad n cp):=Z.cell (i:=0) vF;have e3:O.frozen? ⟨b+2,0,none⟩=false:=Z.frozen;have K7:jag (fun z=>z=b+2) O (O.setCell ⟨b+2,0,none⟩ (.slice Q (n+1) X)):=jag.oneSet O ⟨b+2,0,none⟩ _;have a8:=(d4.o.keeps K6 (nO _ vO)).keeps K7 vO;have e4:=a8.cell (i:=0) (v:=.map (some bg)) vF;have E7:Ext w0 (O.setCell ⟨b+2,0,none⟩ (.slice Q (n+1) X)):=(d6.o.trans' K6 (fun y hy e=>by have:=H4.o y e;have:=a4.o;omega)).trans' K7 (fun y hy e=>by have e:y=_:=e;have:=a4.o;omega);have H:=(d2.o _ E7).look x false;rw[b9.o]at H;unfold ptrO at H;simp only[cO,if_false]at H)
    go_ret
    refine⟨rfl,E7,a4.o,(d3.o.keeps K6 (nO _ vO)).keeps K7 vO,a8,(b5.o.keeps K6 (nO _ vO)).keeps K7 vO,?_,.slice Q (n+1) X,n+1,Z.set_same (i:=0) _,?_,?_,?_⟩
    ·obtain⟨c4,c6,c7,c8⟩:=b1.o
     exact⟨c4,c6,(c7.keeps K6 (nO _ vO)).keeps K7 vO,c8⟩
    ·rw[a5.o,bZ]
     refine jaY r1 K7 (fun z K e=>?_);have e:z=b+2:=e;rcases J with J | J
     ·have:=H4.o z (J ▸ K);omega
     ·have h9:=J z K;rw[bK]at h9;have:=b6.o.lt;omega
    ·have:=H3.o;rw[bF];exact Nat.succ_le_succ this
    ·intro z K
     rcases J with J | J
     ·exact H4.o z (J ▸ K)
     ·have h9:=J z K;rw[bK]at h9;have:=b5.o.lt;omega
   | none =>
    have b9:=Hd hyg;have q:ok=false:=by rw[a1.o,hyg];rfl
    subst q;clear hyg a1;go_enter Tryz.func48,Tryz.ntmps48
    obtain⟨i0,hi,c0,c1,c2⟩:=info_parts Tryz.infoStr
    go_wp2_with (at_builtin;refine jcC _ rfl (.tmp 24) (.tmp 26) 22 rfl 9 i0 _ 1 16 Tryz.uStrs hi c0 c1 c2 rfl vI (.slice ad n cp) n _ rfl (jbm d5.o ((ExtR A).alloc _)) ⟨A.heap.size,0,none⟩ 1 1 [.string x] rfl rfl (ja3 (Blk.new A _)) (by simp[Value.oneCell']) d8 d9 ?_;intro v' O r1 r2 J;obtain⟨Q,X,rfl⟩:=jaL r1;have K6:jag (fun z=>(Value.slice ad n cp).ownBlock=some z) A O:=((jag.refl _ A).alloc _).trans r2;have nO:∀ z,z < b+5->¬(Value.slice ad n cp).ownBlock=some z:=(fun z K e=>by have:=H4.o z e;omega);have Z:=b6.o.keeps K6 (nO _ vO);have e2:O.cell? ⟨b+2,0,none⟩=some (.slice ad n cp):=Z.cell (i:=0) vF;have e3:O.frozen? ⟨b+2,0,none⟩=false:=Z.frozen;have K7:jag (fun z=>z=b+2) O (O.setCell ⟨b+2,0,none⟩ (.slice Q (n+1) X)):=jag.oneSet O ⟨b+2,0,none⟩ _;have a8:=(d4.o.keeps K6 (nO _ vO)).keeps K7 vO;have e4:=a8.cell (i:=0) (v:=.map (some bg)) vF;have E7:Ext w0 (O.setCell ⟨b+2,0,none⟩ (.slice Q (n+1) X)):=(d6.o.trans' K6 (fun y hy e=>by have:=H4.o y e;have:=a4.o;omega)).trans' K7 (fun y hy e=>by have e:y=_:=e;have:=a4.o;omega);have H:=(d2.o _ E7).look x false;rw[b9.o]at H;unfold ptrO at H;simp only[cO,if_false]at H)
    go_ret
    refine⟨rfl,E7,a4.o,(d3.o.keeps K6 (nO _ vO)).keeps K7 vO,a8,(b5.o.keeps K6 (nO _ vO)).keeps K7 vO,?_,.slice Q (n+1) X,n+1,Z.set_same (i:=0) _,?_,?_,?_⟩
    ·obtain⟨c4,c6,c7,c8⟩:=b1.o
     exact⟨c4,c6,(c7.keeps K6 (nO _ vO)).keeps K7 vO,c8⟩
    ·rw[a5.o,bZ]
     refine jaY r1 K7 (fun z K e=>?_);have e:z=b+2:=e;rcases J with J | J
     ·have:=H4.o z (J ▸ K);omega
     ·have h9:=J z K;rw[bK]at h9;have:=b6.o.lt;omega
    ·have:=H3.o;rw[bF];exact Nat.succ_le_succ this
    ·intro z K
     rcases J with J | J
     ·exact H4.o z (J ▸ K)
     ·have h9:=J z K;rw[bK]at h9;have:=b5.o.lt;omega
 ·have f5:¬((cn:Int)+1<=1):=vO
  have a5:=Hd (show frK S (M++[x])=frK S M by rw[b7.o,a2.o.2 hc0];rfl);have q:ok=true:=by rw[a3.o];unfold okM;rw[a2.o.2 hc0];simp
  subst q;clear a3;go_enter Tryz.func48,Tryz.ntmps48;go_wp2_with fail
  go_ret
  exact⟨rfl,b2.o a5.o⟩
structure Fair(G:vT):Prop where
 few:G.length<=1000
 refs:∀ y∈G,y.2.2.refs.length<=16
def has2(S G:vT)(x:vB):Prop:=(atL S x.data.toList).isSome=true\/(atL G x.data.toList).isSome=true
structure jf1(S G:vT)(root:vB)(M:vM)(i:Nat):Prop where
 is:M=root ::((frK S M).take i).flatMap (jcp G)
 le:i<=(frK S M).length
 inG:∀ x∈M,has2 S G x
theorem jhn{G:vT}(h:Fair G):∀ l:vM,(l.flatMap (jcp G)).length<=16 * l.length
 | []=>by simp
 | x :: r=>by
  have e:=jhn h r
  have:(jcp G x).length<=16:=by
   unfold jcp;split
   ·rename_i y hy;exact h.refs y (jaU hy).1
   ·simp
  rw[cG,bF,bO];omega
theorem jf1.len{S G:vT}{root:vB}{M:vM}{i:Nat}(h:jf1 S G root M i)(hs:Fair G):M.length<=1+16 * i:=by
 have:=jhn hs ((frK S M).take i)
 rw[dM]at this;have e:=congrArg List.length h.is;rw[bO]at e;omega
theorem jf1.at'{S G:vT}{root:vB}{M:vM}{i:Nat}(h:jf1 S G root M i){x:vB}(hx:x∈frK S M):(atL G x.data.toList).isSome=true:=by
 have e:=jgi.1 hx;rcases h.inG x e.1 with h | h
 ·rw[e.2]at h;cases h
 ·exact h
theorem jh7{S G:vT}{M:vM}(h:∀ x∈frK S M,(atL G x.data.toList).isSome=true):(frK S M).length<=G.length:=by
 have q:((frK S M).map fun x=>x.data.toList).Nodup:=by
  have:=jmt S M
  generalize frK S M=l at this;induction l with
  | nil=>simp
  | cons z r ih =>
   rw[fA]at this;rw[bV,fA]
   exact⟨fun A=>by obtain⟨y,o,e⟩:=bI.1 A;exact this.1 (jnK e ▸ o),ih this.2⟩
 have:=iC q (l₂:=G.map (·.1)) (fun k E=>by
  obtain⟨x,H,e⟩:=bI.1 E
  obtain⟨y,o⟩:=dV.1 (h x H)
  exact bI.2 ⟨y,(jaU o).1,by rw[(jaU o).2,e]⟩)
 simpa using this
theorem jf1.step{S G:vT}{root:vB}{M:vM}{i:Nat}(h:jf1 S G root M i){x:vB}(hx:(frK S M)[i]?=some x)(hr:∀ r∈jcp G x,has2 S G r):jf1 S G root (M++jcp G x) (i+1):=by
 obtain⟨X,q⟩:=jpi S M (jcp G x)
 have z:i < (frK S M).length:=(bW.1 hx).1
 refine⟨?_,?_,?_⟩
 ·have e:(frK S (M++jcp G x)).take (i+1)=(frK S M).take i++[x]:=by
   rw[q,fX vO,cE,hx];rfl
  rw[e,dS]
  have:=h.is
  generalize frK S M=l at this;rw[this]
  simp
 ·rw[q,bF];omega
 ·intro y o
  rcases bT.1 o with o | o
  ·exact h.inG y o
  ·exact hr y o
theorem jAL{S G:vT}{M:vM}{x:vB}(h:okM S G M x=true)(hM:∀ y∈M,has2 S G y):has2 S G x:=by
 unfold okM at h;simp only[Bool.or_eq_true]at h;rcases h with (h | h) | h
 ·exact hM x ((jaQ _ _).1 ((jeZ _ _).1 h))
 ·exact .inl h
 ·exact .inr h
theorem jyN{S G:vT}{M:vM}{x:vB}(h:okM S G M x=false):¬ has2 S G x:=by
 unfold okM at h;simp only[gN]at h;rintro (e | e)
 ·rw[h.1.2]at e;cases e
 ·rw[h.2]at e;cases e
def jzU(w0:vW)(s:Nat)(S G:vT)(bg b:Nat)(root:vB)(wv iv:vV)(W:vW):Prop:=wv=.bool true/\∃ (i:Nat) (M:vM),iv=.int .i64 i/\jf1 S G root M i/\Meet w0 s S bg b M W
def jxN(w0:vW)(s:Nat)(S G:vT)(bg b:Nat)(M R:vM)(wv jv:vV)(W:vW):Prop:=wv=.bool true/\∃ j:Nat,jv=.int .i64 j/\j<=R.length/\Meet w0 s S bg b (M++R.take j) W/\∀ r∈R.take j,has2 S G r
def RhP(w0:vW)(S G:vT)(root:vB)(e:Ending)(w':vW):Prop:=(e=.returned (.tuple #[.slice none 0 0,.int .i64 2])/\Ext w0 w'/\∃ x r,r∈jcp G x/\¬ has2 S G r)\/∃ v n M,e=.returned (.tuple #[v,.int .i64 0])/\jf1 S G root M (frK S M).length/\SRow w0 w' v n (frK S M)
theorem jos(w0:vW)(s bm:Nat)(room:Int)(S G:vT)(bg:Nat)(h:jax w0 s bm room S)(hG:jdy w0 bg G)(hs:Fair G)(root:vB)(hr:(atL G root.data.toList).isSome=true) :
  vQ 25 #[.pointer (some ⟨s,0,none⟩),.string root,.map (some bg)] w0 (RhP w0 S G root):=by
 have HS:=Hd h;have HG:=Hd hG;have a1:=Hd hs;have HR:=Hd hr;have c3:=Tryz.makeMapSI;clear h hG hs hr;go_enter Tryz.func25,Tryz.ntmps25;go_wp2_with fail
 go_step3;go_wp2_with fail
 refine vC (jpz w0 s bm room S G bg w0.heap.size HS.o HG.o _ [] (jtj w0 s S bg) root (by simp)) fun w5 H=>?_;rw[show okM S G [] root=true by unfold okM;rw[HR.o];simp];have HM:=Hd H;clear H c3
 obtain⟨b,hb⟩:=vE w0.heap.size
 rw[show w0.heap.size+1+1+1+1=w0.heap.size+4 from rfl,show w0.heap.size+1+1+1=w0.heap.size+3 from rfl,show w0.heap.size+1+1=w0.heap.size+2 from rfl];rw[<-hb]at HM ⊢;clear hb;go_wp2_with fail
 go_step3;go_wp2_with fail
 go_loopw [11,12] (fun wv iv wr=>jzU w0 s S G bg b root wv iv wr) (fun _ iv _=>1001 - (intOf iv).toNat)
 case atStart =>
  refine⟨rfl,0,[root],rfl,⟨by simp,bY _,fun x e=>by simp at e;subst e;exact .inr HR.o⟩,HM.o⟩
 case round =>
  obtain⟨rfl,i,M,rfl,Q,H⟩:=hrel
  obtain⟨v,n,A,h2,h3,h4⟩:=H.var
  obtain⟨ad,cp,rfl⟩:=jaL h2
  have hn:(frK S M).length=n:=by have:=h2.1;simpa using this
  have a9:=jh7 (S:=S) (M:=M) (fun x e=>Q.at' e);have d6:=a1.o.few;have q8:=A.cell (i:=0) (v:=.slice ad n cp) vF;have Z:=Q.le
  by_cases hlt:i < n
  ·have b1:(i:Int) < (n:Int):=vO
   obtain⟨x,e⟩:∃ x,(frK S M)[i]?=some x:=⟨_,bA vO⟩
   obtain⟨ax,cx,hh,J⟩:=(jkb h2).slice
   obtain⟨ba,oa,c4,b0⟩:=J i x e
   subst c4;cases hh
   obtain⟨y,K⟩:=dV.1 (Q.at' (bJ e))
   have hI:=HG.o.items y (jaU K).1;have a2:=jfU K;have c6:=a1.o.refs y (jaU K).1
   obtain⟨rv,b3,a3⟩:=hI.cells
   obtain⟨ar,cr,rfl⟩:=jaL a3
   obtain⟨R,hR⟩:=vE y.2.2.refs
   have Q5:=Hd (H.c5.cell (i:=0) (v:=.map (some bg)) vF);have Q8:=Hd q8;have QA:=Hd b0;have QR:=Hd ((b3.keeps H.ext (fun g=>g)).cell (i:=1) (v:=.slice ar y.2.2.refs.length cr) vF);have b4:=Hd (HG.o.ext H.ext);have HY:=Hd K;have b5:=Hd (fun hr=>Q.step e hr);have c7:=Hd Q.inG;have c8:=Hd (Q.len a1.o);have b6:=Hd (jkb a3);have b7:=Hd H;rw[a2, <-hR]at b5;rw[<-hR]at QR b6 c6;have c9:=Hd (show R=jcp G x by rw[hR,a2]);have a8:i<=1000:=vO
   obtain⟨yb,a4⟩:=vE y.2.1
   rw[<-a4]at QR;have d0:=Hd a4;clear a2 hR a4 a3 b3 hI K e J b0 A h2 Q H hn a9 Z;go_wp2_with fail
   refine jan [0,1,2,3,4,5,6,7,8,9,10] Ext ExtR ExtT vY vY vY ?_;refine qKL ⟨b+1,0,none⟩ _ rfl (fun w1 A=>jac Tryz.underlying55 rfl (jaa Q5.o ((jaq _).trans A))) ?_;refine vS ?_;refine qKL ⟨b+2,0,none⟩ _ rfl (fun w1 A=>jac Tryz.underlying22 rfl (jaa Q8.o ((jaq _).trans A))) ?_;refine vS ?_;iterate 2 refine vK ?_
   refine qKL ⟨ba,oa+i,none⟩ _ rfl (fun w1 A=>jac Tryz.underlying9 rfl (jaa QA.o ((jaq _).trans A))) ?_;refine vS ?_;refine jcB _ (.pointer (some ⟨yb,0,none⟩)) rfl vY rfl (fun w1 A=>by
    have e:=(b4.o.ext ((jaq _).trans A)).look x false;rw[HY.o]at e;unfold ptrO at e;simp only[cO,if_false]at e;rw[<-d0.o]at e;simp[execOp,Act.eval,e,bS,Result.andThen,cJ]) ?_
   refine vS ?_;refine jcB _ (.pointer (some ⟨yb,0,none⟩)) rfl vY rfl (fun w1 _=>by kernel_rfl) ?_;refine vS ?_
   refine vK ?_
   refine qKL ⟨yb,1,none⟩ _ rfl (fun w1 A=>jac Tryz.underlying22 rfl (jaa QR.o ((jaq _).trans A))) ?_;refine vS ?_;iterate 2 refine vK ?_
   refine qKE (fun w3 he=>?_);have d1:=Hd (b7.o.keeps ((jaq _).trans he));clear he b7 Q5 Q8 QA QR b4 HY q8;go_wp2_with fail
   go_loopw [11,36] (fun wv jv d2=>jxN w0 s S G bg b M R wv jv d2) (fun _ jv _=>R.length - (intOf jv).toNat)
   case atStart=>exact⟨rfl,0,rfl,bY _,by rw[List.take_zero,bU];exact d1.o,fun r hr=>by cases hr⟩
   case round =>
    obtain⟨rfl,j,rfl,hj,E,b8⟩:=hrel
    have O:=Hd b8;clear b8
    by_cases hlt2:j < R.length
    ·have b2:(j:Int) < (R.length:Int):=vO
     obtain⟨z,hz⟩:∃ z,R[j]?=some z:=⟨_,bA hlt2⟩
     obtain⟨d7,d8,d3,q⟩:=b6.o.slice
     obtain⟨d9,e0,a7,a0⟩:=q j z hz
     subst a7;cases d3;have q2:=jaa a0 E.ext;have b9:=Hd hz;have HT:=Hd (show M++R.take (j+1)=M++R.take j++[z] by rw[cE,hz, <-bX];rfl);have HL:=Hd (show (M++R.take j).length<=1000000 by have:=c8.o;rw[bF,dM];omega);have c0:=Hd E;clear q a0 E hz;go_wp2_with fail
     refine vC (jpz w0 s bm room S G bg b HS.o HG.o _ _ c0.o z HL.o) fun w9 a5=>?_;rw[<-HT.o]at a5;have X:=Hd a5
     obtain⟨ok,a6⟩:=vE (okM S G (M++R.take j) z)
     rw[<-a6];have c1:=Hd a6;clear a5 c0 q2 a6;cases ok with
     | false =>
      go_wp2_with fail
      go_ret2;exact .inl ⟨rfl,X.o.ext,x,z,by rw[<-c9.o];exact bJ b9.o,jyN c1.o.symm⟩
     | true =>
     go_wp2_with fail
     go_roundw
     case rel =>
      refine⟨rfl,j+1,by go_num,by omega,X.o,jp7 O.o b9.o (jAL c1.o.symm fun y K=>?_)⟩
      rcases bT.1 K with K | K
      ·exact c7.o y K
      ·exact O.o y K
     case measure=>exact vJ
    ·have d4:j=R.length:=vO
     subst d4;rw[cF]at E;have X:=Hd E;clear E;go_wp2_with fail
     go_roundw
     case rel=>exact⟨rfl,i+1,M++R,by go_num,b5.o (by have h:=O.o;rwa [cF]at h),X.o⟩
     case measure=>exact vJ
  ·have c2:i=(frK S M).length:=vO
   have HP:=Hd (show jf1 S G root M (frK S M).length by rw[<-c2];exact Q);have d5:=Hd (show SRow w0 wr (.slice ad n cp) n (frK S M)from⟨⟨_,_,rfl⟩,h2,H.ext,fun z hz=>by have:=h4 z hz;have:=H.lo;omega⟩);have b1:¬(i:Int) < (n:Int):=vO
   clear c2 Q H A h2 h4 hn a9 Z;go_wp2_with fail
   go_ret2;exact .inr ⟨.slice ad n cp,n,M,rfl,HP.o,d5.o⟩
theorem jhq{L:vM}{G:vT}(h:G.map kvI=readG L)(hL:∀ t∈L,∃ n,jbc t n)(hl:L.length<=1000):Fair G:=by
 refine⟨?_,fun y o=>?_⟩
 ·have:=(jfv L).2.2
  rw[<-h,cB]at this;exact bH this hl
 ·obtain⟨t,q,_,e⟩:=jcL h o
  rw[e]
  obtain⟨n,z⟩:=hL t q
  exact jiM (jb3 z)
theorem ji9{S G:vT}{root:vB}{M:vM}{i:Nat}(h:jf1 S G root M i){r:vB}(hr:r∈M):(atL (S++jc9 G (frK S M)) r.data.toList).isSome=true:=by
 rw[jz4];cases hs:atL S r.data.toList with
 | some y=>rfl
 | none =>
  obtain⟨y,e⟩:=dV.1 (h.at' (jgi.2 ⟨hr,hs⟩))
  have o:y∈jc9 G (frK S M):=List.mem_filterMap.2 ⟨r,jgi.2 ⟨hr,hs⟩,e⟩;cases hp:atL (jc9 G (frK S M)) r.data.toList with
  | some z=>rfl
  | none=>exact absurd (jaU e).2.symm (jkz.1 hp y o)
def jBa(w:vW)(e:Ending)(w':vW):Prop:=∃ k:Int,k≠0/\e=.returned (.tuple #[.string ⟨#[]⟩,.int .i64 k])/\Ext w w'
structure AddY(w:World)(s bm:Nat)(room:Int)(S:vT)(L:vM)(top:vB)(G:vT)(M:vM)(e:Ending)(w':World):Prop where
 given:G.map kvI=readG L
 nodes:∀ t∈L,∃ n,jbc t n
 news:∀ y∈G,w.heap.size<=y.2.1
 path:jf1 S G (shaB top) M (frK S M).length
 fits:¬ room - S.length < (frK S M).length
 res:e=.returned (.tuple #[.string (shaB top),.int .i64 0])
 st:jax w' s bm room (jkE (shaB top).data.toList (jeR ((frK S M).flatMap (jcp G)) (S++jc9 G (frK S M))))
 kp:jag (fun z=>z=bm\/z∈S.map (·.2.1)) w w'
 rk:RK w w'
 rows:jnB w w' G
def jw0(Q:Prop)(room:Int)(S:vT)(L:vM)(k:Int):Prop:=(k=2/\Q)\/(k=2/\∃ G,G.map kvI=readG L/\∃ x r,r∈jcp G x/\¬ has2 S G r)\/(k=3/\∃ top G M,L[0]?=some top/\G.map kvI=readG L/\jf1 S G (shaB top) M (frK S M).length/\room - S.length < (frK S M).length)
def joJ(Q:Prop)(w:vW)(s bm:Nat)(room:Int)(S:vT)(L:vM)(e:Ending)(w':vW):Prop:=(∃ k:Int,jw0 Q room S L k/\k≠0/\e=.returned (.tuple #[.string ⟨#[]⟩,.int .i64 k])/\Ext w w')\/∃ top G M,L[0]?=some top/\AddY w s bm room S L top G M e w'
def jrv(w:vW)(s bm:Nat)(room:Int)(S:vT)(L:vM)(e:Ending)(w':vW):Prop:=jBa w e w'\/∃ top G M,L[0]?=some top/\AddY w s bm room S L top G M e w'
theorem jkw(w:vW)(hc:jbN w)(hGE:ErrT w)(s bm:Nat)(room:Int)(S:vT)(h:jax w s bm room S)(v:vV)(L:vM)(hv:RdS w v L)(Q:Prop)(hL:AnyQ Q L)(hll:L.length<=1000)(top:vB)(htop:L[0]?=some top)(hr0:0<=room)(hr1:room<=9223372036854775807)(hS:S.length<=100000)(hSu:∀ x∈S,0<=x.2.2.used/\x.2.2.used<=1000000000)(hSh:∀ x∈S,0<=x.2.2.held/\x.2.2.held<=1000000000) :
  vQ 8 #[.pointer (some ⟨s,0,none⟩),v] w (joJ Q w s bm room S L):=by
 have h0:L≠[]:=fun e=>by subst e;cases htop
 have k1:0 < L.length:=gC.2 h0
 obtain⟨a,c,rfl,_⟩:=hv.slice
 have HR:=Hd (juk w hc hGE _ L hv hll h0 Q hL);have HC:=Hd hc;have HV:=Hd hv;have HL:=Hd hL;have HS:=Hd h;have O:=Hd htop;have g7:=Hd hSu;have d2:=Hd hSh;clear hc h hv hL htop h0 hSu hSh;go_enter Tryz.func8,Tryz.ntmps8;go_wp2_with fail
 refine HR.o.mono ?_;rintro e w1 (⟨rfl,hE,hq⟩ |⟨a0,bg,G,rfl,hG,e1⟩)
 ·have HE:=Hd hE
  have HQ:=Hd hq;clear hE HR hq;go_wp2_with fail
  go_ret2;exact .inl ⟨2,.inl ⟨rfl,HQ.o⟩,by decide,rfl,HE.o⟩
 have b3:=Hd a0;have g8:=Hd e1;have g9:Hid (∀ x∈G,x.2.1 < w1.heap.size):=fun x q=>(hG.at'.items x q).lt;have h2:=Hd hG.ext;clear a0 e1
 obtain⟨ax,cx,hh,A⟩:=HV.o.slice
 obtain⟨ba,oa,a6,a7⟩:=A 0 top O.o
 subst a6;cases hh;have q1:=jaa a7 hG.ext;have HG:=Hd hG;rw[gV]at q1;clear A a7 hG HR;go_wp2_with fail
 refine vH (of_t _ _ [top] (by simp) (jbK w1 [top] 9) (HC.o.ext (HG.o.ext.alloc _))) fun w2 hE=>?_;rw[jc1];have c7:=((ExtR w1).alloc (.cells #[.string top] 9)).trans hE;have E:=Hd (HG.o.keeps c7);have h3:=Hd c7
 obtain⟨rt,b8⟩:=vE (shaB top)
 have b9:=Hd b8;have h4:=Hd (show (atL G rt.data.toList).isSome=true by rw[b8];exact jmx HG.o.is (bJ O.o));rw[<-b8];clear c7 b8 q1;go_wp2_with fail
 have c0:=Hd (jhq E.o.is b3.o hll);have e2:=Hd (HS.o.ext E.o.ext);refine (jos w2 s bm room S G bg e2.o E.o.at' c0.o rt h4.o).mono ?_;rintro e w3 (⟨rfl,hE,e3⟩ |⟨v3,n,M,rfl,hP,hF⟩)
 ·have HE:=Hd (E.o.ext.trans hE)
  have h5:=Hd e3;clear hE e3;go_wp2_with fail
  go_ret2;exact .inl ⟨2,.inr (.inl ⟨rfl,G,E.o.is,h5.o⟩),by decide,rfl,HE.o⟩
 have d3:=jh7 (S:=S) (M:=M) (fun x q=>hP.at' q);have k2:=c0.o.few;have hn:(frK S M).length=n:=by have:=hF.len;simpa using this
 obtain⟨ad,cp,rfl⟩:=hF.sl
 have HP:=Hd hP;have HF:=Hd hF
 obtain⟨F,c8⟩:=vE (frK S M)
 rw[<-c8]at HF hn d3;have J:=Hd c8;have h6:=Hd (E.o.keeps hF.ext);have e4:=Hd (e2.o.ext hF.ext);clear hP hF c8;go_wp2_with fail
 refine vH (jza w3 s bm room S e4.o hr0 hr1 vO) fun w4 Z=>?_
 obtain⟨m,hm⟩:=vE (room - (S.length:Int))
 rw[<-hm];have HM:=Hd hm;clear hm
 by_cases hfull:m < (n:Int)
 ·go_wp2_with fail
  go_ret2;exact .inl ⟨3,.inr (.inr ⟨rfl,top,G,M,O.o,E.o.is,by rw[<-b9.o];exact HP.o,by rw[<-J.o,hn, <-HM.o];exact hfull⟩),by decide,rfl,(E.o.ext.trans HF.o.ext).trans Z.o⟩
 ·have d4:=Hd (show RK w1 w4 from(((RK.refl w1).ext h3.o).ext HF.o.ext).ext Z.o)
  have e5:Ad1 w4 s bm bg room S G F (.slice ad n cp) 0 w4:=⟨jag.refl _ _,by rw[List.take_zero];show jax w4 s bm room (S++[]);rw[bU];exact e4.o.ext Z.o,h6.o.at'.ext Z.o,by rw[hn];exact jbm HF.o.own Z.o⟩;have e6:=Hd e5;have c1:=HS.o.mp.mp
  obtain⟨_,_,c1,_⟩:=c1
  have g6:=c1.lt;have h7:Hid (∀ z,(Value.slice ad n cp).ownBlock=some z->z≠bm):=(fun z hz e=>by have:=HF.o.new z hz;have:=E.o.ext.size;omega);have h8:Hid (bg≠bm):=(fun e=>by have:=E.o.new;omega);have h9:Hid (∀ x∈S,∀ y∈G,x.2.1≠y.2.1):=(fun x q y hy e=>by have:=(HS.o.mp.items x q).lt;have:=E.o.news y hy;omega);have i0:=Hd (show F.Nodup by rw[J.o];exact jmt S M);have i1:Hid (∀ x∈F,atL S x.data.toList=none):=(fun x q=>by rw[J.o]at q;exact (jgi.1 q).2);have e7:Hid (∀ x∈F,(atL G x.data.toList).isSome=true):=(fun x q=>by rw[J.o]at q;exact HP.o.at' q);have k4:=Hd (HS.o.st);subst hn;clear e5 c1;go_wp2_with fail
  rw[show decide (m < (F.length:Int))=false from decide_eq_false (Int.not_lt.2 hfull)];go_loopw [46] (fun iv wr=>AdR1 w4 s bm bg room S G F (.slice ad F.length cp) iv wr/\RK w1 wr) (fun iv _=>F.length - (intOf iv).toNat)
  case atStart=>exact⟨⟨0,bY _,rfl,e6.o⟩,d4.o⟩
  case round =>
   obtain⟨⟨i,hi,rfl,H⟩,e8⟩:=hrel
   have e9:=Hd e8;clear e8;have HA:=Hd H
   by_cases hlt:i < F.length
   ·have b1:(i:Int) < (F.length:Int):=vO
    obtain⟨x,q⟩:∃ x,F[i]?=some x:=⟨_,bA hlt⟩
    obtain⟨ax,cx,hh,A⟩:=(jkb H.row).slice
    obtain⟨c2,c3,a6,a7⟩:=A i x q
    subst a6;cases hh
    obtain⟨y,hy⟩:=dV.1 (e7.o x (bJ q))
    have Q1:=Hd (H.st.st.cell (i:=1) (v:=.map (some bm)) vF);have f0:=Hd H.gv;have HX:=Hd q;have HY:=Hd hy
    obtain⟨yb,a8⟩:=vE y.2.1
    have f1:=Hd a8;clear A q hy H a8;go_wp2_with fail
    refine jaw [0,1,2,3,4,5,6,7,8] [8] Ext ExtR ExtT vY vY vY ?_
    refine vP ?_
    refine qA _ (.pointer (some ⟨s,0,none⟩)) rfl (fun w1=>by kernel_rfl) ?_;refine vS ?_
    refine vP ?_
    refine qL ⟨s,1,none⟩ _ rfl (fun w1 h1=>jac Tryz.underlying55 rfl (jaa Q1.o ((jaq _).trans h1))) ?_;refine vS ?_;iterate 3 refine vP ?_
    refine jtl _ (.pointer (some ⟨yb,0,none⟩)) rfl vY rfl (fun w1 h1=>by
     have q:=(f0.o.ext ((jaq _).trans h1)).look x false;rw[HY.o]at q;unfold ptrO at q;simp only[cO,if_false]at q;rw[<-f1.o]at q;simp[execOp,Act.eval,q,bS,Result.andThen,cJ]) ?_
    refine vS ?_;refine qH _ rfl (fun w5 he K hK=>?_);have f2:=HA.o.ext ((jaq _).trans he)
    obtain⟨ob,f3,c9⟩:=f2.put h9.o h8.o h7.o i0.o i1.o HX.o HY.o
    rw[<-f1.o]at f3;have f4:=Hd c9
    obtain⟨k5,k6,b4,_⟩:=c9.st.mp.mp
    have d5:=Hd ((e9.o.ext ((jaq _).trans he)).put (jag.onePut _ bm ob) b4);clear b4;clear f2 c9 he HA Q1 f0 a7;go_simp;refine hK _ _ ?_;clear hK K;refine qE (fun w7 he=>?_);have i2:=Hd (f4.o.ext he);have d6:=Hd (d5.o.ext he);clear he f4 f3;go_wp2_with fail
    go_roundw
    case rel=>exact⟨⟨i+1,by omega,by go_num,i2.o⟩,d6.o⟩
    case measure=>exact vJ
   ·have i3:i=F.length:=vO
    subst i3
    obtain⟨S1,a9⟩:=vE (S++jc9 G F)
    have c4:=Hd a9;have b0:=Hd (show Ad2 wr s bm bg room S1 G F (.slice ad F.length cp) [] wr from⟨jag.refl _ _,by have:=H.st;rw[cF]at this;rw[a9];exact this,⟨G,H.gv,fun k=>rfl⟩,H.row⟩);have HU:=Hd (show ∀ x∈S1,0<=x.2.2.used/\x.2.2.used<=1000000000 from fun x q=>by
     rw[a9]at q;rcases bT.1 q with q | q
     ·exact g7.o x q
     ·obtain⟨t,ht,_,e⟩:=jcL E.o.is (jbT q).1
      rw[e];exact⟨Int.le_refl _,by show (0:Int)<=1000000000;decide⟩)
    have i4:=Hd (show ∀ r∈F.flatMap (jcp G),(atL S1 r.data.toList).isSome=true from fun r hr=>by
     rw[a9,J.o];refine ji9 HP.o ?_
     have:=HP.o.is
     rw[cF, <-J.o]at this;rw[this];exact bC _ hr)
    obtain⟨w5,a4⟩:=vE wr
    have i5:=Hd a4;have d7:=Hd (show RK w1 w5 by rw[a4];exact e9.o);rw[<-a4]at b0;have b0:=Hd (show Ad2 w5 s bm bg room S1 G F (.slice ad F.length cp) [] wr by rw[<-a4];exact b0.o);have f5:=Hd (show jag (fun z=>z=bm) w4 w5 by rw[a4];exact H.kp);clear e6 H HA a9 a4;go_wp2_with fail
    go_loopw [61] (fun iv wr=>AdR2 w5 s bm bg room S1 G F (.slice ad F.length cp) iv wr/\RK w1 wr) (fun iv _=>F.length - (intOf iv).toNat)
    case atStart=>exact⟨⟨0,bY _,rfl,b0.o⟩,by rw[<-i5.o];exact d7.o⟩
    case round =>
     obtain⟨⟨i,k7,rfl,H⟩,b5⟩:=hrel
     have a3:=Hd b5;clear b5
     by_cases hlt2:i < F.length
     ·have b1:(i:Int) < (F.length:Int):=vO
      obtain⟨x,q⟩:∃ x,F[i]?=some x:=⟨_,bA hlt2⟩
      obtain⟨ax,cx,hh,A⟩:=(jkb H.row).slice
      obtain⟨c2,c3,a6,a7⟩:=A i x q
      subst a6;cases hh
      obtain⟨y,hy⟩:=dV.1 (e7.o x (bJ q))
      obtain⟨G',d0,f6⟩:=H.gv
      have hk:=f6 x.data.toList;rw[hy]at hk
      obtain⟨y',d1,hk⟩:=cV.1 hk
      have a5:=d0.look x false;rw[d1]at a5;unfold ptrO at a5;simp only[cO,if_false]at a5
      obtain⟨rv,f7,c5⟩:=(d0.items y' (jaU d1).1).cells
      have f8:y'.2.2.refs=jcp G x:=by rw[jfU hy];exact congrArg (fun z=>z.2.2) hk
      obtain⟨R,hR⟩:=vE (jcp G x)
      rw[f8, <-hR]at c5
      obtain⟨ar,cr,rfl⟩:=jaL c5
      have qr:=f7.cell (i:=1) (v:=.slice ar R.length cr) vF
      obtain⟨T,hT⟩:=vE ((F.take i).flatMap (jcp G))
      have i6:=Hd (show (F.take (i+1)).flatMap (jcp G)=T++R by rw[cE,q,dS,hT,hR];simp);have i7:=Hd (show T.length<=16000 by
       have:=jhn c0.o (F.take i)
       rw[hT];rw[dM]at this;omega)
      have f9:=Hd (show R.length<=16 by rw[hR,jfU hy];exact c0.o.refs y (jaU hy).1);have i8:Hid (∀ r∈R,(atL S1 r.data.toList).isSome=true):=(fun r hr=>i4.o r (cP.2 ⟨x,bJ q,by rw[<-hR];exact hr⟩));rw[<-hT]at H;have g0:=Hd (show AdR3 w5 s bm bg room S1 G F (.slice (some ⟨c2,c3,none⟩) F.length cp) T R (.slice ar R.length cr) (.int .i64 0) wr from⟨0,bY _,rfl,by rw[List.take_zero,bU];exact H,c5⟩)
      obtain⟨yb,a8⟩:=vE y'.2.1
      rw[<-a8]at a5 qr;clear A q hy d0 f6 hk d1 f7 c5 f8 hR hT H a8;go_wp2_with fail
      go_loopw [72] (fun jv g1=>AdR3 w5 s bm bg room S1 G F (.slice (some ⟨c2,c3,none⟩) F.length cp) T R (.slice ar R.length cr) jv g1/\RK w1 g1) (fun jv _=>R.length - (intOf jv).toNat)
      case atStart=>exact⟨g0.o,a3.o⟩
      case round =>
       obtain⟨⟨j,hj,rfl,hB,c6⟩,b6⟩:=hrel
       have b7:=Hd b6;clear b6
       by_cases hlt3:j < R.length
       ·have b2:(j:Int) < (R.length:Int):=vO
        obtain⟨z,hz⟩:∃ z,R[j]?=some z:=⟨_,bA hlt3⟩
        obtain⟨k8,k9,i9,X⟩:=(jkb c6).slice
        obtain⟨l0,l1,d8,k3⟩:=X j z hz
        subst d8;cases i9;have qs:=hB.st.st.cell (i:=1) (v:=.map (some bm)) vF
        obtain⟨zb,u,d9,qu,fu,j0,j1,g2,a1⟩:=hB.bump HU.o (by have:=i7.o;have:=f9.o;rw[bF,dM];omega) z (i8.o z (bJ hz))
        have l2:=f9.o;have j2 : -9223372036854775808<=u+1:=vO
        have j3:u+1<=9223372036854775807:=vO
        have g3:=Hd (bB (show Ad2 w5 s bm bg room S1 G F (.slice (some ⟨c2,c3,none⟩) F.length cp) (T++R.take (j+1)) _ by rw[cE,hz, <-bX];exact g2) (a1 _ _ _ c6));clear X hz hB c6 g2 a1 a5 qr;go_wp2_with fail
        go_roundw
        case rel=>exact⟨⟨j+1,by omega,by go_num,g3.o.1,g3.o.2⟩,b7.o.set zb (.inl rfl) _⟩
        case measure=>exact vJ
       ·have j4:j=R.length:=vO
        subst j4;rw[cF, <-i6.o]at hB;have j5:=Hd hB;clear hB c6 g0 a5 qr;go_wp2_with fail
        go_roundw
        case rel=>exact⟨⟨i+1,by omega,by go_num,j5.o⟩,b7.o⟩
        case measure=>exact vJ
     ·have e0:i=F.length:=vO
      subst e0;rw[cF]at H;have l3:=Hd H;have a2:(atL S1 rt.data.toList).isSome=true:=by
       rw[c4.o,J.o];exact ji9 HP.o (by rw[HP.o.is];exact bD)
      have j6:=Hd (show ∀ x∈S1,0<=x.2.2.held/\x.2.2.held<=1000000000 from fun x q=>by
       rw[c4.o]at q;rcases bT.1 q with q | q
       ·exact d2.o x q
       ·obtain⟨t,ht,_,e⟩:=jcL E.o.is (jbT q).1
        rw[e];exact⟨Int.le_refl _,by show (0:Int)<=1000000000;decide⟩)
      have qs:=H.st.st.cell (i:=1) (v:=.map (some bm)) vF
      obtain⟨zb,u,d9,qu,fu,j0,j1,g4,g5⟩:=H.hold j6.o rt a2
      have j2 : -9223372036854775808<=u+1:=vO
      have j3:u+1<=9223372036854775807:=vO
      have j7:=Hd g4;have j8:=Hd (((E.o.ext.trans HF.o.ext).trans Z.o).mono (G:=fun z=>z=bm\/z∈S.map (·.2.1)) (fun _ _ g=>g.elim));have j9:=Hd g5;have k0:=Hd f5.o;clear H b0 f5 g4 g5 a2;go_wp2_with fail
      go_ret2;refine .inr ⟨top,G,M,O.o,E.o.is,b3.o,E.o.news,by rw[<-b9.o];exact HP.o,by rw[<-J.o, <-HM.o];exact Int.not_lt.2 hfull,by rw[b9.o];rfl,?_,?_,((RK.refl w).ext h2.o).trans (a3.o.set zb (.inr rfl) _),g8.o.rk (a3.o.set zb (.inr rfl) _) g9.o⟩
      ·rw[<-J.o, <-c4.o, <-b9.o];exact j7.o
      ·refine (jag.trans' (F:=fun z=>z=bm\/z∈S.map (·.2.1)) j8.o k0.o (fun z hz e=>.inl e)).trans' j9.o (fun z hz e=>?_)
       rw[c4.o,bZ]at e;rcases bT.1 e with e | e
       ·exact .inr e
       ·obtain⟨y,hy,rfl⟩:=bI.1 e
        have:=E.o.news y (jbT hy).1
        omega
theorem juU(w:vW)(hc:jbN w)(hGE:ErrT w)(s bm:Nat)(room:Int)(S:vT)(h:jax w s bm room S)(v:vV)(L:vM)(hv:RdS w v L)(hL:AnyL L)(hll:L.length<=1000)(top:vB)(htop:L[0]?=some top)(hr0:0<=room)(hr1:room<=9223372036854775807)(hS:S.length<=100000)(hSu:∀ x∈S,0<=x.2.2.used/\x.2.2.used<=1000000000)(hSh:∀ x∈S,0<=x.2.2.held/\x.2.2.held<=1000000000) :
  vQ 8 #[.pointer (some ⟨s,0,none⟩),v] w (jrv w s bm room S L):=
 (jkw w hc hGE s bm room S h v L hv True (jBA hL) hll top htop hr0 hr1 hS hSu hSh).mono fun e w' h=>h.imp (fun ⟨k,_,o,q,z⟩=>⟨k,o,q,z⟩) id
theorem jkv(w:vW)(hc:jbN w)(hGE:ErrT w)(s bm:Nat)(room:Int)(S:vT)(h:jax w s bm room S)(v:vV)(L:vM)(hv:RdS w v L)(hL:AnyL L)(hll:L.length<=1000)(hr0:0<=room)(hr1:room<=9223372036854775807)(hS:S.length<=100000)(hSu:∀ x∈S,0<=x.2.2.used/\x.2.2.used<=1000000000)(hSh:∀ x∈S,0<=x.2.2.held/\x.2.2.held<=1000000000) :
  vQ 8 #[.pointer (some ⟨s,0,none⟩),v] w (jrv w s bm room S L):=by
 cases hL0:L with
 | nil =>
  subst hL0
  obtain⟨a,c,rfl,_⟩:=hv.slice
  exact (jxV w _ a c).mono fun e w' ⟨o,q⟩=>.inl ⟨2,by decide,o,q⟩
 | cons t L' =>
  rw[<-hL0];exact juU w hc hGE s bm room S h v L hv hL hll t (by rw[hL0];rfl) hr0 hr1 hS hSu hSh
end
theorem jy8(w:vW)(s bm:Nat)(room:Int)(L:vT)(k:vB)(h:jax w s bm room L):vR 22 #[.pointer (some ⟨s,0,none⟩),.string k] w (.int .i64 (jn8 (atL L k.data.toList))):=by
 have A:=h.st.cell (i:=1) (v:=.map (some bm)) vF;have e:=h.mp.look k true;have z:=Hd h.mp.items;simp only[if_true]at e;clear h;cases ha:atL L k.data.toList with
 | none =>
  rw[ha]at e;unfold ptrO at e;simp only[Option.isSome]at e;clear ha;go_enter Tryz.func22,Tryz.ntmps22;go_wp2_with fail
  go_ret
  exact⟨rfl,ExtR w⟩
 | some x =>
  rw[ha]at e
  obtain⟨E,q,_⟩:=(z.o x (jaU ha).1).cells
  have H:=q.cell (i:=3) (v:=.int .i64 x.2.2.held) vF;unfold ptrO at e;simp only[Option.isSome]at e;clear ha q;go_enter Tryz.func22,Tryz.ntmps22;go_wp2_with fail
  go_ret
  exact⟨rfl,ExtR w⟩
section
attribute [local go_sem] Oper.semAt_some
def jgn(S:vT):vM:=S.flatMap fun y=>y.2.2.refs
structure Cnt(S:vT):Prop where
 used:∀ x∈S,x.2.2.used=(cK (jgn S) x.1:Int)
 shut:∀ r∈jgn S,r.data.toList∈S.map (·.1)
 held:∀ x∈S,0<=x.2.2.held
 r16:∀ x∈S,x.2.2.refs.length<=16
def jfe(S:vT):Int:=(S.map fun x=>x.2.2.held).sum
theorem Cnt.none:Cnt []:=⟨by simp,by simp[jgn],by simp,by simp⟩
theorem jne{S:vT}(h:∀ x∈S,x.2.2.refs.length<=16):(jgn S).length<=16 * S.length:=by
 induction S with
 | nil=>simp[jgn]
 | cons x r ih =>
  have q:=ih fun y o=>h y (bC _ o);have z:=h x bD;have e:jgn (x :: r)=x.2.2.refs++jgn r:=by simp[jgn]
  rw[e,bF,bO];omega
theorem jx6(T:vM)(k:Key):cK T k<=T.length:=by
 unfold cK;have:=iG (a:=k) (l:=T.map (·.data.toList));rwa [cB]at this
def jxG(S:vT):Prop:=∀ x∈S,0 < x.2.2.used+x.2.2.held
end
theorem jlV{S G:vT}{M:vM}{top:vB}:jgn (addS S G M top)=jgn S++(frK S M).flatMap (jcp G):=by
 rw[jcO];have h:=jr3 ((frK S M).flatMap (jcp G)) (shaB top) (S++jc9 G (frK S M));unfold jgn;rw[h,dS, <-jkd]
theorem jet{S G:vT}{M:vM}{top:vB}:(addS S G M top).map (·.1)=(S++jc9 G (frK S M)).map (·.1):=by rw[jcO,jr2]
theorem jsf{S G:vT}{L M:vM}{top:vB}(hc:Cnt S)(hG:G.map kvI=readG L)(hf:Fair G)(hP:jf1 S G (shaB top) M (frK S M).length):Cnt (addS S G M top):=by
 have E:∀ r∈(frK S M).flatMap (jcp G),r∈M:=fun r q=>by
  have:=hP.is
  rw[cF]at this;rw[this];exact bC _ q
 refine⟨fun x A=>?_,fun r q=>?_,fun x A=>?_,fun x A=>?_⟩
 ·rw[jlV,jz8]
  rw[jcO]at A
  obtain⟨z,o,rfl⟩:=bI.1 A
  show z.2.2.used+((cK ((frK S M).flatMap (jcp G)) z.1:Nat):Int)=((cK (jgn S) z.1+cK ((frK S M).flatMap (jcp G)) z.1:Nat):Int);rcases bT.1 o with o | o
  ·have:=hc.used z o;omega
  ·obtain⟨H,f,J,K⟩:=jbT o
   obtain⟨t,O,_,e⟩:=jcL hG H
   have Z:cK (jgn S) z.1=0:=jx7 fun r q Q=>by
    have:=hc.shut r q
    rw[Q,K, <-jeX,(jgi.1 J).2]at this;cases this
   have X:z.2.2.used=0:=by rw[e];rfl
   omega
 ·rw[jet]
  rw[jlV]at q;rcases bT.1 q with q | q
  ·rw[bZ];exact iF _ (hc.shut r q)
  ·exact jeX.1 (ji9 hP (E r q))
 ·rw[jcO]at A
  obtain⟨z,o,rfl⟩:=bI.1 A
  show 0<=z.2.2.held+((cK [shaB top] z.1:Nat):Int);rcases bT.1 o with o | o
  ·have:=hc.held z o;omega
  ·obtain⟨t,O,_,e⟩:=jcL hG (jbT o).1
   have X:z.2.2.held=0:=by rw[e];rfl
   omega
 ·rw[jcO]at A
  obtain⟨z,o,rfl⟩:=bI.1 A
  show z.2.2.refs.length<=16;rcases bT.1 o with o | o
  ·exact hc.r16 z o
  ·exact hf.refs z (jbT o).1
theorem jvE{S G:vT}{L M:vM}{top:vB}(hc:Cnt S)(hfl:jxG S)(hG:G.map kvI=readG L)(hP:jf1 S G (shaB top) M (frK S M).length):jxG (addS S G M top):=fun x E=>by
 rw[jcO]at E
 obtain⟨z,o,rfl⟩:=bI.1 E
 show 0 < z.2.2.used+((cK ((frK S M).flatMap (jcp G)) z.1:Nat):Int)+(z.2.2.held+((cK [shaB top] z.1:Nat):Int));rcases bT.1 o with o | o
 ·have:=hfl z o;omega
 ·obtain⟨q,f,A,H⟩:=jbT o
  obtain⟨t,K,_,e⟩:=jcL hG q
  have O:z.2.2.used=0:=by rw[e];rfl
  have Q:z.2.2.held=0:=by rw[e];rfl
  have J:=(jgi.1 A).1
  have:=hP.is
  rw[cF]at this;rw[this]at J;rcases bM.1 J with h | h
  ·have:1<=cK [shaB top] z.1:=by rw[H,h];exact jxf (by simp)
   omega
  ·have:1<=cK ((frK S M).flatMap (jcp G)) z.1:=by rw[H];exact jxf h
   omega
theorem jwM(T:vM)(r:vB)(S:vT):jfe (S.map (jl0 T r))=jfe S+((S.map (·.1)).count r.data.toList:Int):=by
 induction S with
 | nil=>simp[jfe]
 | cons x l ih =>
  have e:∀ (a:Nd5) b,jfe (a :: b)=a.2.2.held+jfe b:=fun a b=>by unfold jfe;rw[bV,List.sum_cons]
  rw[bV,e,e,ih,bV,List.count_cons];have o:(jl0 T r x).2.2.held=x.2.2.held+((cK [r] x.1:Nat):Int):=rfl;have q:cK [r] x.1=if x.1=r.data.toList then 1 else 0:=by
   have:=jkF r [] x.1
   rw[this];simp[cK]
  rw[o,q]
  by_cases hx:x.1=r.data.toList
  ·rw[if_pos hx,if_pos (by simp[hx])];push_cast;omega
  ·rw[if_neg hx,if_neg (by simpa using hx)];push_cast;omega
theorem jzc(A B:vT):jfe (A++B)=jfe A+jfe B:=by unfold jfe;rw[bZ,List.sum_append]
theorem jp6:∀ {B:vT},(∀ x∈B,x.2.2.held=0)->jfe B=0
 | [],_=>rfl
 | x :: r,h=>by
  have e:jfe (x :: r)=x.2.2.held+jfe r:=by unfold jfe;rw[bV,List.sum_cons]
  rw[e,h x bD,jp6 fun y o=>h y (bC _ o)];rfl
theorem jl9:∀ {l:List Key},l.Nodup->∀ {k:Key},k∈l->l.count k=1
 | [],_,_,o=>by cases o
 | x :: r,h,k,o=>by
  rw[fA]at h;rw[List.count_cons]
  by_cases e:x=k
  ·subst e
   rw[List.count_eq_zero_of_not_mem h.1];simp
  ·have o:k∈r:=(bM.1 o).resolve_left fun q=>e q.symm
   rw[jl9 h.2 o];simp[e]
theorem jzb{S G:vT}{L M:vM}{top:vB}(hn:((addS S G M top).map (·.1)).Nodup)(hG:G.map kvI=readG L)(hP:jf1 S G (shaB top) M (frK S M).length):jfe (addS S G M top)=jfe S+1:=by
 have o:(shaB top).data.toList∈(S++jc9 G (frK S M)).map (·.1):=jeX.1 (ji9 hP (by rw[hP.is];exact bD));rw[jet]at hn;rw[jcO,jwM,jzc,jp6 (B:=jc9 G (frK S M)) (fun x q=>by
  obtain⟨t,z,_,e⟩:=jcL hG (jbT q).1
  rw[e];rfl),jl9 hn o]
 omega
theorem joj{S G:vT}{M:vM}{top:vB}:(addS S G M top).length<=S.length+(frK S M).length:=by
 rw[jcO,cB,bF]
 have:(jc9 G (frK S M)).length<=(frK S M).length:=iP _ _
 omega
theorem jk1{S G:vT}{L M:vM}{top:vB}{n:Int}(h:∀ x∈S,x.2.2.held<=n)(h0:0<=n)(hG:G.map kvI=readG L):∀ x∈addS S G M top,x.2.2.held<=n+1:=fun x q=>by
 rw[jcO]at q
 obtain⟨z,o,rfl⟩:=bI.1 q
 show z.2.2.held+((cK [shaB top] z.1:Nat):Int)<=n+1;have A:=jx6 [shaB top] z.1;rw[iV]at A;rcases bT.1 o with o | o
 ·have:=h z o;omega
 ·obtain⟨t,E,_,e⟩:=jcL hG (jbT o).1
  have H:z.2.2.held=0:=by rw[e];rfl
  omega
end Go.Proofs.YtepbencaoiompaaGreatDoor
