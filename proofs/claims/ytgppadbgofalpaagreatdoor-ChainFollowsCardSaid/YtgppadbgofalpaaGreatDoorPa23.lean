/- Lemmas; each is under no condition but those that it states. -/
import Derived.Test.YtgppadbgofalpaaGreatDoorPa0
import Derived.Test.YtgppadbgofalpaaGreatDoorPa22
namespace Go.Proofs.YtgppadbgofalpaaGreatDoor
set_option linter.unusedSimpArgs false
set_option linter.unusedVariables false
set_option maxRecDepth 100000
set_option maxHeartbeats 16000000
open Go Go.RowKit
variable {F:Bf}{cur cs xs:List vV}{g dCap sCap sz n i o B G:Nat}{D:Nat->Prop}{x s:Operand}{P:Program}{v:vV}{w w' wr w2 w3:vW}
section
attribute [local go_sem] Oper.semAt_some
theorem zP(w:vW)(dT sT ty elem:TypeId)(g o dLen dCap:Nat)(a:Addr)(sLen sCap:Nat)(cur:Array vV)(t:TypeId)(cs:List vV)(sz n:Nat)
  (hu:P.underlying dT=some (.slice elem)) (hs:(P.info? elem).map (·.size)=some sz) (hm:Nat.min sLen dLen=n)
  (hg:w.heap[g]?=some (.cells cur t (0,0))) (hn:cs.length=n * sz)
  (hsrc:∀ j v,cs[j]?=some v->w.cell? (a.add j)=some v) (hfit:o+cs.length<=cur.size) (h1:∀ v∈cs,v.oneCell'=true) :
  (Builtin.copy_ #[dT,sT] ty #[.slice (some ⟨g,o,none⟩) dLen dCap,.slice (some a) sLen sCap]).run P w =
   .ok (goInt n) (w.setRow g (cur.toList.take o++cs++cur.toList.drop (o+cs.length)).toArray):=by
 have q:=run_loadCells_list (P:=P) w a cs hsrc;have e:=run_storeCells_at P g o t cs 0 cur w hg (by simpa using hfit) h1;cases hq:P.info? elem with
 | none=>simp[hq]at hs
 | some i =>(have A:i.size=sz:=by simpa [hq]using hs);rw[hn]at q;simp[Builtin.copy_,run_underlying hu,Builtin.lenOf,Builtin.firstCells,sizeOf,typeInfo,hq,A,hm,q,e]
theorem zB{ops:Array Oper}{rest:List Oper}{d:Option Tmp}{ty:TypeId}{pos:String}{af:Array Edge}{a:Act}{Q:Exit->Act->vW->Prop}{dT sT elem T:TypeId}{ad:Addr}
  (hu:P.underlying dT=some (.slice elem)) (hs:(P.info? elem).map (·.size)=some sz) (hd:a.eval x=.slice (some g) n dCap) (hx:a.eval s=.slice (some ad) n sCap)
  (hB:Ae w g (.cells cur.toArray T)) (hc:cur.length=n * sz) (hn:cs.length=n * sz) (hsrc:∀ j v,cs[j]?=some v->w.cell? (ad.add j)=some v) (h1:∀ v∈cs,v.oneCell'=true)
  (h:∀ W,Ae W g (.cells cs.toArray T)->Ad (fun z=>z=g) w W->wpList P ops Q rest (a.put d (goInt n)) W) :
  wpList P ops Q (⟨d,.call { callee:=.builtin .copy,args:=#[x,s],argTypes:=#[dT,sT] },ty,pos,af,none⟩ :: rest) a w:=by
 refine wpList_plain rfl fun K H=>?_;have q:=zP (P:=P) w dT sT ty elem g 0 n dCap ad n sCap cur.toArray T cs sz n hu hs (Nat.min_self n) hB hn hsrc (by simp;omega) h1;have e:(cur.toArray.toList.take 0++cs++cur.toArray.toList.drop (0+cs.length)).toArray=cs.toArray:=by rw[gZ,cL,fS (by simp;omega),cB]
 rw[e]at q;have hb:Ae (w.setRow g cs.toArray) g (.cells cs.toArray T):=setRow_heap w g _ _ T _ hB;have J:Ad (fun z=>z=g) w (w.setRow g cs.toArray):=⟨rfl,rfl,rfl,by simp[World.setRow],fun b hb A=>setRow_other w g b _ A⟩;unfold Oper.wp;simp[execOp,resolve,invoke,builtin,hd,hx,q,Result.andThen];exact H _ _ (h _ hb J)
theorem FB:∀ (a b:List VX),Hq (a++b)=Hq a++Hq b:=fun a b=>dW
theorem jpT{L:List VX}(hi:i < L.length)(y:VX):Hq (L.set i y)=(Hq L).take (i * 4)++y.cells++(Hq L).drop (i * 4+y.cells.length):=by
 have e:L=L.take i++L.drop i:=(dB i L).symm
 obtain⟨x,t,q⟩:∃ x t,L.drop i=x :: t:=by cases hd:L.drop i with| nil=>have:=congrArg List.length hd;simp at this;omega| cons x t=>exact⟨x,t,rfl⟩
 have A:(L.take i).length=i:=by rw[cV];omega
 have H:(Hq (L.take i)).length=i * 4:=by rw[Zi,A]
 have J:Hq L=Hq (L.take i)++(x.cells++Hq t):=by(conv=>lhs;rw[e,q,FB]);rfl
 have K:L.set i y=L.take i++y :: t:=by(conv=>lhs;rw[e,q]);rw[List.set_append,if_neg vO,A,iY];rfl
 rw[K,FB,J,List.take_left' H,bZ]
 congr 1
 show y.cells++Hq t=_
 congr 1
 show _=(Hq (L.take i)++(x.cells++Hq t)).drop (i * 4+4);rw[show i * 4+4=(Hq (L.take i)).length+4 by omega,List.drop_append,fS vO];simp[VX.cells]
theorem Ga.keepL{xs:vL}(h:Ga D w v xs)(k:Ad F w w')(hF:∀ b,D b->b < w.heap.size->¬ F b):Ga D w' v xs:=by
 refine⟨?_,h.2⟩
 rcases h.1 with h1 |⟨b,o,c,rfl,h2,h3,h4⟩
 ·exact .inl h1
 ·have hb:=hF b (h.2 b rfl) h2;exact .inr ⟨b,o,c,rfl,bE h2 k.size,h3,fun j x e=>⟨Dw (h4 j x e).1 k hb,Dw (h4 j x e).2 k hb⟩⟩
theorem Fz.keepL{xs:List Bk}(h:Fz D w v xs)(k:Ad F w w')(hF:∀ b,D b->b < w.heap.size->¬ F b):Fz D w' v xs:=by
 refine⟨?_,h.2⟩
 rcases h.1 with h1 |⟨b,o,c,rfl,h2,h3,h4⟩
 ·exact .inl h1
 ·have hb:=hF b (h.2 b rfl) h2;exact .inr ⟨b,o,c,rfl,bE h2 k.size,h3,fun j x e=>⟨Dw (h4 j x e).1 k hb,Dw (h4 j x e).2.1 k hb,Dw (h4 j x e).2.2 k hb⟩⟩
structure IL(w w':World)(g:Nat)(X:List VX):Prop where
 blk:Ae w' g (.cells (Hq X).toArray 91)
 new:w.heap.size<=g
 ext:Af w w'
 hold:CK (fun b=>Fo w w' b/\b≠g) w' X
structure IN(w:World)(L:List Au)(g i:Nat)(Y:List VX)(wr:World):Prop where
 is:Y.map VX.v=L
 blk:Ae wr g (.cells (Hq Y).toArray 91)
 ext:Af w wr
 new:∀ x∈Y.take i,Ga (fun b=>g < b/\b < wr.heap.size) wr x.ev x.v.ents/\Fz (fun b=>g < b/\b < wr.heap.size) wr x.cv x.v.chgs
 old:∀ x∈Y.drop i,Io w x.ev x.v.ents/\Jb w x.cv x.v.chgs
def yK(w:vW)(L:List Au)(g:Nat)(W2:vW)(iv:vV)(wr:vW):Prop:=∃ (i:Nat) (Y:List VX),i<=L.length/\iv=.int .i64 i/\IN w L g i Y wr/\Ad (fun z=>z=g) W2 wr
theorem IN.step{L:List Au}{Y:List VX}(h:IN w L g i Y wr)(hg:w.heap.size<=g)(hi:i < L.length){x y:VX}(hx:Y[i]?=some x)(hy:y.v=x.v)(hE:Af wr w2)(hn:Ga (Fo wr w2) w2 y.ev y.v.ents/\Fz (Fo wr w2) w2 y.cv y.v.chgs)(hk:Ad (fun z=>z=g) w2 w3)(hB:Ae w3 g (.cells (Hq (Y.set i y)).toArray 91)):IN w L g (i+1) (Y.set i y) w3:=by
 have a0:=h.blk.lt;have X:wr.heap.size<=w3.heap.size:=bF hE.size hk.size;have A:=(bI.1 hx).1;have kp:∀ {E:Nat->Prop},(∀ b,E b->b≠g)->∀ {v:vV} {xs:vL},Ga E wr v xs->Ga E w3 v xs:=fun J v xs K=>(K.keepL hE (fun _ _ _ e=>e)).keepL hk (fun b hb _ e=>J b hb e);have kc:∀ {E:Nat->Prop},(∀ b,E b->b≠g)->∀ {v:vV} {xs:List Bk},Fz E wr v xs->Fz E w3 v xs:=fun J v xs K=>(K.keepL hE (fun _ _ _ e=>e)).keepL hk (fun b hb _ e=>J b hb e)
 refine⟨?_,hB,h.ext.trans' (hE.mono kZ |>.trans hk) kJ,fun z q=>?_,fun z q=>?_⟩
 ·rw[gO,hy, <-h.is];refine iV fun j=>?_;rw[iS];split;{rename_i e;subst e;rw[if_pos (by rw[bU];exact A),bY,hx];rfl};rfl
 ·rw[cA,iC A]at q;rcases bR.1 q with q | q;{rw[List.take_set_of_le (bP i)]at q;obtain⟨h1,h2⟩:=h.new z q;exact⟨(kp (fun b hb=>kL hb.1) h1).mono fun b hb=>⟨hb.1,bE hb.2 X⟩,(kc (fun b hb=>kL hb.1) h2).mono fun b hb=>⟨hb.1,bE hb.2 X⟩⟩};have q:z∈[y]:=q;rw[bL.1 q];have H:∀ b,Fo wr w2 b->b≠g:=fun b hb e=>kL hb.1;have O:=hk.size;have Z:∀ b,Fo wr w2 b->g < b/\b < w3.heap.size:=fun b hb=>⟨kL hb.1,bE hb.2 O⟩;exact⟨(hn.1.keepL hk (fun b hb _ e=>H b hb e)).mono Z,(hn.2.keepL hk (fun b hb _ e=>H b hb e)).mono Z⟩
 ·rw[List.drop_set_of_lt vO]at q;(have e:Y.drop (i+1)=(Y.drop i).drop 1:=by rw[List.drop_drop]);rw[e]at q;exact h.old z (List.mem_of_mem_drop q)
theorem TS{T:TypeId}(h:Ae w g (.cells cs.toArray T))(hl:o+n<=cs.length):w.there g o n:=fun j q=>by
 obtain⟨v,e⟩:∃ v,cs[o+j]?=some v:=⟨_,bB vO⟩
 exact⟨by rw[h.cellL e];rfl,h.frozen⟩
theorem jvw{T:TypeId}(h:w.ownsRow B T sz (.slice (some G) n n) n xs):∃ q:List vV,Ae w G (.cells q.toArray T)/\q.length=n * sz:=by
 obtain⟨_,⟨e,_⟩ |⟨g,H,q,e,_,J,_,_,K,_⟩⟩:=h
 ·cases e
 ·obtain⟨A,_,O⟩:=dH e;(have A:G=g:=by injection A with A;injection A);subst A O;exact⟨q.toList,J,by simpa using K⟩
theorem Co(w:vW):(Instr.alloc 70 true (.tuple #[])).run Tryz.prog w=.ok w (w.alloc (.cells [Value.int .i64 0,.int .i64 0,.slice none 0 0].toArray 70)):=vY
theorem VM(w:vW)(D:Nat->Prop)(M:Cn)(a:Option Addr)(c:Nat)(hv:Cz D w (.slice a M.all.length c) M.all)(hne:M.all.length≠0)(hl:M.all.length<=1000)(hsz:∀ x∈M.all,x.ents.length<=1000/\x.chgs.length<=1000):vQ 76 #[.agg #[.int .i64 (M.win:Int),.int .i64 (M.next:Int),.slice a M.all.length c]] w fun e w'=>∃ g X,e=.returned (.agg #[.int .i64 (M.win:Int),.int .i64 (M.next:Int),.slice (some ⟨g,0,none⟩) M.all.length M.all.length])/\X.map VX.v=M.all/\IL w w' g X:=by
 obtain⟨X,c4,c5,hG⟩:=hv.g
 have hn:=hG.len
 obtain⟨n,Z⟩:=vE M.all.length
 rw[<-Z]at hG hne hl ⊢;have HG:=Hd hG;have HX:=Hd (bA c4 c5);have HN:=Hd (bA Z hsz)
 obtain⟨ad,rfl⟩:∃ ad,a=some ad:=by
  rcases hv with⟨a',c',e,h0⟩ |⟨b,o,c',e,_⟩
  ·rw[h0]at Z;exact absurd Z hne
  ·exact⟨_,(dH e).1⟩
 have a8:∀ j u,(Hq X)[j]?=some u->w.cell? (ad.add j)=some u:=by
  rcases hG.at' with⟨_,_,_,h0⟩ |⟨b,o,c',e,h⟩
  ·exact absurd h0 hne
  ·intro j u hu
   have e1:ad=⟨b,o,none⟩:=by have:=(dH e).1;injection this
   rw[e1,Go.WideShapes.add_plain];exact h j u hu
 have HS:=Hd a8
 obtain⟨i0,hi,c7,c8,c9⟩:=info_parts Li
 have HI:=Hd (bA hi (bA c7 (bA c8 c9)));clear hv c4 c5 hG hn Z hsz a8 hi c7 c8 c9;unfold vQ;go_in;go_wp2_with (first
  |(refine Di Co rfl rfl ?_;intro W1 b0 b6
    have d0:=Hd (((Aa w).alloc (.cells #[.int .i64 (M.win:Int),.int .i64 (M.next:Int),.slice (some ad) n c] 70)).trans b6);have a3:=Hd ((Ae.new w (.cells #[.int .i64 (M.win:Int),.int .i64 (M.next:Int),.slice (some ad) n c] 70)).keeps b6 kI);have p2:=a3.o.cell (i:=2) (v:=.slice (some ad) n c) vF;have e4:=Hd (show w.heap.size+2<=W1.heap.size from by have:=b0.lt;rw[bG]at this;omega);rw[bG]at b0;have b2:=Hd b0;clear b0 b6)
  |(refine wpList_make_full W1 rfl (.tmp 8) (.tmp 8) 68 rfl 0 91 i0 _ 4 Km HI.o.1 HI.o.2.1 HI.o.2.2.1 .i64 .i64 _ _ n rfl rfl rfl rfl (by rw[HI.o.2.2.2];omega) (by unfold maxLen;omega) (cE _) ?_;intro W2 r1 r2
    obtain⟨f5,d1,d2⟩:=jvw r1
    have b3:Af W1 W2:=Ad.of_grown r2 (fun _ h=>by cases h);have d3:=Hd (d0.o.trans b3);have a3:=Hd (a3.o.keeps b3 kI);have b2:=Hd (b2.o.keeps b3 kI);have e5:=Hd d1;have e6:=Hd d2;have f6:=a3.o.cell (i:=2) (v:=.slice (some ad) n c) vF;clear r1 r2 d1 d2 b3)
  |(refine zB Km Bt rfl rfl e5.o e6.o HG.o.len (fun j u hu=>Am (HS.o j u hu) d3.o) HG.o.one ?_;intro W3 b7 a4))
 obtain⟨G,hG⟩:=vE W1.heap.size
 rw[<-hG]at b7 a4 ⊢;have e7:=d0.o.size;have e8:=b2.o.lt;have e9:=a4.size;have a5:=Hd (show w.heap.size+2<=G from by
  rw[hG];exact e4.o)
 have d4:IN w M.all G 0 X W3:=⟨HX.o.1,b7,d3.o.trans' a4 (fun x A e=>by have e:x=G:=e;have:=a5.o;omega),fun x A=>by simp at A,fun x A=>⟨(HX.o.2 x A).1.1,(HX.o.2 x A).2.1⟩⟩;have d5:=Hd (bA d4 a4);clear d4 b7 a4 hG e7 e8 e9;go_loopw [16] (fun iv wr=>yK w M.all G W2 iv wr) (fun iv _=>n - (intOf iv).toNat)
 case atStart=>exact⟨0,X,cE _,rfl,d5.o.1,d5.o.2⟩
 case round =>
  obtain⟨i,Y,hi,rfl,O,hK⟩:=hrel
  have HK:=Hd hK;have J:=Hd O;have K:=Hd (show Y.length=n from by rw[HN.o.1, <-O.is,bU]);rw[<-HN.o.1]at hi
  by_cases hlt:i < n
  ·obtain⟨x,A⟩:∃ x,Y[i]?=some x:=⟨_,bB (by rw[K.o];exact hlt)⟩
   have a0:=O.old x (by rw[List.mem_drop_iff_getElem];exact⟨0,by rw[K.o];omega,by simpa using (bI.1 A).2⟩);have d6:x.v∈M.all:=by rw[<-O.is];exact bC.2 ⟨x,bD A,rfl⟩
   have d7:=HN.o.2 x.v d6;have hc:=JH Y i x A
   obtain⟨⟨bk,es,cs,pn⟩,ev,cv⟩:=x
   have hp:Io wr ev es:=a0.1.ext O.ext;have hq:Jb wr cv cs:=a0.2.ext O.ext
   obtain⟨a1,c1,rfl⟩:=hp.sl
   obtain⟨a2,c2,rfl⟩:=hq.sl
   have q0:wr.cell? ⟨G,i * 4,none⟩=some (.int .i64 (bk:Int)):=O.blk.cellL (hc 0 vI);have q1:wr.cell? ⟨G,i * 4+1,none⟩=some (.slice a1 es.length c1):=O.blk.cellL (hc 1 vI);have q2:wr.cell? ⟨G,i * 4+2,none⟩=some (.slice a2 cs.length c2):=O.blk.cellL (hc 2 vI);have q3:wr.cell? ⟨G,i * 4+3,none⟩=some (.int .i64 (pn:Int)):=O.blk.cellL (hc 3 vI);have b1:(i:Int) < (n:Int):=vO
   have a7:=Hd (bA A (bA hp (bA hq d7)));clear a0 d6 d7 hc hp hq A O hK;go_wp2_with fail
   have q:=(Aa wr).alloc (.cells #[.int .i64 (bk:Int),.slice a1 es.length c1,.slice a2 cs.length c2,.int .i64 (pn:Int)] 91);refine (juV _ ⟨⟨bk,es,cs,pn⟩,.slice a1 es.length c1,.slice a2 cs.length c2⟩ ⟨a7.o.2.1.ext q,a7.o.2.2.1.ext q⟩ a7.o.2.2.2.1 a7.o.2.2.2.2).mono ?_;rintro e w2 ⟨y,rfl,hy,b4,hE⟩;have b8:=J.o.blk.keeps (q.trans hE) kI;have HT:=Hd (TS (n:=4) b8 (show i * 4+4<=(Hq Y).length by rw[Zi,K.o];omega));have b9:=Ae.setCells y.cells (i * 4) w2 _ b8 (by rw[Zi,K.o];show i * 4+4<=_;omega);rw[<-jpT (by rw[K.o];exact hlt)]at b9;have d8:=Hd (J.o.step (kL a5.o) (by rw[<-HN.o.1];exact hlt) a7.o.1 hy (q.trans hE) ⟨b4.1.mono (fun b hb=>⟨bF q.size hb.1,hb.2⟩),b4.2.mono (fun b hb=>⟨bF q.size hb.1,hb.2⟩)⟩ (Ad.oneSetCells G y.cells (i * 4) w2) b9);have d9:=Hd (HK.o.trans (((q.trans hE).mono kZ).trans (Ad.oneSetCells G y.cells (i * 4) w2)));have e0:=Hd (VX.one b4)
   obtain⟨ys,c0⟩:=vE y.cells
   have e2:=Hd (show ys.length=4 by rw[c0];rfl);rw[<-c0]at d8 d9 e0 ⊢;clear b9 b8 hE b4 c0 q hy q0 q1 q2 q3;go_wp2_with (refine wpList_store_mid rfl 91 _ _ rfl G (i * 4) ys.toArray rfl rfl (by rw[cQ,e2.o];exact HT.o) (by rw[cQ,e2.o];exact Bt) (all_oneCell_toArray e0.o) ?_)
   go_roundw
   case rel=>exact⟨i+1,Y.set i y,by rw[<-HN.o.1];omega,by go_num,d8.o,d9.o⟩
   case measure=>exact vJ
  ·obtain rfl:i=n:=vO
   have b5:=a3.o.keeps HK.o (kL a5.o);have e3:=b2.o.keeps HK.o (kL a5.o);have f2:wr.frozen? ⟨w.heap.size,2,none⟩=false:=b5.frozen;have f4:=b5.cell (i:=2) (v:=.slice (some ad) i c) vF;have H:=b5.set_same (i:=2) (.slice (some ⟨G,0,none⟩) i i);have r0:=H.cell (i:=0) (v:=.int .i64 (M.win:Int)) vF;have r1:=H.cell (i:=1) (v:=.int .i64 (M.next:Int)) vF;have r2:=H.cell (i:=2) (v:=.slice (some ⟨G,0,none⟩) i i) vF;have a9:=e3.set_other (p:=⟨w.heap.size,2,none⟩) (by show w.heap.size+1≠w.heap.size;omega) (.slice (some ⟨G,0,none⟩) i i);have c3:=Hd a9;have f0:=Hd (Ad.oneSet wr ⟨w.heap.size,2,none⟩ (.slice (some ⟨G,0,none⟩) i i));clear b5 e3 H a9 O hK;go_wp2_with (refine Bv (vs:=[.int .i64 (M.win:Int),.int .i64 (M.next:Int),.slice (some ⟨G,0,none⟩) i i]) rfl rfl rfl rfl c3.o rfl Ao (by simp[Value.oneCell']) ?_;intro W8 f1 f3)
   refine bodyPost_ret (Zd rfl rfl (Uy W8 (w.heap.size+1) 0 [.int .i64 (M.win:Int),.int .i64 (M.next:Int),.slice (some ⟨G,0,none⟩) i i] rfl (fun j v hv=>by rw[bX];exact f1.cellL hv))) rfl ?_;have f7:=a5.o;have k1:Ad (fun z=>z=w.heap.size\/z=w.heap.size+1) wr W8:=(f0.o.mono (fun _ _ e=>.inl e)).trans (f3.mono (fun _ _ e=>.inr e));have hs:=k1.size
   refine⟨G,rfl,Y,J.o.is,⟨J.o.blk.keeps k1 vO,by omega,J.o.ext.trans' k1 (fun x A e=>by omega),fun x A=>?_⟩⟩
   obtain⟨h1,h2⟩:=J.o.new x (by rw[cF (by rw[K.o];exact bP _)];exact A)
   exact⟨(h1.keepL k1 (fun b hb _ e=>kL hb.1)).mono fun b hb=>⟨⟨kL hb.1,bE hb.2 hs⟩,kL hb.1⟩,(h2.keepL k1 (fun b hb _ e=>kL hb.1)).mono fun b hb=>⟨⟨kL hb.1,bE hb.2 hs⟩,kL hb.1⟩⟩
end
