/- Lemmas. -/
import Derived.Test.YtgmmpefjadjajaaGreatDoorPa0
import Derived.Test.YtgmmpefjadjajaaGreatDoorPa22
namespace Go.Proofs.YtgmmpefjadjajaaGreatDoor
set_option linter.unusedSimpArgs false
set_option linter.unusedVariables false
set_option maxRecDepth 100000
set_option maxHeartbeats 16000000
open Go Go.RowKit
variable {F:Bd}{cur cs xs:List vV}{g dCap sCap sz n i o B G:Nat}{D:Nat->Prop}{x s:Operand}{P:Program}{v:vV}{w w' wr w2 w3:vW}
section
attribute [local go_sem] Oper.semAt_some
theorem w_(w:vW)(dT sT ty elem:TypeId)(g o dLen dCap:Nat)(a:Addr)(sLen sCap:Nat)(cur:Array vV)(t:TypeId)(cs:List vV)(sz n:Nat)
  (hu:P.underlying dT=some (.slice elem)) (hs:(P.info? elem).map (·.size)=some sz) (hm:Nat.min sLen dLen=n)
  (hg:w.heap[g]?=some (.cells cur t (0,0))) (hn:cs.length=n*sz)
  (hsrc:∀ j v,cs[j]?=some v->w.cell? (a.add j)=some v) (hfit:o+cs.length<=cur.size) (h1:∀ v∈cs,v.oneCell'=true) :
  (Builtin.copy_ #[dT,sT] ty #[.slice (some ⟨g,o,none⟩) dLen dCap,.slice (some a) sLen sCap]).run P w =
   .ok (goInt n) (w.setRow g (cur.toList.take o++cs++cur.toList.drop (o+cs.length)).toArray):=by
 have q:=run_loadCells_list (P:=P) w a cs hsrc;have e:=run_storeCells_at P g o t cs 0 cur w hg (by simpa using hfit) h1;cases hq:P.info? elem with
 |none=>simp[hq]at hs
 |some i =>(have A:i.size=sz:=by simpa [hq]using hs);rw[hn]at q;simp[Builtin.copy_,run_underlying hu,Builtin.lenOf,Builtin.firstCells,sizeOf,typeInfo,hq,A,hm,q,e]
theorem j_{ops:Array Oper}{rest:List Oper}{d:Option Tmp}{ty:TypeId}{pos:String}{af:Array Edge}{a:Act}{Q:Exit->Act->vW->Prop}{dT sT elem T:TypeId}{ad:Addr}
  (hu:P.underlying dT=some (.slice elem)) (hs:(P.info? elem).map (·.size)=some sz) (hd:a.eval x=.slice (some g) n dCap) (hx:a.eval s=.slice (some ad) n sCap)
  (hB:Ae w g (.cells cur.toArray T)) (hc:cur.length=n*sz) (hn:cs.length=n*sz) (hsrc:∀ j v,cs[j]?=some v->w.cell? (ad.add j)=some v) (h1:∀ v∈cs,v.oneCell'=true)
  (h:∀ W,Ae W g (.cells cs.toArray T)->Ad (λz=>z=g) w W->wpList P ops Q rest (a.put d (goInt n)) W) :
  wpList P ops Q (⟨d,.call { callee:=.builtin .copy,args:=#[x,s],argTypes:=#[dT,sT] },ty,pos,af,none⟩::rest) a w:=by
 refine wpList_plain rfl λK H=>?_;have q:=w_ (P:=P) w dT sT ty elem g 0 n dCap ad n sCap cur.toArray T cs sz n hu hs (Nat.min_self n) hB hn hsrc zd h1;have e:(cur.toArray.toList.take 0++cs++cur.toArray.toList.drop (0+cs.length)).toArray=cs.toArray:=by rw[iG,cL,fZ zd,cC]
 rw[e]at q;have hb:Ae (w.setRow g cs.toArray) g (.cells cs.toArray T):=setRow_heap w g _ _ T _ hB;have O:Ad (λz=>z=g) w (w.setRow g cs.toArray):=⟨rfl,rfl,rfl,by simp[World.setRow],λb hb A=>setRow_other w g b _ A⟩;unfold Oper.wp;simp[execOp,resolve,invoke,builtin,hd,hx,q,Result.andThen];exact H _ _ (h _ hb O)
theorem FV:∀ (a b:List VX),Hw (a++b)=Hw a++Hw b:=λa b=>dS
theorem g0{L:List VX}(hi:i<L.length)(y:VX):Hw (L.set i y)=(Hw L).take (i*4)++y.cells++(Hw L).drop (i*4+y.cells.length):=by
 have e:L=L.take i++L.drop i:=(cX i L).symm
 obtain⟨x,t,q⟩:∃ x t,L.drop i=x::t:=by cases hd:L.drop i with| nil=>have:=congrArg List.length hd;simp at this;omega| cons x t=>exact⟨x,t,rfl⟩
 have A:(L.take i).length=i:=by rw[cR];omega
 have H:(Hw (L.take i)).length=i*4:=by rw[Zv,A]
 have K:Hw L=Hw (L.take i)++(x.cells++Hw t):=by(conv=>lhs;rw[e,q,FV]);rfl
 have O:L.set i y=L.take i++y::t:=by(conv=>lhs;rw[e,q]);rw[List.set_append,if_neg vO,A,jD];rfl
 rw[O,FV,K,List.take_left' H,bZ]
 congr 1
 show y.cells++Hw t=_
 congr 1
 show _=(Hw (L.take i)++(x.cells++Hw t)).drop (i*4+4);rw[show i*4+4=(Hw (L.take i)).length+4 by omega,List.drop_append,fZ vO];simp[VX.cells]
theorem Ga.keepL{xs:vL}(h:Ga D w v xs)(k:Ad F w w')(hF:∀ b,D b->b<(w:Nat)->¬ F b):Ga D w' v xs:=by
 refine⟨?_,h.2⟩
 rcases h.1 with h1|⟨b,o,c,rfl,h2,h3,h4⟩
 ·exact .inl h1
 ·have hb:=hF b (h.2 b rfl) h2;exact .inr ⟨b,o,c,rfl,bE h2 k.size,h3,λj x e=>⟨Ed (h4 j x e).1 k hb,Ed (h4 j x e).2 k hb⟩⟩
theorem Fz.keepL{xs:List Br}(h:Fz D w v xs)(k:Ad F w w')(hF:∀ b,D b->b<(w:Nat)->¬ F b):Fz D w' v xs:=by
 refine⟨?_,h.2⟩
 rcases h.1 with h1|⟨b,o,c,rfl,h2,h3,h4⟩
 ·exact .inl h1
 ·have hb:=hF b (h.2 b rfl) h2;exact .inr ⟨b,o,c,rfl,bE h2 k.size,h3,λj x e=>⟨Ed (h4 j x e).1 k hb,Ed (h4 j x e).2.1 k hb,Ed (h4 j x e).2.2 k hb⟩⟩
structure JK(w w':World)(g:Nat)(X:List VX):Prop where
 blk:Ae w' g (.cells (Hw X).toArray 91)
 new:(w:Nat)<=g
 ext:Af w w'
 hold:DA (λb=>Fs w w' b/\b≠g) w' X
structure JM(w:World)(L:List Au)(g i:Nat)(Y:List VX)(wr:World):Prop where
 is:Y.map VX.v=L
 blk:Ae wr g (.cells (Hw Y).toArray 91)
 ext:Af w wr
 new:∀ x∈Y.take i,Ga (λb=>g<b/\b<(wr:Nat)) wr x.ev x.v.ents/\Fz (λb=>g<b/\b<(wr:Nat)) wr x.cv x.v.chgs
 old:∀ x∈Y.drop i,Jv w x.ev x.v.ents/\Jj w x.cv x.v.chgs
def yJ(w:vW)(L:List Au)(g:Nat)(W2:vW)(iv:vV)(wr:vW):Prop:=∃ (i:Nat) (Y:List VX),i<=L.length/\iv=.int .i64 i/\JM w L g i Y wr/\Ad (λz=>z=g) W2 wr
theorem JM.step{L:List Au}{Y:List VX}(h:JM w L g i Y wr)(hg:(w:Nat)<=g)(hi:i<L.length){x y:VX}(hx:Y[i]?=some x)(hy:y.v=x.v)(hE:Af wr w2)(hn:Ga (Fs wr w2) w2 y.ev y.v.ents/\Fz (Fs wr w2) w2 y.cv y.v.chgs)(hk:Ad (λz=>z=g) w2 w3)(hB:Ae w3 g (.cells (Hw (Y.set i y)).toArray 91)):JM w L g (i+1) (Y.set i y) w3:=by
 have a0:=h.blk.lt;have Z:(wr:Nat)<=↑w3:=bH hE.size hk.size;have A:=(bI.1 hx).1;have kp:∀ {E:Nat->Prop},(∀ b,E b->b≠g)->∀ {v:vV} {xs:vL},Ga E wr v xs->Ga E w3 v xs:=λK v xs O=>(O.keepL hE λ_ _ _ e=>e).keepL hk (λb hb _ e=>K b hb e);have kc:∀ {E:Nat->Prop},(∀ b,E b->b≠g)->∀ {v:vV} {xs:List Br},Fz E wr v xs->Fz E w3 v xs:=λK v xs O=>(O.keepL hE λ_ _ _ e=>e).keepL hk (λb hb _ e=>K b hb e)
 refine⟨?_,hB,h.ext.O (hE.mono kZ |>.trans hk) kJ,λz q=>?_,λz q=>?_⟩
 ·rw[gV,hy, <-h.is];refine iZ λj=>?_;rw[iW];split;{rename_i e;subst e;rw[if_pos (by rw[bT];exact A),bY,hx];rfl};rfl
 ·rw[cB,gK A]at q;rcases bR.1 q with q|q;{rw[List.take_set_of_le (bO i)]at q;obtain⟨h1,h2⟩:=h.new z q;exact⟨(kp (λb hb=>kL hb.1) h1).mono λb hb=>⟨hb.1,bE hb.2 Z⟩,(kc (λb hb=>kL hb.1) h2).mono λb hb=>⟨hb.1,bE hb.2 Z⟩⟩};have q:z∈[y]:=q;rw[bG.1 q];have H:∀ b,Fs wr w2 b->b≠g:=λb hb e=>kL hb.1;have X:=hk.size;have up:∀ b,Fs wr w2 b->g<b/\b<(w3:Nat):=λb hb=>⟨kL hb.1,bE hb.2 X⟩;exact⟨(hn.1.keepL hk λb hb _ e=>H b hb e).mono up,(hn.2.keepL hk λb hb _ e=>H b hb e).mono up⟩
 ·rw[List.drop_set_of_lt vO]at q;(have e:Y.drop (i+1)=(Y.drop i).drop 1:=by rw[List.drop_drop]);rw[e]at q;exact h.old z (List.mem_of_mem_drop q)
theorem UH{T:TypeId}(h:Ae w g (.cells cs.toArray T))(hl:o+n<=cs.length):w.there g o n:=λj q=>by
 obtain⟨v,e⟩:∃ v,cs[o+j]?=some v:=⟨_,bB vO⟩
 exact⟨by rw[h.z1 e];rfl,h.frozen⟩
theorem G3{T:TypeId}(h:w.ownsRow B T sz (.slice (some G) n n) n xs):∃ q:List vV,Ae w G (.cells q.toArray T)/\q.length=n*sz:=by
 obtain⟨_,⟨e,_⟩|⟨g,H,q,e,_,K,_,_,O,_⟩⟩:=h
 ·cases e
 ·obtain⟨A,_,X⟩:=dF e;(have A:G=g:=by injection A with A;injection A);subst A X;exact⟨q.toList,K,by simpa using O⟩
theorem Cy(w:vW):(Instr.alloc 72 true (.tuple #[])).run Tryz.prog w=.ok w (w.alloc (.cells [Value.int .i64 0,.int .i64 0,.slice none 0 0].toArray 72)):=vY
theorem WL(w:vW)(D:Nat->Prop)(M:Dm)(a:Option Addr)(c:Nat)(hv:Dh D w (.slice a M.all.length c) M.all)(hne:M.all.length≠0)(hl:M.all.length<=1000)(hsz:∀ x∈M.all,x.ents.length<=1000/\x.chgs.length<=1000):vQ 73 #[.agg #[(M.win:Int),(M.next:Int),.slice a M.all.length c]] w λe w'=>∃ g X,e=.returned (.agg #[(M.win:Int),(M.next:Int),.slice (some ⟨g,0,none⟩) M.all.length M.all.length])/\X.map VX.v=M.all/\JK w w' g X:=by
 obtain⟨X,c5,c7,hG⟩:=hv.g
 have hn:=hG.len
 obtain⟨n,a3⟩:=vE M.all.length
 rw[<-a3]at hG hne hl ⊢;have HG:=J hG;have HX:=J (bA c5 c7);have HN:=J (bA a3 hsz)
 obtain⟨ad,rfl⟩:∃ ad,a=some ad:=by
  rcases hv with⟨a',c',e,h0⟩|⟨b,o,c',e,_⟩
  ·rw[h0]at a3;exact absurd a3 hne
  ·exact⟨_,(dF e).1⟩
 have a9:∀ j u,(Hw X)[j]?=some u->w.cell? (ad.add j)=some u:=by
  rcases hG.at' with⟨_,_,_,h0⟩|⟨b,o,c',e,h⟩
  ·exact absurd h0 hne
  ·intro j u hu
   have e1:ad=⟨b,o,none⟩:=by have:=(dF e).1;injection this
   rw[e1,Go.WideShapes.add_plain];exact h j u hu
 have HS:=J a9
 obtain⟨i0,hi,c8,c9,d0⟩:=info_parts Lq
 have HI:=J (kU hi c8 c9 d0);clear hv c5 c7 hG hn a3 hsz a9 hi c8 c9 d0;unfold vQ;go_in;go_wp2_with (first
  |(refine Di Cy rfl rfl ?_;intro W1 b2 b7
    have d1:=J (((Aa w).alloc (.cells #[(M.win:Int),(M.next:Int),.slice (some ad) n c] 72)).trans b7);have a4:=J ((Ae.new w (.cells #[(M.win:Int),(M.next:Int),.slice (some ad) n c] 72)).Z b7 kI);have p2:=a4.o.cell (i:=2) (v:=.slice (some ad) n c) vF;have e5:=J (show (w:Nat)+2<=↑W1 from by have:=b2.lt;rw[bJ]at this;omega);rw[bJ]at b2;have b3:=J b2;clear b2 b7)
  |(refine wpList_make_full W1 rfl (.tmp 8) (.tmp 8) 70 rfl 0 91 i0 _ 4 Ky HI.o.1 HI.o.b HI.o.c .i64 .i64 _ _ n rfl rfl rfl rfl (by rw[HI.o.D];omega) zi (cD _) ?_;intro W2 r1 r2
    obtain⟨f6,d2,d3⟩:=G3 r1
    have b4:Af W1 W2:=Ad.y3 r2 (λ_ h=>by cases h);have d4:=J (d1.o.trans b4);have a4:=J (a4.o.Z b4 kI);have b3:=J (b3.o.Z b4 kI);have e6:=J d2;have e7:=J d3;have f7:=a4.o.cell (i:=2) (v:=.slice (some ad) n c) vF;clear r1 r2 d2 d3 b4)
  |(refine j_ Ky Bo rfl rfl e6.o e7.o HG.o.len (λj u hu=>Am (HS.o j u hu) d4.o) HG.o.one ?_;intro W3 b8 a5))
 obtain⟨G,hG⟩:=vE W1.heap.size
 rw[<-hG]at b8 a5 ⊢;have e8:=d1.o.size;have e9:=b3.o.lt;have f0:=a5.size;have a7:=J (show (w:Nat)+2<=G from by
  rw[hG];exact e5.o)
 have d5:JM w M.all G 0 X W3:=⟨HX.o.1,b8,d4.o.O a5 λx A e=>by have e:x=G:=e;have:=a7.o;omega,λx A=>by simp at A,λx A=>⟨(HX.o.2 x A).1.1,(HX.o.2 x A).2.1⟩⟩;have d6:=J (bA d5 a5);clear d5 b8 a5 hG e8 e9 f0;go_loopw [16] (λiv wr=>yJ w M.all G W2 iv wr) (λiv _=>n-(intOf iv).toNat)
 case atStart=>exact⟨0,X,cD _,rfl,d6.o.1,d6.o.2⟩
 case round =>
  obtain⟨i,Y,hi,rfl,Z,hK⟩:=hrel
  have HK:=J hK;have K:=J Z;have O:=J (show Y.length=n from by rw[HN.o.1, <-Z.is,bT]);rw[<-HN.o.1]at hi
  by_cases hlt:i<n
  ·obtain⟨x,A⟩:∃ x,Y[i]?=some x:=⟨_,bB (by rw[O.o];exact hlt)⟩
   have a0:=Z.old x (by rw[List.mem_drop_iff_getElem];exact⟨0,by rw[O.o];omega,by simpa using (bI.1 A).2⟩);have d7:x.v∈M.all:=by rw[<-Z.is];exact bC.2 ⟨x,bD A,rfl⟩
   have d8:=HN.o.2 x.v d7;have hc:=KC Y i x A
   obtain⟨⟨bk,es,cs,pn⟩,ev,cv⟩:=x
   have hp:Jv wr ev es:=a0.1.ext Z.ext;have hq:Jj wr cv cs:=a0.2.ext Z.ext
   obtain⟨a1,c1,rfl⟩:=hp.sl
   obtain⟨a2,c2,rfl⟩:=hq.sl
   have q0:wr.cell? ⟨G,i*4,none⟩=some (.int .i64 (bk:Int)):=Z.blk.z1 (hc 0 vI);have q1:wr.cell? ⟨G,i*4+1,none⟩=some (.slice a1 es.length c1):=Z.blk.z1 (hc 1 vI);have q2:wr.cell? ⟨G,i*4+2,none⟩=some (.slice a2 cs.length c2):=Z.blk.z1 (hc 2 vI);have q3:wr.cell? ⟨G,i*4+3,none⟩=some (.int .i64 (pn:Int)):=Z.blk.z1 (hc 3 vI);have b1:(i:Int)<(n:Int):=vO
   have a8:=J (kU A hp hq d8);clear a0 d7 d8 hc hp hq A Z hK;go_wp2_with fail
   have q:=(Aa wr).alloc (.cells #[(bk:Int),.slice a1 es.length c1,.slice a2 cs.length c2,(pn:Int)] 91);refine (A6 _ ⟨⟨bk,es,cs,pn⟩,.slice a1 es.length c1,.slice a2 cs.length c2⟩ ⟨a8.o.2.1.ext q,a8.o.2.2.1.ext q⟩ a8.o.d a8.o.E).mono ?_;rintro e w2 ⟨y,rfl,hy,b5,hE⟩;have b9:=K.o.blk.Z (q.trans hE) kI;have HT:=J (UH (n:=4) b9 (show i*4+4<=(Hw Y).length by rw[Zv,O.o];omega));have c0:=Ae.setCells y.cells (i*4) w2 _ b9 (by rw[Zv,O.o];show i*4+4<=_;omega);rw[<-g0 (by rw[O.o];exact hlt)]at c0;have d9:=J (K.o.step (kL a7.o) (by rw[<-HN.o.1];exact hlt) a8.o.1 hy (q.trans hE) ⟨b5.1.mono λb hb=>⟨bH q.size hb.1,hb.2⟩,b5.2.mono λb hb=>⟨bH q.size hb.1,hb.2⟩⟩ (Ad.z9 G y.cells (i*4) w2) c0);have e0:=J (HK.o.trans (((q.trans hE).mono kZ).trans (Ad.z9 G y.cells (i*4) w2)));have e2:=J (VX.one b5)
   obtain⟨ys,c3⟩:=vE y.cells
   have e3:=J (show ys.length=4 by rw[c3];rfl);rw[<-c3]at d9 e0 e2 ⊢;clear c0 b9 hE b5 c3 q hy q0 q1 q2 q3;go_wp2_with (refine wpList_store_mid rfl 91 _ _ rfl G (i*4) ys.toArray rfl rfl (by rw[cQ,e3.o];exact HT.o) (by rw[cQ,e3.o];exact Bo) (all_oneCell_toArray e2.o) ?_)
   go_roundw
   case rel=>exact⟨i+1,Y.set i y,by rw[<-HN.o.1];omega,by go_num,d9.o,e0.o⟩
   case measure=>exact vJ
  ·obtain rfl:i=n:=vO
   have b6:=a4.o.Z HK.o (kL a7.o);have e4:=b3.o.Z HK.o (kL a7.o);have f2:wr.frozen? ⟨↑w,2,none⟩=false:=b6.frozen;have f5:=b6.cell (i:=2) (v:=.slice (some ad) i c) vF;have H:=b6.z2 (i:=2) (.slice (some G) i i);have r0:=H.cell (i:=0) (v:=.int .i64 (M.win:Int)) vF;have r1:=H.cell (i:=1) (v:=.int .i64 (M.next:Int)) vF;have r2:=H.cell (i:=2) (v:=.slice (some G) i i) vF;have b0:=e4.z6 (p:=⟨↑w,2,none⟩) (by show (w:Nat)+1≠↑w;omega) (.slice (some G) i i);have c4:=J b0;have f1:=J (Ad.z4 wr ⟨↑w,2,none⟩ (.slice (some G) i i));clear b6 e4 H b0 Z hK;go_wp2_with (refine Bt (vs:=[(M.win:Int),(M.next:Int),.slice (some G) i i]) rfl rfl rfl rfl c4.o rfl Aq zc ?_;intro W8 f3 f4)
   refine bodyPost_ret (Zq rfl rfl (Vl W8 ((w:Nat)+1) 0 [(M.win:Int),(M.next:Int),.slice (some G) i i] rfl λj v hv=>by rw[bX];exact f3.z1 hv)) rfl ?_;have f8:=a7.o;have k1:Ad (λz=>z=(w:Nat)\/z=(w:Nat)+1) wr W8:=(f1.o.mono λ_ _ e=>.inl e).trans (f4.mono λ_ _ e=>.inr e);have hs:=k1.size
   refine⟨G,rfl,Y,K.o.is,⟨K.o.blk.Z k1 vO,by omega,K.o.ext.O k1 λx A e=>by omega,λx A=>?_⟩⟩
   obtain⟨h1,h2⟩:=K.o.new x (by rw[cG (by rw[O.o];exact bO _)];exact A)
   exact⟨(h1.keepL k1 λb hb _ e=>kL hb.1).mono λb hb=>⟨⟨kL hb.1,bE hb.2 hs⟩,kL hb.1⟩,(h2.keepL k1 λb hb _ e=>kL hb.1).mono λb hb=>⟨⟨kL hb.1,bE hb.2 hs⟩,kL hb.1⟩⟩
end
