/- Lemmas; each is under no condition but those that it states. -/
import Derived.Test.YtdofbjccfkaijaaGreatDoorPn28
namespace Go.Proofs.YtdofbjccfkaijaaGreatDoor
set_option linter.unusedSimpArgs false
set_option linter.unusedVariables false
set_option maxRecDepth 100000
set_option maxHeartbeats 16000000
open Go Go.RowKit
section
attribute [local go_sem] Oper.semAt_some
instance decBa (h:vB) (R:vM):Decidable (h∈R):=decidable_of_iff (R.any (fun x=>decide (h=x))=true) (by simp)
structure SetV(es:List EntK)(ck:Nat)(R:vM):Prop where
 same:es.map (fun x=>(x.1,x.2.1))=R.map fun h=>(h.data.toList,Value.int .i64 1)
 born:(es.map (·.2.2)).Nodup
 lt:∀ x∈es,x.2.2 < ck
def SetM(w:vW)(mb:Nat)(R:vM):Prop:=∃ es ck,Blk w mb (.map (Tryz.ES.arr es) ck)/\SetV es ck R
theorem jod:∀ {es:List EntK} {R:vM},es.map (fun x=>(x.1,x.2.1))=R.map (fun h=>(h.data.toList,Value.int .i64 1))->∀ h:vB,jaZ es h.data.toList=if h∈R then some (Value.int .i64 1)else none
 | [],[],_,h=>by simp[jaZ]
 | x :: es,[],e,h=>by cases e
 | [],y :: R,e,h=>by cases e
 | x :: es,y :: R,e,h=>by
  rw[bV,bV]at e;injection e with e1 e2;have o:=jod e2 h;have z:x.1=y.data.toList:=congrArg Prod.fst e1;have A:x.2.1=Value.int .i64 1:=congrArg Prod.snd e1;unfold jaZ at o ⊢;rw[fX]
  by_cases hy:h=y
  ·subst hy
   rw[if_pos bH,decide_eq_true z.symm];show some x.2.1=_;rw[A]
  ·rw[decide_eq_false (fun e=>hy (jbC (e.trans z)))]
   simp only;rw[o]
   by_cases hm:h∈R
   ·rw[if_pos hm,if_pos (bE _ hm)]
   ·rw[if_neg hm,if_neg (fun e=>(bM.1 e).elim hy hm)]
theorem jt1:∀ {es:List EntK} {R:vM},es.map (fun x=>(x.1,x.2.1))=R.map (fun h=>(h.data.toList,Value.int .i64 1))->∀ {h:vB},h ∉ R->∀ (v:vV) (n:Nat),jbs es h.data.toList v n=es++[(h.data.toList,v,n)]
 | [],[],_,h,_,v,n=>rfl
 | x :: es,[],e,h,_,v,n=>by cases e
 | [],y :: R,e,h,_,v,n=>by cases e
 | x :: es,y :: R,e,h,hn,v,n=>by
  rw[bV,bV]at e;injection e with e1 e2;have o:x.1=y.data.toList:=congrArg Prod.fst e1;have z:¬ h=y:=fun e=>hn (by rw[e];exact bH);rw[jbs,if_neg (fun e=>z (jbC (e.trans o))),jt1 e2 (fun A=>hn (bE _ A)) v n,cZ]
theorem SetV.add{es:List EntK}{ck:Nat}{R:vM}(h:SetV es ck R){k:vB}(hk:k ∉ R):SetV (jbs es k.data.toList (.int .i64 1) ck) (ck+1) (R++[k]):=by
 rw[jt1 h.same hk]
 refine⟨by rw[cB,cB,h.same];rfl,?_,fun x o=>?_⟩
 ·rw[cB,fD]
  refine⟨h.born,by simp,fun a z b hb e=>?_⟩
  obtain⟨x,o,rfl⟩:=bJ.1 z
  have:=h.lt x o
  simp at hb;omega
 ·rcases bT.1 o with o | o
  ·have:=h.lt x o;omega
  ·rw[bZ.1 o];exact Nat.lt_succ_self _
theorem SetV.len{es:List EntK}{ck:Nat}{R:vM}(h:SetV es ck R):es.length=R.length:=by
 have:=congrArg List.length h.same
 simpa using this
def OutM(w:vW)(ov:vV)(out:vM):Prop:=(ov=.map none/\out=[])\/∃ mb,ov=.map (some mb)/\SetM w mb out
theorem SetM.keeps{F:BSet}{w w':vW}{mb:Nat}{R:vM}(h:SetM w mb R)(k:jaf F w w')(hF:¬ F mb):SetM w' mb R:=by
 obtain⟨e,o,z,A⟩:=h
 exact⟨e,o,z.keeps k hF,A⟩
theorem SetM.look{w:vW}{mb:Nat}{R:vM}(h:SetM w mb R)(x:vB):(Instr.lookup 61 (.map (some mb)) (.string x) false).run Tryz.prog w=.ok (.int .i64 (if x∈R then 1 else 0)) w:=by
 obtain⟨z,A,e,o⟩:=h
 have:=jcw Tryz.ES Tryz.uMapSI e (Tryz.zeroI w) x.data.toList false
 rw[jod o.same x]at this
 by_cases hx:x∈R
 ·rw[if_pos hx]at this ⊢;exact this
 ·rw[if_neg hx]at this ⊢;exact this
theorem jqL(w:vW)(x:vB):(Instr.lookup 61 (.map none) (.string x) false).run Tryz.prog w=.ok (.int .i64 0) w:=vY
theorem OutM.look{w:vW}{ov:vV}{out:vM}(h:OutM w ov out)(x:vB):(Instr.lookup 61 ov (.string x) false).run Tryz.prog w=.ok (.int .i64 (if x∈out then 1 else 0)) w:=by
 rcases h with⟨rfl,rfl⟩ |⟨mb,rfl,h⟩
 ·rw[if_neg (cN)];exact jqL w x
 ·exact h.look x
theorem SetM.put{w:vW}{mb:Nat}{R:vM}(h:SetM w mb R){x:vB}(hx:x ∉ R):∃ w',(Instr.mapUpdate 61 (.map (some mb)) (.string x) (.int .i64 1)).run Tryz.prog w=.ok () w'/\SetM w' mb (R++[x])/\jaf (fun z=>z=mb) w w':=by
 obtain⟨A,E,e,o⟩:=h
 have:=jb2 Tryz.ES Tryz.uMapSI e x.data.toList (.int .i64 1)
 rw[jod o.same x,if_neg hx]at this
 exact⟨_,this,⟨_,_,e.put_same _,o.add hx⟩,jaf.onePut _ _ _⟩
def jiO(w:vW)(mb:Nat):Nat:=match w.heap[mb]? with | some (.map a _)=>a.size | _=>0
theorem SetM.len{w:vW}{mb:Nat}{R:vM}(h:SetM w mb R):jiO w mb=R.length:=by
 obtain⟨e,A,o,z⟩:=h
 unfold jiO;rw[show w.heap[mb]?=_ from o];show (Tryz.ES.arr e).size=_;unfold ja9.arr;rw[dL,cC,z.len]
theorem jqA{n:jad}(h:n.refs.length=16):(jaM n).length<=16:=by
 unfold jaM
 have:=iR jcM n.refs
 omega
theorem jom{ops:Array Oper}{rest:List Oper}{d:Option Tmp}{ty:TypeId}{pos:String}{af:Array Edge}{a:Act}{w1 w0 w:vW}{Q:Exit->Act->vW->Prop}{s x:Operand}{v pv:vV}{n m N:Nat}{xs ys:vM}
  (hR:SRow w0 w v n xs) (hP:SRow w1 w pv m ys) (hN:n+m=N) (hs:a.eval s=v) (hx:a.eval x=pv) (h63:N<=100000000)
  (h:∀ e w',SRow w0 w' e N (xs++ys)->jaf (fun b=>v.ownBlock=some b) w w'->(e.ownBlock=v.ownBlock\/∀ b,e.ownBlock=some b->w.heap.size<=b)->wpList Tryz.prog ops Q rest (a.put d e) w') :
  wpList Tryz.prog ops Q (⟨d,.call { callee:=.builtin .append,args:=#[s,x],argTypes:=#[28,28] },ty,pos,af,none⟩ :: rest) a w:=by
 subst hN
 obtain⟨A,⟨rfl,E⟩ |⟨g,H,J,rfl,E,h4,h5,h6,h7⟩⟩:=hP.own
 ·subst E
  have o:ys=[]:=bD (by simpa using A);subst o
  obtain⟨ad,c,rfl⟩:=hR.sl
  have z:n<=c:=jla hR;refine jgn Tryz.sStrs hs hx z (h _ _ ?_ (jaf.refl _ _) (.inl rfl));rw[bW];exact hR
 ·exact jaK Tryz.sStrs hR s x rfl hs hx (fun j u K=>hP.own.cells (g:=g) rfl j u K) (fun u O=>by obtain⟨y,_,rfl⟩:=bJ.1 O;rfl) A rfl (by unfold maxLen;omega) vO (fun e w' X Z r3=>h e w' (by unfold SRow;rw[cB];exact X) Z r3)
structure RcR(S:vT)(out Rall:vM)(W:World)(mb:Nat)(tv:Value)(wr:World)(L hs:vM):Prop where
 set:SetM wr mb L
 tod:SRow W wr tv hs.length hs.reverse
 ap:tv.ownBlock≠some mb
 rx:jb4 S out L hs Rall
 le:hs.length<=1+16 * L.length
 ll:L.length<=S.length
 mbn:W.heap.size<=mb
def jzn(S:vT)(out Rall:vM)(W:vW)(mb:Nat)(tv:vV)(wr:vW):Prop:=∃ L hs,RcR S out Rall W mb tv wr L hs
theorem jtC{S:vT}{out L R:vM}(h:jb4 S out L [] R):L=R:=by cases h;rfl
theorem jj4{S:vT}{out L hs R:vM}{h:vB}(k:jb4 S out L (h :: hs) R)(hh:h∈L\/h∈out):jb4 S out L hs R:=by
 cases k with
 | seen _ _ _ _ _ k=>exact k
 | no _ _ _ _ h1 h2=>exact (hh.elim h1 h2).elim
 | go _ _ _ _ _ _ h1 h2=>exact (hh.elim h1 h2).elim
theorem jv5{S:vT}{out L hs R:vM}{h:vB}(k:jb4 S out L (h :: hs) R)(h1:h ∉ L)(h2:h ∉ out) :
  h.size=32/\((atL S h.data.toList=none/\jb4 S out L hs R)\/∃ y n,L.length+1<=S.length/\atL S h.data.toList=some y/\jbr y.2.2.text n/\jb4 S out (L++[h]) ((jaM n).reverse++hs) R):=by
 cases k with
 | seen _ _ _ _ h3 _=>exact (h3.elim h1 h2).elim
 | no _ _ _ _ _ _ h3 h4 k=>exact⟨h3,.inl ⟨h4,k⟩⟩
 | go _ _ _ y n _ _ _ h3 h4 h5 h6 k=>exact⟨h3,.inr ⟨y,n,h4,h5,h6,k⟩⟩
theorem SRow.pop{W1 wr:vW}{g c:Nat}{t:vB}{ts:vM}(h:SRow W1 wr (.slice (some ⟨g,0,none⟩) (t :: ts).length c) (t :: ts).length (t :: ts).reverse):SRow W1 wr (.slice (some ⟨g,0,none⟩) ts.length c) ts.length ts.reverse:=by
 have e:=jps (m:=ts.length) h.own (by simp);rw[jG, <-jM,gP,gJ (by simp),bN (by simp)]at e
 exact⟨⟨_,_,rfl⟩,e,h.ext,fun b hb=>h.new b hb⟩
theorem SRow.last{W1 wr:vW}{g c:Nat}{t:vB}{ts:vM}(h:SRow W1 wr (.slice (some ⟨g,0,none⟩) (t :: ts).length c) (t :: ts).length (t :: ts).reverse):wr.cell? ⟨g,ts.length,none⟩=some (.string t):=by
 rw[h.own.cellAt ts.length (by simp),cA,gP,cV (by simp)];simp
theorem RcR.pop{S:vT}{out Rall:vM}{W:vW}{mb g c n:Nat}{wr wr':vW}{L hs:vM}{h:vB}(k:RcR S out Rall W mb (.slice (some ⟨g,0,none⟩) (h :: hs).length c) wr L (h :: hs))(hn:n=hs.length)(hx:jb4 S out L hs Rall)(e:Ext wr wr'):jzn S out Rall W mb (.slice (some ⟨g,0,none⟩) n c) wr':=by
 subst hn
 refine⟨L,hs,k.set.keeps e (fun h=>h),ORow.mono k.tod.pop e,fun e=>k.ap e,hx,?_,k.ll,k.mbn⟩
 have:=k.le
 simp only[bF]at this;omega
def RchP(W:vW)(R:vM)(e:Ending)(w':vW):Prop:=∃ mb,e=.returned (.map (some mb))/\SetM w' mb R/\Ext W w'
theorem joL(W:vW)(s bm:Nat)(room:Int)(S:vT)(hs:jaS W s bm room S)(hsl:S.length<=100000)(r:vB)(ov:vV)(out:vM)(ho:OutM W ov out){R:vM}(hR:jb4 S out [] [r] R) :
  vQ 44 #[.pointer (some ⟨s,0,none⟩),.string r,ov] W (RchP W R):=by
 have HS:=Hd hs;have HO:=Hd ho;have HR:=Hd hR;have e5:=Tryz.makeMapSI;clear hs ho hR;go_enter Tryz.func44,Tryz.ntmps44;go_wp2_with fail
 go_step3;go_wp2_with fail
 obtain⟨w2,Z⟩:=vE ((W.alloc (.map #[] 0)).alloc (.cells #[.string r] 9))
 have b0:=Blk.new W (.map #[] 0)
 obtain⟨w1,b6⟩:=vE (W.alloc (.map #[] 0))
 rw[<-b6]at Z b0 ⊢;have hz:w1.heap.size=W.heap.size+1:=by rw[b6,bR]
 have b8:Ext W w1:=by rw[b6];exact (ExtR W).alloc _
 have b9:Ext w1 w2:=by rw[Z];exact (ExtR w1).alloc _
 have c0:SRow W w2 (.slice (some ⟨w1.heap.size,0,none⟩) 1 1) 1 [r]:=by rw[Z];exact ORow.lit #[.string r] b8 vI rfl
 rw[hz]at c0;have d3:SetM w2 W.heap.size []:=⟨[],0,b0.keeps b9 (fun h=>h),rfl,gZ,fun x hx=>(cN hx).elim⟩;rw[<-Z];have H2:=Hd (bB c0 (bB d3 (b8.trans b9)));clear Z b6 b0 b8 b9 c0 d3 e5 hz w1
 obtain⟨O,c2⟩:=vE W.heap.size
 have e6:=Hd c2;rw[<-c2]at H2 ⊢;clear c2;go_step3;go_wp2_with fail
 go_loopw [8] (fun tv wr=>jzn S out R W O tv wr) (fun tv wr=>(S.length - jiO wr O) * 18+lenV tv)
 case atStart=>exact⟨[],[r],H2.o.2.1,H2.o.1,(by intro e;have e:some (O+1)=some O:=e;have:=bS e;omega),HR.o,bL _,cE _,by rw[e6.o];exact bL _⟩
 case round =>
  obtain⟨X,e7⟩:=vE wr
  subst e7
  obtain⟨L,hs,hK⟩:=hrel
  obtain⟨ta,c,rfl⟩:=hK.tod.sl
  have A:=Hd hK;clear hK;cases hs with
  | nil =>
   have d4:=jtC A.o.rx;have HF:=Hd (show SetM X O R/\Ext W X by rw[<-d4];exact⟨A.o.set,A.o.tod.ext⟩);clear d4;rw[show ([]:vM).length=0 from rfl];go_wp2_with fail
   go_ret
   exact⟨_,rfl,HF.o.1,HF.o.2⟩
  | cons h hs =>
   obtain⟨g,rfl⟩:=jgX A.o.tod (by simp)
   obtain⟨n,hn⟩:=vE hs.length
   have HN:=Hd hn;have hl:(h :: hs).length=n+1:=by rw[hn];rfl
   have f6:=A.o.ll;have f7:n<=2000000:=by have:=A.o.le;rw[hl]at this;omega
   have q1:=SRow.last A.o.tod;rw[<-hn]at q1;have c1:(0:Int) < (n:Int)+1:=vO
   have c3:(n:Int)<=(c:Int):=by have:=jla A.o.tod;rw[hl]at this;omega
   rw[hl];have K:=A.o.set.look h;have E:=(show OutM X ov out by
    rcases HO.o with h |⟨mo,h1,h2⟩
    ·exact .inl h
    ·obtain⟨es,ck,hB,hV⟩:=h2
     exact .inr ⟨mo,h1,es,ck,hB.keeps A.o.tod.ext (fun h=>h),hV⟩).look h
   clear hn hl
   by_cases hL:h∈L
   ·rw[if_pos hL]at K
    have HX:=Hd (jj4 A.o.rx (.inl hL));clear hL E;go_wp2_with fail
    go_roundw
    case rel=>exact RcR.pop A.o HN.o HX.o (ExtR X)
    case measure=>simp[lenV]
   ·rw[if_neg hL]at K
    by_cases hO:h∈out
    ·rw[if_pos hO]at E
     have HX:=Hd (jj4 A.o.rx (.inr hO));clear hL hO;go_wp2_with fail
     go_roundw
     case rel=>exact RcR.pop A.o HN.o HX.o (ExtR X)
     case measure=>simp[lenV]
    ·rw[if_neg hO]at E
     obtain⟨d5,e8⟩:=jv5 A.o.rx hL hO
     have d6:=Hd hL;clear hL hO;go_wp2_with fail
     refine vH (jea X h vO) fun W4 c4=>?_;have d7:=Hd (HS.o.ext (A.o.tod.ext.trans c4));have d8:=Hd d5;clear K E d5 q1;rcases e8 with⟨hy,hx⟩ |⟨y,nd,hl1,hy,hn,hx⟩
     ·have c5:=Hd hx
      have c6:Hid (jg4 S (jan h) none):=.inr ⟨h,d8.o,rfl,.inl ⟨hy,rfl⟩⟩;clear hx hy;go_wp2_with fail
      refine vH (jlS W4 s bm room S d7.o c6.o) fun W8 hE=>?_;have b7:=Hd (c4.o.trans hE);unfold jad.V;go_wp2_with (refine jaj Tryz.allocNode rfl rfl ?_;intro W9 a4 a5;refine jai (vs:=jaG.cells) rfl rfl rfl rfl a4 rfl Tryz.szNode jaG.one ?_;intro a6 Q H)
      have J:=Hd (b7.o.trans (a5.trans' H (fun z hz e=>by have e:z=W8.heap.size:=e;omega)));clear a4 a5 Q H;refine (jkI a6).mono ?_;rintro e e9 ⟨rfl,rfl⟩;go_wp2_with fail
      go_roundw
      case rel=>exact RcR.pop A.o HN.o c5.o J.o
      case measure =>
       have e1:=A.o.set.len;have e2:=(A.o.set.keeps J.o (fun h=>h)).len;show (S.length - jiO a6 O) * 18+n < (S.length - jiO X O) * 18+(n+1);omega
     ·obtain⟨dg,hg⟩:=hn.2
      have a7:=hg.one (inlP dg);have c7:=a7.refs;have d9:=Hd c7;have a8:=Hd (nd.cells_len c7);have HG:=Hd hg;have c5:=Hd hx;have e0:=Hd hl1;have c6:=Hd (show jg4 S (jan h) (some nd)from .inr ⟨h,d8.o,rfl,.inr ⟨y,nd,hy,hn,rfl⟩⟩);clear hx hy hn a7 c7 hg hl1;go_wp2_with fail
      refine vH (joH W4 s bm room S d7.o c6.o) fun W8 hE=>?_;have b7:=Hd (c4.o.trans hE);unfold jad.V;go_wp2_with (refine jaj Tryz.allocNode rfl rfl ?_;intro W9 a4 a5;refine jai (vs:=nd.cells) rfl rfl rfl rfl a4 (by rw[a8.o];rfl) (by rw[a8.o];exact Tryz.szNode) nd.one ?_;intro a6 Q H)
      have a9:Ext W8 a6:=a5.trans' H (fun z hz e=>by have e:z=W8.heap.size:=e;omega);have J:=Hd (b7.o.trans a9);have b1:=Hd Q;clear a4 a5 Q H a9
      obtain⟨nb,e3⟩:=vE W8.heap.size
      have b2:=Hd (show X.heap.size<=nb by have:=b7.o.size;omega);rw[<-e3]at b1 ⊢;clear e3;refine (jhp a6).mono ?_;rintro e e9 ⟨rfl,rfl⟩;have a2:=A.o.set.keeps J.o (fun h=>h);have a0:=a2.look h;rw[if_neg d6.o]at a0
      obtain⟨c8,c9,a1,a3⟩:=a2.put d6.o
      have f5:O < X.heap.size:=by obtain⟨es,ck,hB,_⟩:=A.o.set;exact hB.lt
      have b3:=Hd a1;have b4:=Hd (b1.o.keeps a3 (fun e=>by have e:nb=O:=e;have:=b2.o;omega));have e4:SRow W X (.slice (some ⟨g,0,none⟩) n c) n hs.reverse:=by have:=SRow.pop A.o.tod;rw[<-HN.o]at this;exact this
      have f8:W.heap.size<=O:=A.o.mbn;have d0:=Hd ((ORow.mono e4 J.o).keeps a3 (fun b hb e=>A.o.ap (by rw[show (Value.slice (some ⟨g,0,none⟩) (h :: hs).length c).ownBlock=some b from hb];exact congrArg some e)) (fun b hb e=>by have e:b=O:=e;omega));clear a2 a1 a3 e4;go_wp2_with (refine jae 94 (.tmp 10) rfl rfl _ _ rfl (jao c8 nb nd d9.o b4.o) ?_)
      refine (jkF dg nd HG.o c8).mono ?_;rintro e f9 ⟨hv,rfl,hH,_⟩;have g0:=jqA d9.o
      obtain⟨q,hq⟩:=vE (n+(jaM nd).length)
      have HQ:=Hd hq;have HH:=Hd hH;have d1:=Hd (ORow.mono d0.o hH.ext);have d2:=Hd (b3.o.keeps hH.ext (fun h=>h));have f0:q<=100000000:=vO
      clear hH hq c9 a0;go_wp2_with (refine jom d1.o HH.o HQ.o.symm rfl rfl f0 ?_;intro g1 f1 r1 r2 r3;have f2:=Hd r1;have f3:=Hd r2;have f4:=Hd r3;obtain⟨g2,g3,rfl⟩:=r1.sl;clear r1 r2 r3)
      have b5:=Hd (d2.o.keeps f3.o (fun e=>A.o.ap e));go_roundw
      case rel =>
       have h1:=A.o.le;have h2:=HN.o;simp only[bF]at h1
       refine⟨L++[h],(jaM nd).reverse++hs,b5.o,?_,?_,c5.o,?_,by rw[bC];exact e0.o,A.o.mbn⟩
       ·rw[List.reverse_append,List.reverse_reverse,bC,fI,gL, <-HN.o, <-HQ.o];exact f2.o
       ·intro e
        rcases f4.o with r3 | r3
        ·exact A.o.ap (r3 ▸ e)
        ·have:=r3 O e
         have h5:=HH.o.ext.size;have h6:c8.heap.size ≥ X.heap.size:=by obtain⟨es,ck,hB,_⟩:=b3.o;have:=b4.o.lt;have:=b2.o;omega
         omega
       ·rw[bC,bC,fI];simp;omega
      case measure =>
       have e1:=A.o.set.len;have e2:=b5.o.len;rw[bC]at e2;have h3:=e0.o;have h4:=HQ.o;show (S.length - jiO f1 O) * 18+q < (S.length - jiO X O) * 18+(n+1);simp at e2;omega
end
section
attribute [local go_sem] Oper.semAt_some
theorem jt3(w:vW)(s bm:Nat)(room:Int)(L:vT)(h:jaS w s bm room L)(hl:L.length<=1000000):vQ 9 #[.pointer (some ⟨s,0,none⟩)] w fun e w'=>∃ v,e=.returned v/\SRow w w' v L.length (baL (jdD (L.map (·.1)))):=by
 have q1:=h.st.cell (i:=1) (v:=.map (some bm)) vF
 obtain⟨es,ck,hm,a5⟩:=h.mp.mp
 have c5:=jgk Tryz.ES Tryz.uMapIt hm;have a6:es.length=L.length:=a5.lenL;rw[a6]at c5
 obtain⟨i0,hi,b4,b5,b6⟩:=info_parts Tryz.infoS1
 obtain⟨w1,a0,a1,a7⟩:=run_make_own (P:=Tryz.prog) (w:=w) w.heap.size 28 9 i0 _ 1 Tryz.sStrs.ht hi b4 b5 .i64 .i64 L.length (by rw[b6];omega) (by unfold maxLen;omega) (bL _)
 have k1:Ext w w1:=jaf.of_grown a7 (fun _ e=>by cases e);have b7:=ORow.made w a1 a7;have d0:=jaa q1 k1;have H:=hm.keeps k1 (fun g=>g);have d1:=jjb Tryz.ES Tryz.uMapIt H;have HM:=Hd a5;have K1:=Hd k1;have b8:=Hd b7;have b9:=Hd hm;clear h a1 a7 hm a5 hi b4 b5 b6 k1 b7 H;unfold vQ;go_in;go_wp2_with fail
 obtain⟨r,hr⟩:=vE w1.heap.size
 have HR:=Hd hr;rw[<-hr];clear hr;go_loopw [3] (fun v wr=>jy9 w r bm ck es v wr) (fun v _=>L.length - slN v)
 case atStart =>
  have hz:=K1.o.size
  refine⟨[],⟨b8.o.mono ((ExtR w1).alloc _),?_,fun x hx=>(by cases hx),gZ,fun b hb e=>?_⟩⟩
  ·rw[HR.o];exact Blk.new w1 _
  ·have:=b8.o.lt b hb
   rw[HR.o]at e;omega
 case round =>
  obtain⟨z,E⟩:=hrel
  obtain⟨ad,cp,rfl⟩:=E.row.sl
  have X:=(b9.o).keeps E.row.ext (fun g=>g);have b0:z.length<=es.length:=E.len;rcases jle Tryz.ES X E.it HM.o.lt 0 with⟨hl0,hnx⟩ |⟨x,hxl,w2,hnx,hr2,hk2⟩
  ·have hp:=E.done hl0 HM.o.born
   have a2:z.length=L.length:=by rw[hp.length_eq,a6]
   have c0:jdD (z.map (·.1))=jdD (L.map (·.1)):=by
    rw[jhC (hp.map _),HM.o.keysL]
   have c6:=Hd c0;have J:=Hd (show ORow 9 1 w wr (.slice ad z.length cp) z.length ((z.map (·.1)).map encStr)from E.row);have a8:=Hd a2;clear E X hp c0 a2 hl0 a0;go_wp2_with fail
   refine vC (jt5 J.o (by rw[a8.o];exact hl)) fun w3 Z=>?_;rw[c6.o]at Z;rw[a8.o]at Z ⊢;have c7:=Hd Z;clear Z J a8;go_wp2_with fail
   go_ret
   refine⟨_,rfl,?_⟩
   unfold SRow;rw[jnp];exact c7.o
  ·have d2:w.heap.size<=r:=by rw[HR.o];exact K1.o.size
   have d3:=b9.o.lt;have c1:=X.keeps hk2 (fun e=>by have e:bm=r:=e;omega);have a9:x∈es:=(cM.1 hxl).1;have c2:x.2.2 ∉ z.map (·.2.2):=by have:=(cM.1 hxl).2;simpa [jgu]using this
   have c3:=jja Tryz.ES c1 a9 hr2 HM.o.born;have K:((z++[x]).map (·.2.2)).Nodup:=by
    rw[cB,fD]
    exact⟨E.nd,by simp,fun a ha b hb e=>by simp at hb;subst hb;subst e;exact c2 ha⟩
   have O:∀ y∈z++[x],y∈es:=fun y hy=>by
    rcases bT.1 hy with hy | hy
    ·exact E.sub y hy
    ·simp at hy;exact hy ▸ a9
   have b1:z.length+1<=L.length:=by
    have:=gI (jfI _ K) (fun y hy=>O y hy)
    rw[a6]at this;simpa using this
   have A:ORow 9 1 w w2 (.slice ad z.length cp) z.length (keyS z):=E.row.keeps hk2 (fun b hb e=>E.ne b hb e) (fun b hb e=>by have e:b=r:=e;omega);have a3:Blk w2 r (.mapIter (some bm) ck (jgu (z++[x])) ck):=by
    have e:jgu (z++[x])=(jgu z).push x.2.2:=by unfold jgu;simp
    rw[e];exact hr2
   have Q:=Hd (bB K (bB O E.ne));have J:=Hd A;have c8:=Hd a3;have H:z.length+1<=maxLen:=by unfold maxLen;omega
   have c4:(z.length+1) * 16<=140737488355328:=vO
   have d4:=hr2.lt
   obtain⟨kx,a4⟩:=vE x.1
   have c9:=Hd a4;have b2:(Instr.entry (.pointer (some ⟨r,0,none⟩))).run Tryz.prog w2=.ok (.tuple #[encStr kx,x.2.1]) w2:=by rw[a4];exact c3
   have b3:(Instr.next (.pointer (some ⟨r,0,none⟩)) false 0).run Tryz.prog wr=.ok (.tuple #[.bool true,encStr kx,x.2.1]) w2:=by rw[a4];exact hnx
   obtain⟨n,hn⟩:=vE z.length
   have HN:=Hd hn;rw[<-hn]at H c4 b1 A J Q ⊢;clear E X c1 hxl hr2 hk2 a9 c2 c3 K O A a3 a0 hnx a4 b0 hn;unfold encStr at b2 b3;go_wp2_with (at_builtin;refine jaK Tryz.sStrs (J.o.mono ((ExtR w2).alloc _)) (.tmp 20) (.tmp 22) rfl rfl rfl (jaI (Blk.new w2 _)) (news:=[encStr kx]) (by intro u hu;simp at hu;rcases hu with rfl;rfl) rfl rfl H c4 ?_;intro v' w' r1 r2 r3)
   have HX:=Hd (bB r1 (bB r2 r3))
   obtain⟨d5,d6,rfl⟩:=r1.sl
   clear r1 r2 r3;go_wp2_with fail
   go_roundw
   case rel =>
    obtain⟨r1,r2,r3⟩:=HX.o
    have d7:=((ExtR w2).alloc (.cells #[.string ⟨kx.toArray⟩] 9)).size
    refine⟨z++[x],?_,?_,Q.o.2.1,Q.o.1,?_⟩
    ·have e:keyS (z++[x])=keyS z++[encStr kx]:=by unfold keyS;simp[c9.o]
     rw[e,bC, <-HN.o];exact r1
    ·refine (c8.o.alloc _).keeps r2 (fun e=>Q.o.2.2 r e rfl)
    ·intro b hb e
     rcases r3 with r3 | r3
     ·exact Q.o.2.2 b (r3 ▸ hb) e
     ·have:=r3 b hb;omega
   case measure=>simp[slN];omega
theorem SetV.keysL{es:List EntK}{ck:Nat}{R:vM}(h:SetV es ck R):es.map (·.1)=R.map fun h=>h.data.toList:=by
 have:=congrArg (List.map Prod.fst) h.same
 rw[dJ,dJ]at this;exact this
def jrg(W:vW)(B:vM)(e:Ending)(w':vW):Prop:=∃ v,e=.returned (.tuple #[v,.int .i64 0])/\SRow W w' v B.length (baL (jdD (B.map fun h=>h.data.toList)))
theorem jsl(W:vW)(s bm:Nat)(room:Int)(S:vT)(hs:jaS W s bm room S)(hsl:S.length<=100000)(a b:vB)(h:(jdC S a && jdC S b)=true){A B:vM}(hA:jb4 S [] [] [a] A)(hB:jb4 S A [] [b] B)(hbl:B.length<=100000) :
  vQ 19 #[.pointer (some ⟨s,0,none⟩),.string a,.string b] W (jrg W B):=by
 have hk:([a,b].all (jdC S))=true:=by simpa using h
 have HC:=Hd (fun(v:vV) (W1:vW) (e:Ext W W1) (hv:RdS W1 v [a,b])=>jiJ W1 s bm room S (hs.ext e) v [a,b] hv (show (2:Nat)<=1000 by decide));rw[hk]at HC;have HA:=Hd (fun(W1:vW) (e:Ext W W1)=>joL W1 s bm room S (hs.ext e) hsl a (.map none) [] (.inl ⟨rfl,rfl⟩) hA);have HB:=Hd (fun(W1:vW) (e:Ext W W1) (m:Nat) (hm:SetM W1 m A)=>joL W1 s bm room S (hs.ext e) hsl b (.map (some m)) A (.inr ⟨m,rfl,hm⟩) hB);clear hs h hk hA hB;go_enter Tryz.func19,Tryz.ntmps19;go_wp2_with fail
 refine vH (HC.o _ _ ((ExtR W).alloc _) (jcm W [a,b] _)) fun W2 hE=>?_;have HE:=Hd (((ExtR W).alloc (.cells ([a,b].map Value.string).toArray 9)).trans hE);go_wp2_with fail
 refine (jhp W2).mono ?_;rintro e W3 ⟨rfl,rfl⟩;go_wp2_with fail
 refine (HA.o W2 HE.o).mono ?_;rintro e W4 ⟨ma,rfl,a9,b0⟩;have b1:=Hd a9;have b2:=Hd (HE.o.trans b0);clear a9 b0;go_wp2_with fail
 refine (HB.o W4 b2.o ma b1.o).mono ?_;rintro e w1 ⟨mb,rfl,c3,b3⟩;have b4:=Hd (b2.o.trans b3)
 obtain⟨es,ck,hm,hv⟩:=c3
 have c8:=jjb Tryz.ES Tryz.uMapSI hm;have b5:es.length=B.length:=hv.len;have HM:=Hd hv;have b6:=Hd hm;clear b3 hm hv HA HB HC b1;go_wp2_with fail
 obtain⟨r,hr⟩:=vE w1.heap.size
 have HR:=Hd hr;rw[<-hr];clear hr;go_loopw [8] (fun v wr=>jy9 w1 r mb ck es v wr) (fun v _=>B.length - slN v)
 case atStart =>
  refine⟨[],⟨ORow.nil _ _ ((ExtR w1).alloc _),?_,fun x hx=>(by cases hx),gZ,fun b hb e=>(by cases hb)⟩⟩
  rw[HR.o];exact Blk.new w1 _
 case round =>
  obtain⟨z,H⟩:=hrel
  obtain⟨ad,cp,rfl⟩:=H.row.sl
  have X:=(b6.o).keeps H.row.ext (fun g=>g);have a5:z.length<=es.length:=H.len;rcases jle Tryz.ES X H.it HM.o.lt 0 with⟨hl0,hnx⟩ |⟨x,hxl,w2,hnx,hr2,hk2⟩
  ·have hp:=H.done hl0 HM.o.born
   have a0:z.length=B.length:=by rw[hp.length_eq,b5]
   have b7:jdD (z.map (·.1))=jdD (B.map fun h=>h.data.toList):=by
    rw[jhC (hp.map _),HM.o.keysL]
   have c4:=Hd b7;have J:=Hd (show ORow 9 1 w1 wr (.slice ad z.length cp) z.length ((z.map (·.1)).map encStr)from H.row);have a3:=Hd a0;clear H X hp b7 a0 hl0;go_wp2_with fail
   refine vC (jt5 J.o (by rw[a3.o];omega)) fun w3 Z=>?_;rw[c4.o]at Z;rw[a3.o]at Z ⊢;have c5:=Hd Z;clear Z J a3;go_wp2_with fail
   go_ret2
   refine⟨_,rfl,?_⟩
   unfold SRow;rw[jnp];have h3:=c5.o
   exact⟨h3.sl,h3.own,b4.o.trans h3.ext,fun b hb=>bK b4.o.size (h3.new b hb)⟩
  ·have c9:w1.heap.size<=r:=by rw[HR.o];exact bL _
   have d0:=b6.o.lt;have b8:=X.keeps hk2 (fun e=>by have e:mb=r:=e;omega);have a4:x∈es:=(cM.1 hxl).1;have b9:x.2.2 ∉ z.map (·.2.2):=by have:=(cM.1 hxl).2;simpa [jgu]using this
   have c0:=jja Tryz.ES b8 a4 hr2 HM.o.born;have K:((z++[x]).map (·.2.2)).Nodup:=by
    rw[cB,fD]
    exact⟨H.nd,by simp,fun a ha b hb e=>by simp at hb;subst hb;subst e;exact b9 ha⟩
   have O:∀ y∈z++[x],y∈es:=fun y hy=>by
    rcases bT.1 hy with hy | hy
    ·exact H.sub y hy
    ·simp at hy;exact hy ▸ a4
   have a6:z.length+1<=B.length:=by
    have:=gI (jfI _ K) (fun y hy=>O y hy)
    rw[b5]at this;simpa using this
   have E:ORow 9 1 w1 w2 (.slice ad z.length cp) z.length (keyS z):=H.row.keeps hk2 (fun b hb e=>H.ne b hb e) (fun b hb e=>by have e:b=r:=e;omega);have a1:Blk w2 r (.mapIter (some mb) ck (jgu (z++[x])) ck):=by
    have e:jgu (z++[x])=(jgu z).push x.2.2:=by unfold jgu;simp
    rw[e];exact hr2
   have Q:=Hd (bB K (bB O H.ne));have J:=Hd E;have c6:=Hd a1;have c1:z.length+1<=maxLen:=by unfold maxLen;omega
   have c2:(z.length+1) * 16<=140737488355328:=vO
   have d1:=hr2.lt
   obtain⟨kx,a2⟩:=vE x.1
   have c7:=Hd a2;have a7:(Instr.entry (.pointer (some ⟨r,0,none⟩))).run Tryz.prog w2=.ok (.tuple #[encStr kx,x.2.1]) w2:=by rw[a2];exact c0
   have a8:(Instr.next (.pointer (some ⟨r,0,none⟩)) false 0).run Tryz.prog wr=.ok (.tuple #[.bool true,encStr kx,x.2.1]) w2:=by rw[a2];exact hnx
   obtain⟨n,hn⟩:=vE z.length
   have HN:=Hd hn;rw[<-hn]at c1 c2 a6 E J Q ⊢;clear H X b8 hxl hr2 hk2 a4 b9 c0 K O E a1 hnx a2 a5 hn;unfold encStr at a7 a8;go_wp2_with (at_builtin;refine jaK Tryz.sStrs (J.o.mono ((ExtR w2).alloc _)) (.tmp 28) (.tmp 30) rfl rfl rfl (jaI (Blk.new w2 _)) (news:=[encStr kx]) (by intro u hu;simp at hu;rcases hu with rfl;rfl) rfl rfl c1 c2 ?_;intro v' w' r1 r2 r3)
   have HX:=Hd (bB r1 (bB r2 r3))
   obtain⟨d2,d3,rfl⟩:=r1.sl
   clear r1 r2 r3;go_wp2_with fail
   go_roundw
   case rel =>
    obtain⟨r1,r2,r3⟩:=HX.o
    have d4:=((ExtR w2).alloc (.cells #[.string ⟨kx.toArray⟩] 9)).size
    refine⟨z++[x],?_,?_,Q.o.2.1,Q.o.1,?_⟩
    ·have e:keyS (z++[x])=keyS z++[encStr kx]:=by unfold keyS;simp[c7.o]
     rw[e,bC, <-HN.o];exact r1
    ·refine (c6.o.alloc _).keeps r2 (fun e=>Q.o.2.2 r e rfl)
    ·intro b hb e
     rcases r3 with r3 | r3
     ·exact Q.o.2.2 b (r3 ▸ hb) e
     ·have:=r3 b hb;omega
   case measure=>simp[slN];omega
theorem jfO{S:vT}{l:vL}(h:HasM S l):jdC S (rootM l)=true:=by
 obtain⟨y,e,_⟩:=h.has _ (jbX _)
 unfold jdC rootM;rw[show (shaB (jaF l).text).data.toList=ky (jaF l).text from rfl,e];rfl
theorem jn6{S:vT}{out R:vM}{r:vB}(h:jb4 S out [] [r] R):R.length<=S.length:=
 jhG.len ⟨ji2 h gZ,fun x e=>by
  rcases jmJ h (fun _=>True) (fun _ _ _ _ _ _ _ _=>trivial) (fun _ _=>trivial) x e with h | h
  ·exact (cN h).elim
  ·exact h.2.2⟩
def jzl(a b:vL)(B:vM):Prop:=B.Nodup/\∀ k,k∈B↔(∃ t∈jax (jaF b),k=shaB t)/\¬ ∃ t∈jax (jaF a),k=shaB t
theorem jsk(W:vW)(s bm:Nat)(room:Int)(S:vT)(hs:jaS W s bm room S)(hN:AllN S)(hsl:S.length<=100000){a b:vL}(ha:HasM S a)(hb:HasM S b){U:vM}(hU:InjL U)(h1:∀ x∈jax (jaF a),x∈U)(h2:∀ x∈jax (jaF b),x∈U) :
  ∃ B,jzl a b B/\vQ 19 #[.pointer (some ⟨s,0,none⟩),.string (rootM a),.string (rootM b)] W (jrg W B):=by
 have z:jhG S []:=⟨gZ,fun x J=>(cN J).elim⟩;have e:∀ l,∀ h∈[rootM l],h.size=32:=fun l h K=>by rw[bZ.1 K];exact jbk _
 obtain⟨A,E⟩:=jpB hN [] S.length [] [rootM a] z (by simp) (e a)
 obtain⟨B,o⟩:=jpB hN A S.length [] [rootM b] z (by simp) (e b)
 have H:∀ k,k∈A↔∃ t∈jax (jaF a),k=shaB t:=fun k=>by
  have:=jmK W ha E (fun t _ h=>(cN h).elim) k
  rw[this]
  exact⟨fun h=>h.1,fun h=>⟨h,cN⟩⟩
 have O:∀ k,k∈B↔(∃ t∈jax (jaF b),k=shaB t)/\¬ ∃ t∈jax (jaF a),k=shaB t:=fun k=>by
  have:=jmK W hb o (jvS W ha.ok hU h1 h2 H) k
  rw[this,H]
 refine⟨B,⟨ji2 o gZ,O⟩,jsl W s bm room S hs hsl _ _ (by rw[jfO ha,jfO hb];rfl) E o ?_⟩
 have:=jn6 o
 omega
noncomputable def makesN(l:vL)(cs:List Chg)(b:vB):Int:=if jaW l cs=0 then (if rootM (ja6 l cs)=b then 0 else 9)else jaW l cs
theorem jiN(W:vW)(hc:jbY W)(he:ErrT W)(s bm:Nat)(room:Int)(S:vT)(hs:jaS W s bm room S)(hN:AllN S){l:vL}(hl:HasM S l)(u:vV)(cs:List Chg)(hu:RdC W u cs)(hnc:cs.length<=9223372036854775807)(hsc:∀ c∈cs,c.key.size<=9223372036854775807/\c.value.size<=9223372036854775807)(b:vB) :
  vR 14 #[.pointer (some ⟨s,0,none⟩),.string (rootM l),u,.string b] W (.int .i64 (makesN l cs b)):=by
 obtain⟨a,ha⟩:=vE (rootM l)
 have hk:([a].all (jdC S))=true:=by rw[ha];simpa using jfO hl
 have HC:=Hd (fun(v:vV) (W1:vW) (e:Ext W W1) (hv:RdS W1 v [a])=>jiJ W1 s bm room S (hs.ext e) v [a] hv (show (1:Nat)<=1000 by decide));rw[hk]at HC;have HU:=Hd (fun(W1:vW) (e:Ext W W1)=>jAO W1 (hc.ext e) (he.ext e) s bm room S (hs.ext e) hN l hl u cs (hu.ext e) hnc hsc);rw[<-ha]at HU ⊢;have a0:=Hd hc;clear hs hk hu hc he ha;go_enter Tryz.func14,Tryz.ntmps14;go_wp2_with fail
 refine vH (HC.o _ _ ((ExtR W).alloc _) (jcm W [a] _)) fun W2 hE=>?_;have HE:=Hd (((ExtR W).alloc (.cells ([a].map Value.string).toArray 9)).trans hE);go_wp2_with fail
 refine (jhp W2).mono ?_;rintro e W3 ⟨rfl,rfl⟩;go_wp2_with fail
 refine (HU.o W2 HE.o).mono ?_;intro e W4 O;unfold UpdP at O
 by_cases h0:jaW l cs=0
 ·rw[if_pos h0]at O
  obtain⟨r,rfl,A⟩:=O
  obtain⟨E,H⟩:=vE (newM S (ja6 l cs))
  rw[<-H]at A;have J:∃ ts,E=(jaF (ja6 l cs)).text :: ts:=⟨_,H⟩;clear H
  obtain⟨ts,rfl⟩:=J
  obtain⟨t,ht⟩:=vE (jaF (ja6 l cs)).text
  rw[<-ht]at A
  obtain⟨ra,rc,rfl⟩:=A.sl
  obtain⟨g,rfl⟩:=jgX A (by simp)
  have q1:=jev A.own (j:=0) (u:=.string t) vF
  obtain⟨n,hn⟩:=vE ts.length
  rw[show (t :: ts).length=n+1 by rw[hn];rfl];have z:=Hd (HE.o.trans A.ext);have Q:makesN l cs b=if shaB t=b then 0 else 9:=by unfold makesN rootM;rw[if_pos h0,ht]
  have K:=Hd Q;clear A Q hn ht h0;have c1:¬(n:Int)+1=0:=vO
  have c2:((n:Int)+1 == 0)=false:=by simpa using c1
  go_wp2_with fail
  refine vH (of_t _ _ [t] (by simp) (jcm W4 [t] 9) ((a0.o.ext z.o).ext ((ExtR W4).alloc _))) fun W5 a1=>?_;rw[jdx];have X:=Hd (z.o.trans (((ExtR W4).alloc (.cells ([t].map Value.string).toArray 9)).trans a1))
  by_cases hb:shaB t=b
  ·have hq:((shaB t).toList == b.toList)=true:=by rw[jd6];exact decide_eq_true hb
   rw[if_pos hb]at K;clear hb;go_wp2_with fail
   go_ret
   exact⟨by rw[K.o];rfl,X.o⟩
  ·have hq:((shaB t).toList == b.toList)=false:=by rw[jd6];exact decide_eq_false hb
   rw[if_neg hb]at K;clear hb;go_wp2_with fail
   go_ret
   exact⟨by rw[K.o];rfl,X.o⟩
 ·rw[if_neg h0]at O
  obtain⟨rfl,Z⟩:=O
  have z:=Hd (HE.o.trans Z);have Q:makesN l cs b=jaW l cs:=by unfold makesN;rw[if_neg h0]
  have K:=Hd Q
  obtain⟨x,hx⟩:=vE (jaW l cs)
  rw[<-hx]at K h0 ⊢;clear Q Z hx;have c1:(x != 0)=true:=by simpa using h0
  go_wp2_with fail
  go_ret
  exact⟨by rw[K.o];rfl,z.o⟩
def jrl(W:vW)(l:vL)(cs:List Chg)(e:Ending)(w':vW):Prop:=
 if jaW l cs=0 then OfP W (ja6 l cs) l e w' else e=.returned (.tuple #[.slice none 0 0,.int .i64 (jaW l cs)])/\Ext W w'
theorem jpX(W:vW)(s bm:Nat)(room:Int)(S:vT)(hs:jaS W s bm room S)(hN:AllN S){l:vL}(hl:HasM S l)(u:vV)(cs:List Chg)(hu:RdC W u cs)(hnc:cs.length<=9223372036854775807)(hsc:∀ c∈cs,c.key.size<=9223372036854775807/\c.value.size<=9223372036854775807) :
  vQ 10 #[.pointer (some ⟨s,0,none⟩),.string (rootM l),u] W (jrl W l cs):=by
 obtain⟨a,ha⟩:=vE (rootM l)
 have hk:([a].all (jdC S))=true:=by rw[ha];simpa using jfO hl
 have A:=jaA hl.ok;have z:l.length<=9223372036854775807/\∀ p∈l,p.1.size<=9223372036854775807/\p.2.size<=9223372036854775807:=⟨by have:=A.len;omega,fun p hp=>by have:=A.size p hp;omega⟩;have HC:=Hd (fun(v:vV) (W1:vW) (e:Ext W W1) (hv:RdS W1 v [a])=>jiJ W1 s bm room S (hs.ext e) v [a] hv (show (1:Nat)<=1000 by decide));rw[hk]at HC;have J:=Hd (fun(W1:vW) (e:Ext W W1)=>jAL W1 s bm room S (hs.ext e) hN l hl);rw[<-ha]at J ⊢;have O:=Hd (fun(W1:vW) (v:vV) (hv:RdP W1 v l) (e:Ext W W1)=>jnn W1 v u l cs hv (hu.ext e) z.1 hnc z.2 hsc);have Q:=Hd (bB hl.ok z);clear hs hk hu ha A z;go_enter Tryz.func10,Tryz.ntmps10;go_wp2_with fail
 refine vH (HC.o _ _ ((ExtR W).alloc _) (jcm W [a] _)) fun W2 hE=>?_;have HE:=Hd (((ExtR W).alloc (.cells ([a].map Value.string).toArray 9)).trans hE);go_wp2_with fail
 refine (jhp W2).mono ?_;rintro e W3 ⟨rfl,rfl⟩;go_wp2_with fail
 refine (J.o W2 HE.o).mono ?_;rintro e W4 ⟨v,rfl,hV⟩;have HV:=Hd hV;have K:=Hd (HE.o.trans hV.ext);clear hV;go_wp2_with fail
 refine (O.o W4 v HV.o.rd K.o).mono ?_;intro e W5 X;unfold jej at X
 by_cases h0:jaW l cs=0
 ·rw[if_pos h0]at X
  have H0:=Hd h0
  obtain⟨r,rfl,hR⟩:=X
  have HR:=Hd (show ERow W4 W5 r (ja6 l cs).length (ja6 l cs)from hR);have E:=Hd (K.o.trans hR.ext);have Z:jaw (ja6 l cs)=0:=jbZ h0;have A:=jaA Z;have z:(ja6 l cs).length<=9223372036854775807/\∀ p∈ja6 l cs,p.1.size<=9223372036854775807/\p.2.size<=9223372036854775807:=⟨by have:=A.len;omega,fun p hp=>by have:=A.size p hp;omega⟩;have a1:=Hd (jsb W5 r v (ja6 l cs) l HR.o.rd (HV.o.rd.ext hR.ext) z.1 Q.o.2.1 z.2 Q.o.2.2);clear hR h0 Z A z;go_wp2_with fail
  refine a1.o.mono ?_;rintro e W8 ⟨u2,rfl,hC⟩;have H:=Hd hC;clear hC;go_wp2_with fail
  go_ret2;unfold jrl;rw[if_pos H0.o]
  exact⟨_,rfl,H.o.sl,H.o.own,E.o.trans H.o.ext,fun b hb=>bK E.o.size (H.o.new b hb)⟩
 ·rw[if_neg h0]at X
  have H0:=Hd h0
  obtain⟨rfl,a0⟩:=X
  have E:=Hd (K.o.trans a0)
  obtain⟨x,hx⟩:=vE (jaW l cs)
  have HX:=Hd hx;rw[<-hx]at h0 ⊢;clear a0 hx;have c1:(x != 0)=true:=by simpa using h0
  go_wp2_with fail
  go_ret2;unfold jrl;rw[if_neg H0.o, <-HX.o]
  exact⟨rfl,E.o⟩
def jxi(W:vW)(b c:Nat):Prop:=∃ rv,W.cell? ⟨b,1,none⟩=some rv/\rv.ownBlock=some c
def RK(w W:vW):Prop:=w.heap.size<=W.heap.size/\∀ b,b < w.heap.size->∀ c,jxi W b c->jxi w b c
theorem jlK{W W':vW}{b i:Nat}(h:W'.heap[b]?=W.heap[b]?):W'.cell? ⟨b,i,none⟩=W.cell? ⟨b,i,none⟩:=by unfold World.cell?;rw[h]
theorem RK.refl(w:vW):RK w w:=⟨bL _,fun _ _ _ h=>h⟩
theorem RK.trans{a b c:vW}(h:RK a b)(k:RK b c):RK a c:=⟨bK h.1 k.1,fun x e y r=>h.2 x e y (k.2 x (bQ e h.1) y r)⟩
theorem RK.keeps{F:BSet}{w W W':vW}(h:RK w W)(k:jaf F W W')(hF:∀ b,F b->w.heap.size<=b):RK w W':=⟨bK h.1 k.size,fun b hb c r=>by
 obtain⟨o,e,z⟩:=r
 rw[jlK (k.block b (bQ hb h.1) (fun f=>by have:=hF b f;omega))]at e;exact h.2 b hb c ⟨o,e,z⟩⟩
theorem RK.ext{w W W':vW}(h:RK w W)(e:Ext W W'):RK w W':=h.keeps e (fun _ f=>f.elim)
theorem RK.put{w W W':vW}{bm:Nat}{es:Array MapEntry}{ck:Nat}(h:RK w W)(k:jaf (fun z=>z=bm) W W')(hm:Blk W' bm (.map es ck)):RK w W':=⟨bK h.1 k.size,fun b hb c r=>by
 obtain⟨A,o,E⟩:=r
 by_cases e:b=bm
 ·subst e
  unfold World.cell? at o;rw[show W'.heap[b]?=_ from hm]at o;cases o
 ·rw[jlK (k.block b (bQ hb h.1) e)]at o
  exact h.2 b hb c ⟨A,o,E⟩⟩
theorem RK.set{w W:vW}(h:RK w W)(zb:Nat){f:Nat}(hf:f=2\/f=3)(v:vV):RK w (W.setCell ⟨zb,f,none⟩ v):=⟨by rw[gK];exact h.1,fun b hb c r=>by
 obtain⟨z,o,A⟩:=r
 rw[World.cell?_setCell_other _ _ _ _ (fun e=>by have:=congrArg Addr.off e;rcases hf with rfl | rfl <;> cases this)]at o;exact h.2 b hb c ⟨z,o,A⟩⟩
def jnd(w W:vW)(G:vT):Prop:=∀ x∈G,∀ c,jxi W x.2.1 c->w.heap.size<=c
theorem jnd.rk{w W W':vW}{G:vT}(h:jnd w W G)(hk:RK W W')(hl:∀ x∈G,x.2.1 < W.heap.size):jnd w W' G:=fun x e c r=>h x e c (hk.2 _ (hl x e) c r)
def jzp(w:vW)(bg:Nat)(L:vM)(iv:vV)(W:vW):Prop:=∃ i:Nat,i<=L.length/\iv=.int .i64 i/\(∀ t∈L.take i,∃ n,jbr t n)/\∃ G,ReS w bg G (L.take i) W/\jnd w W G
def AnyQ(Q:Prop)(L:vM):Prop:=∀ t∈L,(∃ n,jbr t n)\/(GetE t/\Q)
theorem jg7{L:vM}(h:∀ t∈L,∃ n,jbr t n):AnyQ False L:=fun t e=>.inl (h t e)
def RdA(Q:Prop)(w:vW)(L:vM)(e:Ending)(w':vW):Prop:=(e=.returned (.tuple #[.map none,.int .i64 2])/\Ext w w'/\Q)\/((∀ t∈L,∃ n,jbr t n)/\∃ bg G,e=.returned (.tuple #[.map (some bg),.int .i64 0])/\ReS w bg G L w'/\jnd w w' G)
theorem jpS{L:vM}{i:Nat}{t:vB}{P:vB->Prop}(h:∀ x∈L.take i,P x)(ht:L[i]?=some t)(hp:P t):∀ x∈L.take (i+1),P x:=fun x e=>by
 rw[bY,ht]at e;rcases bT.1 e with e | e
 ·exact h x e
 ·have e:x∈[t]:=e
  rw[bZ.1 e];exact hp
theorem jt6(w:vW)(hc:jbY w)(hGE:ErrT w)(v:vV)(L:vM)(hv:RdS w v L)(hl:L.length<=1000)(h0:L≠[])(Q:Prop)(hN:AnyQ Q L) :
  vQ 56 #[v] w (RdA Q w L):=by
 have f8:0 < L.length:=gB.2 h0
 obtain⟨a,c,rfl,_⟩:=hv.slice
 have f0:=Hd hv;have HC:=Hd hc;have HN:=Hd hN;have f1:=Hd hGE;have f2:=Tryz.makeMapIt w;clear hv hc hN h0 hGE;have f9:((L.length:Int) == 0)=false:=by simpa using (by omega:L.length≠0)
 go_enter Tryz.func56,Tryz.ntmps56;go_wp2_with fail
 obtain⟨bg,b9⟩:=vE w.heap.size
 have d7:=Hd b9;rw[<-b9];clear b9 f2;go_loopw [16] (fun iv wr=>jzp w bg L iv wr) (fun iv _=>L.length - (intOf iv).toNat)
 case atStart =>
  refine⟨0,cE _,rfl,fun t ht=>(by cases ht),[],⟨(ExtR w).alloc _,⟨⟨[],0,?_,MapV.nil 0⟩,by simp,fun x z=>by cases z⟩,rfl,by rw[d7.o];exact bL _,fun x z=>by cases z⟩,fun x z=>by cases z⟩
  rw[d7.o];exact Blk.new w _
 case round =>
  obtain⟨i,hi,rfl,a7,G,hS,d8⟩:=hrel
  have c0:=Hd d8;clear d8;have a9:=Hd a7;have H:=Hd hS;clear hS a7
  by_cases hlt:i < L.length
  ·have b1:(i:Int) < (L.length:Int):=vO
   obtain⟨t,ht⟩:∃ t,L[i]?=some t:=⟨_,bA hlt⟩
   obtain⟨ax,cx,hh,K⟩:=f0.o.slice
   obtain⟨ba,oa,f3,c1⟩:=K i t ht
   subst f3;cases hh;have q1:=jaa c1 H.o.ext;rcases HN.o t (bI ht)with hnode |⟨hbad,hq⟩
   case inr =>
    have d2:=Hd hbad;have HQ:=Hd hq
    obtain⟨n,hn⟩:=vE jaG
    have a4:=Hd (show n.refs.length=16 by rw[hn];rfl);have hg:=d2.o wr (f1.o.ext H.o.ext);unfold jy8 at hg;rw[<-hn]at hg;clear K c1 ht hbad hn hq;go_wp2_with fail
    refine hg.mono ?_;rintro e w4 ⟨rfl,hE⟩;have b5:=Hd (H.o.ext.trans hE);clear hE hg q1;unfold jad.V;go_wp2_with (refine jaj Tryz.allocNode rfl rfl ?_;intro W3 b6 b7;refine jai (vs:=n.cells) rfl rfl rfl rfl b6 (by rw[n.cells_len a4.o];rfl) (by rw[n.cells_len a4.o];exact Tryz.szNode) (jad.one _) ?_;intro W4 c2 b8;have O:Ext w4 W4:=b7.trans' b8 (fun x z e=>by have e:x=w4.heap.size:=e;omega))
    go_ret2;exact .inl ⟨rfl,b5.o.trans O,HQ.o⟩
   have a0:=Hd (jpS a9.o ht hnode)
   obtain⟨n0,d9⟩:=hnode
   have c3:=jdm d9;have e0:=Hd (jqW ht);have e1:=Hd (show itOf t=⟨t,jaM (nodeOf t),0,0⟩from rfl)
   obtain⟨n,e2⟩:=vE (nodeOf t)
   rw[<-e2]at c3 e1;have g0:=jiG c3
   obtain⟨e3,g,hg⟩:=c3
   have HG:=Hd hg;have a4:=Hd ((hg.one (inlP g)).refs);have e4:=Hd e3;clear K d9 e2 e3 hg c1 ht;go_wp2_with fail
   rw[e4.o];refine vH (jjP (inlP g) wr n HG.o) fun w4 b5=>?_;rw[<-e4.o];clear q1;unfold jad.V;go_wp2_with (refine jaj Tryz.allocNode rfl rfl ?_;intro W3 b6 b7;refine jai (vs:=n.cells) rfl rfl rfl rfl b6 (by rw[n.cells_len a4.o];rfl) (by rw[n.cells_len a4.o];exact Tryz.szNode) (jad.one _) ?_;intro W4 c2 b8;have O:Ext w4 W4:=b7.trans' b8 (fun x z e=>by have e:x=w4.heap.size:=e;omega))
   have c4:=Hd (b5.o.trans O);have e5:=Hd c2;clear b6 b7 c2 b8 O b5;refine vH (of_t _ _ [t] (by simp) (jcm W4 [t] 9) (HC.o.ext ((H.o.ext.trans c4.o).alloc _))) fun w6 hE=>?_;rw[jdx];have c5:=((ExtR W4).alloc (.cells #[.string t] 9)).trans hE;have c6:=Hd (c4.o.trans c5);have f4:=Hd (e5.o.keeps c5 (fun h=>h));have A:=Hd (H.o.keeps c6.o);have E:=A.o.at'.look (shaB t) false;have c7:=Hd (jxn (L:=G) (k:=ky t));have a5:Hid ((shaB t).data.toList=ky t):=rfl;have c9:=Hd (show addG (G.map kvI) t=if (G.map kvI).any (fun x=>decide (ky t=x.1))then G.map kvI else G.map kvI++[(ky t,itOf t)]from rfl);rw[a5.o]at E;simp only[cI,if_false]at E
   obtain⟨sh,e6⟩:=vE (shaB t)
   rw[<-e6]at E a5 ⊢
   obtain⟨kt,e7⟩:=vE (ky t)
   rw[<-e7]at E a5 c7 c9;clear c5 c4 e5 e6 e7;cases ha:atL G kt with
   | some x =>
    rw[ha]at E;unfold ptrO at E;simp only at E;have hz:addG (G.map kvI) t=G.map kvI:=by rw[c9.o,c7.o,ha];rfl
    have HZ:=Hd hz;clear ha hz;go_wp2_with fail
    go_roundw
    case rel =>
     exact⟨i+1,by omega,by go_num,a0.o,G,⟨A.o.ext,A.o.at',by rw[e0.o, <-A.o.is,HZ.o],A.o.new,A.o.news⟩,c0.o.rk ((RK.refl _).ext c6.o) (fun x z=>(H.o.at'.items x z).lt)⟩
    case measure=>exact vJ
   | none =>
    rw[ha]at E;unfold ptrO at E;simp only at E;have hz:addG (G.map kvI) t=G.map kvI++[(kt,itOf t)]:=by rw[c9.o,c7.o,ha];rfl
    have HZ:=Hd hz;have HA:=Hd ha;have a3:=jao w6 _ n a4.o f4.o;unfold jad.V at a3;clear ha hz;go_wp2_with (refine jae 94 (.tmp 7) rfl rfl _ _ rfl a3 ?_)
    refine (jkF g n HG.o w6).mono ?_;rintro e J ⟨v8,rfl,a6,d3⟩;have d0:=a6.ext;have a1:=a6.new;have b0:=a6.own
    obtain⟨a8,c8,rfl⟩:=a6.sl
    have S8:=A.o.keeps d0;have e8:=S8.at'.ext ((ExtR J).alloc (.cells #[.string t,.slice a8 (jaM n).length c8,.int .i64 0,.int .i64 0] 110));have d1:=Blk.new J (.cells #[.string t,.slice a8 (jaM n).length c8,.int .i64 0,.int .i64 0] 110);have e9:jeY (J.alloc (.cells #[.string t,.slice a8 (jaM n).length c8,.int .i64 0,.int .i64 0] 110)) J.heap.size (itOf t):=by
     rw[e1.o]
     exact⟨_,d1,jbo b0 ((ExtR J).alloc _)⟩
    obtain⟨ob,g1,X⟩:=e8.put sh (by rw[a5.o];exact HA.o) e9 (fun x z e=>by have:=(S8.at'.items x z).lt;omega)
    rw[a5.o]at X;have b2:Ext w ((J.alloc (.cells #[.string t,.slice a8 (jaM n).length c8,.int .i64 0,.int .i64 0] 110)).putObj bg ob):=(S8.ext.alloc _).putObj (.inr S8.new) _;have d4:=S8.ext.size;have b3:RK wr J:=((RK.refl _).ext c6.o).ext d0;have Z:∃ es ck,Blk ((J.alloc (.cells #[.string t,.slice a8 (jaM n).length c8,.int .i64 0,.int .i64 0] 110)).putObj bg ob) bg (.map es ck):=by
     obtain⟨es,ck,h1,_⟩:=X.mp
     exact⟨_,ck,h1⟩
    obtain⟨g2,g3,Z⟩:=Z
    have a2:=(b3.ext ((ExtR J).alloc (.cells #[.string t,.slice a8 (jaM n).length c8,.int .i64 0,.int .i64 0] 110))).put (jaf.onePut _ bg ob) Z;have b4:=Hd (show jnd w ((J.alloc (.cells #[.string t,.slice a8 (jaM n).length c8,.int .i64 0,.int .i64 0] 110)).putObj bg ob) (G++[(kt,J.heap.size,itOf t)])from fun x z c r=>by
     rcases bT.1 z with z | z
     ·exact c0.o.rk a2 (fun x z=>(H.o.at'.items x z).lt) x z c r
     ·rw[bZ.1 z]at r
      obtain⟨rv,r1,r2⟩:=r
      have f5:J.heap.size≠bg:=fun e=>by
       obtain⟨_,_,h1,_⟩:=S8.at'.mp
       have:=h1.lt;omega
      have hq:((J.alloc (.cells #[.string t,.slice a8 (jaM n).length c8,.int .i64 0,.int .i64 0] 110)).putObj bg ob).cell? ⟨J.heap.size,1,none⟩=some (.slice a8 (jaM n).length c8):=(d1.keeps (jaf.onePut _ bg ob) f5).cell (i:=1) vF;have r1:_=some rv:=r1;rw[hq]at r1;have e:=bS r1;rw[<-e]at r2
      have:=a1 c r2
      have:=A.o.ext.size
      omega)
    have d5:=Hd b2;have d6:=Hd X;have f6:Hid (w.heap.size<=J.heap.size):=S8.ext.size;clear b3 Z a2 d4 b2 X e9 d1 e8 S8 b0 a1 d0 a6 d3 a3 E;go_wp2_with fail
    go_roundw
    case rel =>
     refine⟨i+1,by omega,by go_num,a0.o,G++[(kt,J.heap.size,itOf t)],⟨d5.o,d6.o,?_,A.o.new,?_⟩,b4.o⟩
     ·rw[e0.o, <-A.o.is,HZ.o,cB];rfl
     ·intro x z
      rcases bT.1 z with z | z
      ·exact A.o.news x z
      ·simp only[bZ]at z;subst z;exact f6.o
    case measure=>exact vJ
  ·have f7:i=L.length:=vO
   subst f7;have HS:=Hd (show ReS w bg G L wr by have:=H.o;rwa [cJ]at this);clear H;go_wp2_with fail
   go_ret2;exact .inr ⟨by have h:=a9.o;rwa [cJ]at h,bg,G,rfl,HS.o,c0.o⟩
def okM(S G:vT)(M:vM)(x:vB):Bool:=memB (jbf M) x ||(atL S x.data.toList).isSome ||(atL G x.data.toList).isSome
theorem jpi(w0:vW)(s bm:Nat)(room:Int)(S G:vT)(bg b:Nat)(h:jaS w0 s bm room S)(hG:jdr w0 bg G)(W:vW)(M:vM)(hM:Meet w0 s S bg b M W)(x:vB)(hl:M.length<=1000000) :
  vQ 91 #[.string x,.pointer (some ⟨b+4,0,none⟩),.pointer (some ⟨b,0,none⟩),.pointer (some ⟨b+2,0,none⟩),.pointer (some ⟨b+1,0,none⟩)] W fun e w'=>e=.returned (.bool (okM S G M x))/\Meet w0 s S bg b (M++[x]) w':=by
 have HM:=Hd hM;have HS:=Hd h
 obtain⟨es,ck,h5,h6⟩:=hM.tab
 obtain⟨v,n,h1,h2,h3,h4⟩:=hM.var
 obtain⟨ad,cp,rfl⟩:=jaU h2
 obtain⟨cn,a7⟩:=vE (cntB M x)
 have f1:cn<=1000000:=by
  rw[a7];unfold cntB;refine bK jI ?_;rw[cC];exact hl
 have e6:=h6 x;rw[<-a7]at e6;have d1:(Instr.lookup 61 (.map (some (b+3))) (.string x) false).run Tryz.prog W=.ok (.int .i64 (cn:Int)) W:=by
  have:=jcw Tryz.ES Tryz.uMapSI h5 (Tryz.zeroI W) x.data.toList false
  rw[e6]at this;unfold cntV at this
  by_cases h0:cn=0
  ·rw[if_pos h0]at this;rw[h0];exact this
  ·rw[if_neg h0]at this;exact this
 obtain⟨a8,a0⟩:=vE (jbs es x.data.toList (.int .i64 ((cn:Int)+1)) ck)
 obtain⟨b4,b0⟩:=vE (if (jaZ es x.data.toList).isSome then ck else ck+1)
 obtain⟨E,b5⟩:=vE (W.putObj (b+3) (.map (Tryz.ES.arr a8) b4))
 have d2:(Instr.mapUpdate 61 (.map (some (b+3))) (.string x) (.int .i64 ((cn:Int)+1))).run Tryz.prog W=.ok () E:=by
  have:=jb2 Tryz.ES Tryz.uMapSI h5 x.data.toList (.int .i64 ((cn:Int)+1))
  rw[<-a0, <-b0, <-b5]at this;exact this
 have B2:Blk E (b+3) (.map (Tryz.ES.arr a8) b4):=by rw[b5];exact h5.put_same _
 have e7:∀ y:vB,jaZ a8 y.data.toList=cntV (cntB (M++[x]) y):=fun y=>by
  rw[a0,jcZ,h6 y,jrV]
  by_cases hxy:y.data.toList=x.data.toList
  ·have e2:y=x:=ByteArray.ext (Array.ext' hxy)
   subst e2;rw[if_pos rfl,if_pos rfl, <-a7];unfold cntV;rw[if_neg vO];simp
  ·rw[if_neg hxy,if_neg (fun e=>hxy e.symm)];rfl
 have b1:(Instr.lookup 61 (.map (some (b+3))) (.string x) false).run Tryz.prog E=.ok (.int .i64 ((cn:Int)+1)) E:=by
  have:=jcw Tryz.ES Tryz.uMapSI B2 (Tryz.zeroI E) x.data.toList false
  rw[a0,jcZ,if_pos rfl]at this;exact this
 have K2:jaf (fun z=>z=b+3) W E:=by rw[b5];exact jaf.onePut _ _ _
 have q9:W.cell? ⟨b+4,0,none⟩=some (.map (some (b+3))):=hM.c9.cell (i:=0) vF;have E2:Ext w0 E:=hM.ext.trans' K2 (fun y hy e=>by have e:y=_:=e;have:=hM.lo;omega);have C9:=hM.c9.keeps K2 vO;have f2:E.cell? ⟨b+4,0,none⟩=some (.map (some (b+3))):=C9.cell (i:=0) vF;have C3:=hM.c3.keeps K2 vO;have f3:E.cell? ⟨b,0,none⟩=some (.pointer (some ⟨s,0,none⟩)):=C3.cell (i:=0) vF;have C5:=hM.c5.keeps K2 vO;have V2:=h1.keeps K2 vO;have O2:=jbc h2 K2 (fun z O e=>by have:=h4 z O;have e:z=_:=e;omega);have f4:E.cell? ⟨b+2,0,none⟩=some (.slice ad n cp):=V2.cell (i:=0) vF;have e8:E.frozen? ⟨b+2,0,none⟩=false:=V2.frozen;have qs:=(h.st.keeps E2 (fun g=>g)).cell (i:=1) (v:=.map (some bm)) vF;have H:=(h.mp.ext E2).look x false;simp only[cI,if_false]at H;have a3:=Hd (show memB (jbf M) x=true↔cn≠0 from by
  rw[jfH,jaX,a7];unfold cntB;rw[<-Nat.pos_iff_ne_zero,gX,bJ]
  exact⟨fun hm=>⟨x,hm,rfl⟩,fun ⟨y,hy,e⟩=>by rw[<-show y=x from ByteArray.ext (Array.ext' e)];exact hy⟩)
 have b8:=Hd (joU S M x);have b2:=Hd (show ∃ es ck,Blk E (b+3) (.map (Tryz.ES.arr es) ck)/\∀ y:vB,jaZ es y.data.toList=cntV (cntB (M++[x]) y)from⟨a8,b4,B2,e7⟩);have d3:Hid (∀ W3:vW,Ext w0 W3->jdr W3 bg G):=fun _ e=>hG.ext e
 obtain⟨ok,A⟩:=vE (okM S G M x)
 rw[<-A];have a4:=Hd A;clear A;have f5:=Hd K2;have d4:=Hd C3;have d5:=Hd C5;have b6:=Hd C9;have b7:=Hd V2;have d6:=Hd O2;have d7:=Hd E2;have H4:=Hd h4;have H3:=Hd h3;have a5:=Hd hM.lo;have b3:Hid (frK S (M++[x])=frK S M->Meet w0 s S bg b (M++[x]) E):=(fun e=>⟨E2,hM.lo,C3,C5,C9,⟨a8,b4,B2,e7⟩,_,n,V2,by rw[e];exact O2,by rw[bC];omega,h4⟩);clear hM h h1 h2 h4 h5 h6 a7 e6 a0 b0 b5 B2 e7 K2 C3 C5 C9 V2 O2 E2 hG
 by_cases hc0:cn=0
 ·subst hc0
  have d8:memB (jbf M) x=false:=by
   cases hm:memB (jbf M) x with
   | false=>rfl
   | true=>exact absurd rfl (a3.o.1 hm)
  have b9:=Hd d8;have e9:(Instr.lookup 61 (.map (some (b+3))) (.string x) false).run Tryz.prog W=.ok (.int .i64 0) W:=d1;have f0:(Instr.mapUpdate 61 (.map (some (b+3))) (.string x) (.int .i64 1)).run Tryz.prog W=.ok () E:=d2;have e1:(Instr.lookup 61 (.map (some (b+3))) (.string x) false).run Tryz.prog E=.ok (.int .i64 1) E:=b1;clear d8 d1 d2 b1;cases hs:atL S x.data.toList with
  | some y =>
   rw[hs]at H;unfold ptrO at H;simp only at H;have a6:=Hd (show frK S (M++[x])=frK S M by rw[b8.o,b9.o,hs];rfl);have A:ok=true:=by rw[a4.o];unfold okM;rw[hs];simp
   subst A;clear hs a4;go_enter Tryz.func91,Tryz.ntmps91;go_wp2_with fail
   go_ret
   exact⟨rfl,b3.o a6.o⟩
  | none =>
   rw[hs]at H;unfold ptrO at H;simp only at H;have a6:=Hd (show frK S (M++[x])=frK S M++[x] by rw[b8.o,b9.o,hs];rfl);have A:ok=(atL G x.data.toList).isSome:=by rw[a4.o];unfold okM;rw[hs,b9.o];simp
   have a1:=Hd A;clear hs a4 A;have d9:n+1<=maxLen:=by have:=H3.o;unfold maxLen;omega
   have e0:(n+1) * 16<=140737488355328:=by have:=H3.o;omega
   cases hyg:atL G x.data.toList with
   | some yg =>
    have c0:=Hd hyg;have A:ok=true:=by rw[a1.o,hyg];rfl
    subst A;clear hyg a1;go_enter Tryz.func91,Tryz.ntmps91
    obtain⟨i0,hi,c1,c2,c4⟩:=info_parts Tryz.infoStr
    go_wp2_with (at_builtin;refine jcy _ rfl (.tmp 24) (.tmp 26) 28 rfl 9 i0 _ 1 16 Tryz.uStrs hi c1 c2 c4 rfl vI (.slice ad n cp) n _ rfl (jbo d6.o ((ExtR E).alloc _)) ⟨E.heap.size,0,none⟩ 1 1 [.string x] rfl rfl (jaI (Blk.new E _)) (by simp[Value.oneCell']) d9 e0 ?_;intro v' Q r1 r2 K;obtain⟨X,Z,rfl⟩:=jaU r1;have K6:jaf (fun z=>(Value.slice ad n cp).ownBlock=some z) E Q:=((jaf.refl _ E).alloc _).trans r2;have nO:∀ z,z < b+5->¬(Value.slice ad n cp).ownBlock=some z:=(fun z O e=>by have:=H4.o z e;omega);have a2:=b7.o.keeps K6 (nO _ vO);have e3:Q.cell? ⟨b+2,0,none⟩=some (.slice ad n cp):=a2.cell (i:=0) vF;have e4:Q.frozen? ⟨b+2,0,none⟩=false:=a2.frozen;have K7:jaf (fun z=>z=b+2) Q (Q.setCell ⟨b+2,0,none⟩ (.slice X (n+1) Z)):=jaf.oneSet Q ⟨b+2,0,none⟩ _;have a9:=(d5.o.keeps K6 (nO _ vO)).keeps K7 vO;have e5:=a9.cell (i:=0) (v:=.map (some bg)) vF;have E7:Ext w0 (Q.setCell ⟨b+2,0,none⟩ (.slice X (n+1) Z)):=(d7.o.trans' K6 (fun y hy e=>by have:=H4.o y e;have:=a5.o;omega)).trans' K7 (fun y hy e=>by have e:y=_:=e;have:=a5.o;omega);have J:=(d3.o _ E7).look x false;rw[c0.o]at J;unfold ptrO at J;simp only[cI,if_false]at J)
    go_ret
    refine⟨rfl,E7,a5.o,(d4.o.keeps K6 (nO _ vO)).keeps K7 vO,a9,(b6.o.keeps K6 (nO _ vO)).keeps K7 vO,?_,.slice X (n+1) Z,n+1,a2.set_same (i:=0) _,?_,?_,?_⟩
    ·obtain⟨c6,c7,c8,d0⟩:=b2.o
     exact⟨c6,c7,(c8.keeps K6 (nO _ vO)).keeps K7 vO,d0⟩
    ·rw[a6.o,cB]
     refine jbc r1 K7 (fun z O e=>?_);have e:z=b+2:=e;rcases K with K | K
     ·have:=H4.o z (K ▸ O);omega
     ·have h9:=K z O;rw[bR]at h9;have:=b7.o.lt;omega
    ·have:=H3.o;rw[bC];exact Nat.succ_le_succ this
    ·intro z O
     rcases K with K | K
     ·exact H4.o z (K ▸ O)
     ·have h9:=K z O;rw[bR]at h9;have:=b6.o.lt;omega
   | none =>
    have c0:=Hd hyg;have A:ok=false:=by rw[a1.o,hyg];rfl
    subst A;clear hyg a1;go_enter Tryz.func91,Tryz.ntmps91
    obtain⟨i0,hi,c1,c2,c4⟩:=info_parts Tryz.infoStr
    go_wp2_with (at_builtin;refine jcy _ rfl (.tmp 24) (.tmp 26) 28 rfl 9 i0 _ 1 16 Tryz.uStrs hi c1 c2 c4 rfl vI (.slice ad n cp) n _ rfl (jbo d6.o ((ExtR E).alloc _)) ⟨E.heap.size,0,none⟩ 1 1 [.string x] rfl rfl (jaI (Blk.new E _)) (by simp[Value.oneCell']) d9 e0 ?_;intro v' Q r1 r2 K;obtain⟨X,Z,rfl⟩:=jaU r1;have K6:jaf (fun z=>(Value.slice ad n cp).ownBlock=some z) E Q:=((jaf.refl _ E).alloc _).trans r2;have nO:∀ z,z < b+5->¬(Value.slice ad n cp).ownBlock=some z:=(fun z O e=>by have:=H4.o z e;omega);have a2:=b7.o.keeps K6 (nO _ vO);have e3:Q.cell? ⟨b+2,0,none⟩=some (.slice ad n cp):=a2.cell (i:=0) vF;have e4:Q.frozen? ⟨b+2,0,none⟩=false:=a2.frozen;have K7:jaf (fun z=>z=b+2) Q (Q.setCell ⟨b+2,0,none⟩ (.slice X (n+1) Z)):=jaf.oneSet Q ⟨b+2,0,none⟩ _;have a9:=(d5.o.keeps K6 (nO _ vO)).keeps K7 vO;have e5:=a9.cell (i:=0) (v:=.map (some bg)) vF;have E7:Ext w0 (Q.setCell ⟨b+2,0,none⟩ (.slice X (n+1) Z)):=(d7.o.trans' K6 (fun y hy e=>by have:=H4.o y e;have:=a5.o;omega)).trans' K7 (fun y hy e=>by have e:y=_:=e;have:=a5.o;omega);have J:=(d3.o _ E7).look x false;rw[c0.o]at J;unfold ptrO at J;simp only[cI,if_false]at J)
    go_ret
    refine⟨rfl,E7,a5.o,(d4.o.keeps K6 (nO _ vO)).keeps K7 vO,a9,(b6.o.keeps K6 (nO _ vO)).keeps K7 vO,?_,.slice X (n+1) Z,n+1,a2.set_same (i:=0) _,?_,?_,?_⟩
    ·obtain⟨c6,c7,c8,d0⟩:=b2.o
     exact⟨c6,c7,(c8.keeps K6 (nO _ vO)).keeps K7 vO,d0⟩
    ·rw[a6.o,cB]
     refine jbc r1 K7 (fun z O e=>?_);have e:z=b+2:=e;rcases K with K | K
     ·have:=H4.o z (K ▸ O);omega
     ·have h9:=K z O;rw[bR]at h9;have:=b7.o.lt;omega
    ·have:=H3.o;rw[bC];exact Nat.succ_le_succ this
    ·intro z O
     rcases K with K | K
     ·exact H4.o z (K ▸ O)
     ·have h9:=K z O;rw[bR]at h9;have:=b6.o.lt;omega
 ·have f6:¬((cn:Int)+1<=1):=vO
  have a6:=Hd (show frK S (M++[x])=frK S M by rw[b8.o,a3.o.2 hc0];rfl);have A:ok=true:=by rw[a4.o];unfold okM;rw[a3.o.2 hc0];simp
  subst A;clear a4;go_enter Tryz.func91,Tryz.ntmps91;go_wp2_with fail
  go_ret
  exact⟨rfl,b3.o a6.o⟩
structure Fair(G:vT):Prop where
 few:G.length<=1000
 refs:∀ y∈G,y.2.2.refs.length<=16
def has2(S G:vT)(x:vB):Prop:=(atL S x.data.toList).isSome=true\/(atL G x.data.toList).isSome=true
structure jfW(S G:vT)(root:vB)(M:vM)(i:Nat):Prop where
 is:M=root ::((frK S M).take i).flatMap (jcc G)
 le:i<=(frK S M).length
 inG:∀ x∈M,has2 S G x
theorem jhk{G:vT}(h:Fair G):∀ l:vM,(l.flatMap (jcc G)).length<=16 * l.length
 | []=>by simp
 | x :: r=>by
  have e:=jhk h r
  have:(jcc G x).length<=16:=by
   unfold jcc;split
   ·rename_i y hy;exact h.refs y (jbd hy).1
   ·simp
  rw[cH,bC,bF];omega
theorem jfW.len{S G:vT}{root:vB}{M:vM}{i:Nat}(h:jfW S G root M i)(hs:Fair G):M.length<=1+16 * i:=by
 have:=jhk hs ((frK S M).take i)
 rw[cQ]at this;have e:=congrArg List.length h.is;rw[bF]at e;omega
theorem jfW.at'{S G:vT}{root:vB}{M:vM}{i:Nat}(h:jfW S G root M i){x:vB}(hx:x∈frK S M):(atL G x.data.toList).isSome=true:=by
 have e:=jgb.1 hx;rcases h.inG x e.1 with h | h
 ·rw[e.2]at h;cases h
 ·exact h
theorem jhY{S G:vT}{M:vM}(h:∀ x∈frK S M,(atL G x.data.toList).isSome=true):(frK S M).length<=G.length:=by
 have A:((frK S M).map fun x=>x.data.toList).Nodup:=by
  have:=jl1 S M
  generalize frK S M=l at this;induction l with
  | nil=>simp
  | cons z r ih =>
   rw[dV]at this;rw[bV,dV]
   exact⟨fun E=>by obtain⟨y,o,e⟩:=bJ.1 E;exact this.1 (jnq e ▸ o),ih this.2⟩
 have:=gI A (l₂:=G.map (·.1)) (fun k H=>by
  obtain⟨x,J,e⟩:=bJ.1 H
  obtain⟨y,o⟩:=fG.1 (h x J)
  exact bJ.2 ⟨y,(jbd o).1,by rw[(jbd o).2,e]⟩)
 simpa using this
theorem jfW.step{S G:vT}{root:vB}{M:vM}{i:Nat}(h:jfW S G root M i){x:vB}(hx:(frK S M)[i]?=some x)(hr:∀ r∈jcc G x,has2 S G r):jfW S G root (M++jcc G x) (i+1):=by
 obtain⟨X,z⟩:=joT S M (jcc G x)
 have A:i < (frK S M).length:=(bP.1 hx).1
 refine⟨?_,?_,?_⟩
 ·have e:(frK S (M++jcc G x)).take (i+1)=(frK S M).take i++[x]:=by
   rw[z,gJ vO,bY,hx];rfl
  rw[e,dR]
  have:=h.is
  generalize frK S M=l at this;rw[this]
  simp
 ·rw[z,bC];omega
 ·intro y o
  rcases bT.1 o with o | o
  ·exact h.inG y o
  ·exact hr y o
theorem jAl{S G:vT}{M:vM}{x:vB}(h:okM S G M x=true)(hM:∀ y∈M,has2 S G y):has2 S G x:=by
 unfold okM at h;simp only[Bool.or_eq_true]at h;rcases h with (h | h) | h
 ·exact hM x ((jaX _ _).1 ((jfH _ _).1 h))
 ·exact .inl h
 ·exact .inr h
theorem jyc{S G:vT}{M:vM}{x:vB}(h:okM S G M x=false):¬ has2 S G x:=by
 unfold okM at h;simp only[gT]at h;rintro (e | e)
 ·rw[h.1.2]at e;cases e
 ·rw[h.2]at e;cases e
def jzr(w0:vW)(s:Nat)(S G:vT)(bg b:Nat)(root:vB)(wv iv:vV)(W:vW):Prop:=wv=.bool true/\∃ (i:Nat) (M:vM),iv=.int .i64 i/\jfW S G root M i/\Meet w0 s S bg b M W
def jxg(w0:vW)(s:Nat)(S G:vT)(bg b:Nat)(M R:vM)(wv jv:vV)(W:vW):Prop:=wv=.bool true/\∃ j:Nat,jv=.int .i64 j/\j<=R.length/\Meet w0 s S bg b (M++R.take j) W/\∀ r∈R.take j,has2 S G r
def RhP(w0:vW)(S G:vT)(root:vB)(e:Ending)(w':vW):Prop:=(e=.returned (.tuple #[.slice none 0 0,.int .i64 2])/\Ext w0 w'/\∃ x r,r∈jcc G x/\¬ has2 S G r)\/∃ v n M,e=.returned (.tuple #[v,.int .i64 0])/\jfW S G root M (frK S M).length/\SRow w0 w' v n (frK S M)
theorem jn7(w0:vW)(s bm:Nat)(room:Int)(S G:vT)(bg:Nat)(h:jaS w0 s bm room S)(hG:jdr w0 bg G)(hs:Fair G)(root:vB)(hr:(atL G root.data.toList).isSome=true) :
  vQ 57 #[.pointer (some ⟨s,0,none⟩),.string root,.map (some bg)] w0 (RhP w0 S G root):=by
 have HS:=Hd h;have HG:=Hd hG;have a2:=Hd hs;have HR:=Hd hr;have c4:=Tryz.makeMapSI;clear h hG hs hr;go_enter Tryz.func57,Tryz.ntmps57;go_wp2_with fail
 go_step3;go_wp2_with fail
 refine vC (jpi w0 s bm room S G bg w0.heap.size HS.o HG.o _ [] (jsT w0 s S bg) root (by simp)) fun w5 J=>?_;rw[show okM S G [] root=true by unfold okM;rw[HR.o];simp];have HM:=Hd J;clear J c4
 obtain⟨b,hb⟩:=vE w0.heap.size
 rw[show w0.heap.size+1+1+1+1=w0.heap.size+4 from rfl,show w0.heap.size+1+1+1=w0.heap.size+3 from rfl,show w0.heap.size+1+1=w0.heap.size+2 from rfl];rw[<-hb]at HM ⊢;clear hb;go_wp2_with fail
 go_step3;go_wp2_with fail
 go_loopw [11,12] (fun wv iv wr=>jzr w0 s S G bg b root wv iv wr) (fun _ iv _=>1001 - (intOf iv).toNat)
 case atStart =>
  refine⟨rfl,0,[root],rfl,⟨by simp,cE _,fun x e=>by simp at e;subst e;exact .inr HR.o⟩,HM.o⟩
 case round =>
  obtain⟨rfl,i,M,rfl,X,J⟩:=hrel
  obtain⟨v,n,E,h2,h3,h4⟩:=J.var
  obtain⟨ad,cp,rfl⟩:=jaU h2
  have hn:(frK S M).length=n:=by have:=h2.1;simpa using this
  have b0:=jhY (S:=S) (M:=M) (fun x e=>X.at' e);have d7:=a2.o.few;have q8:=E.cell (i:=0) (v:=.slice ad n cp) vF;have a0:=X.le
  by_cases hlt:i < n
  ·have b1:(i:Int) < (n:Int):=vO
   obtain⟨x,e⟩:∃ x,(frK S M)[i]?=some x:=⟨_,bA vO⟩
   obtain⟨ax,cx,hh,K⟩:=(jj0 h2).slice
   obtain⟨ba,oa,c6,b3⟩:=K i x e
   subst c6;cases hh
   obtain⟨y,O⟩:=fG.1 (X.at' (bI e))
   have hI:=HG.o.items y (jbd O).1;have a3:=jfN O;have c7:=a2.o.refs y (jbd O).1
   obtain⟨rv,b4,a4⟩:=hI.cells
   obtain⟨ar,cr,rfl⟩:=jaU a4
   obtain⟨R,hR⟩:=vE y.2.2.refs
   have Q5:=Hd (J.c5.cell (i:=0) (v:=.map (some bg)) vF);have Q8:=Hd q8;have QA:=Hd b3;have QR:=Hd ((b4.keeps J.ext (fun g=>g)).cell (i:=1) (v:=.slice ar y.2.2.refs.length cr) vF);have b5:=Hd (HG.o.ext J.ext);have HY:=Hd O;have b6:=Hd (fun hr=>X.step e hr);have c8:=Hd X.inG;have c9:=Hd (X.len a2.o);have b7:=Hd (jj0 a4);have b8:=Hd J;rw[a3, <-hR]at b6;rw[<-hR]at QR b7 c7;have d0:=Hd (show R=jcc G x by rw[hR,a3]);have a9:i<=1000:=vO
   obtain⟨yb,a5⟩:=vE y.2.1
   rw[<-a5]at QR;have d1:=Hd a5;clear a3 hR a5 a4 b4 hI O e K b3 E h2 X J hn b0 a0;go_wp2_with fail
   refine jag [0,1,2,3,4,5,6,7,8,9,10] Ext ExtR ExtT vY vY vY ?_;refine qKL ⟨b+1,0,none⟩ _ rfl (fun w1 E=>jab Tryz.underlying70 rfl (jaa Q5.o ((jah _).trans E))) ?_;refine vS ?_;refine qKL ⟨b+2,0,none⟩ _ rfl (fun w1 E=>jab Tryz.underlying28 rfl (jaa Q8.o ((jah _).trans E))) ?_;refine vS ?_;iterate 2 refine vK ?_
   refine qKL ⟨ba,oa+i,none⟩ _ rfl (fun w1 E=>jab Tryz.underlying9 rfl (jaa QA.o ((jah _).trans E))) ?_;refine vS ?_;refine jcu _ (.pointer (some ⟨yb,0,none⟩)) rfl vY rfl (fun w1 E=>by
    have e:=(b5.o.ext ((jah _).trans E)).look x false;rw[HY.o]at e;unfold ptrO at e;simp only[cI,if_false]at e;rw[<-d1.o]at e;simp[execOp,Act.eval,e,bX,Result.andThen,cO]) ?_
   refine vS ?_;refine jcu _ (.pointer (some ⟨yb,0,none⟩)) rfl vY rfl (fun w1 _=>by kernel_rfl) ?_;refine vS ?_
   refine vK ?_
   refine qKL ⟨yb,1,none⟩ _ rfl (fun w1 E=>jab Tryz.underlying28 rfl (jaa QR.o ((jah _).trans E))) ?_;refine vS ?_;iterate 2 refine vK ?_
   refine qKE (fun w3 he=>?_);have d2:=Hd (b8.o.keeps ((jah _).trans he));clear he b8 Q5 Q8 QA QR b5 HY q8;go_wp2_with fail
   go_loopw [11,36] (fun wv jv d3=>jxg w0 s S G bg b M R wv jv d3) (fun _ jv _=>R.length - (intOf jv).toNat)
   case atStart=>exact⟨rfl,0,rfl,cE _,by rw[jH,bW];exact d2.o,fun r hr=>by cases hr⟩
   case round =>
    obtain⟨rfl,j,rfl,hj,H,b9⟩:=hrel
    have Q:=Hd b9;clear b9
    by_cases hlt2:j < R.length
    ·have b2:(j:Int) < (R.length:Int):=vO
     obtain⟨z,hz⟩:∃ z,R[j]?=some z:=⟨_,bA hlt2⟩
     obtain⟨d8,d9,d4,A⟩:=b7.o.slice
     obtain⟨e0,e1,a8,a1⟩:=A j z hz
     subst a8;cases d4;have q2:=jaa a1 H.ext;have c0:=Hd hz;have HT:=Hd (show M++R.take (j+1)=M++R.take j++[z] by rw[bY,hz, <-cD];rfl);have HL:=Hd (show (M++R.take j).length<=1000000 by have:=c9.o;rw[bC,cQ];omega);have c1:=Hd H;clear A a1 H hz;go_wp2_with fail
     refine vC (jpi w0 s bm room S G bg b HS.o HG.o _ _ c1.o z HL.o) fun w9 a6=>?_;rw[<-HT.o]at a6;have Z:=Hd a6
     obtain⟨ok,a7⟩:=vE (okM S G (M++R.take j) z)
     rw[<-a7];have c2:=Hd a7;clear a6 c1 q2 a7;cases ok with
     | false =>
      go_wp2_with fail
      go_ret2;exact .inl ⟨rfl,Z.o.ext,x,z,by rw[<-d0.o];exact bI c0.o,jyc c2.o.symm⟩
     | true =>
     go_wp2_with fail
     go_roundw
     case rel =>
      refine⟨rfl,j+1,by go_num,by omega,Z.o,jpS Q.o c0.o (jAl c2.o.symm fun y O=>?_)⟩
      rcases bT.1 O with O | O
      ·exact c8.o y O
      ·exact Q.o y O
     case measure=>exact vJ
    ·have d5:j=R.length:=vO
     subst d5;rw[cJ]at H;have Z:=Hd H;clear H;go_wp2_with fail
     go_roundw
     case rel=>exact⟨rfl,i+1,M++R,by go_num,b6.o (by have h:=Q.o;rwa [cJ]at h),Z.o⟩
     case measure=>exact vJ
  ·have c3:i=(frK S M).length:=vO
   have HP:=Hd (show jfW S G root M (frK S M).length by rw[<-c3];exact X);have d6:=Hd (show SRow w0 wr (.slice ad n cp) n (frK S M)from⟨⟨_,_,rfl⟩,h2,J.ext,fun z hz=>by have:=h4 z hz;have:=J.lo;omega⟩);have b1:¬(i:Int) < (n:Int):=vO
   clear c3 X J E h2 h4 hn b0 a0;go_wp2_with fail
   go_ret2;exact .inr ⟨.slice ad n cp,n,M,rfl,HP.o,d6.o⟩
theorem jjQ{L:vM}{G:vT}(h:G.map kvI=readG L)(hL:∀ t∈L,∃ n,jbr t n)(hl:L.length<=1000):Fair G:=by
 refine⟨?_,fun y o=>?_⟩
 ·have:=(jfl L).2.2
  rw[<-h,cC]at this;exact bK this hl
 ·obtain⟨t,z,_,e⟩:=jc6 h o
  rw[e]
  obtain⟨n,A⟩:=hL t z
  exact jiG (jdm A)
theorem jjc{S G:vT}{root:vB}{M:vM}{i:Nat}(h:jfW S G root M i){r:vB}(hr:r∈M):(atL (S++jcX G (frK S M)) r.data.toList).isSome=true:=by
 rw[jzC];cases hs:atL S r.data.toList with
 | some y=>rfl
 | none =>
  obtain⟨y,e⟩:=fG.1 (h.at' (jgb.2 ⟨hr,hs⟩))
  have o:y∈jcX G (frK S M):=List.mem_filterMap.2 ⟨r,jgb.2 ⟨hr,hs⟩,e⟩;cases hp:atL (jcX G (frK S M)) r.data.toList with
  | some z=>rfl
  | none=>exact absurd (jbd e).2.symm (jkj.1 hp y o)
structure AddY(w:World)(s bm:Nat)(room:Int)(S:vT)(L:vM)(top:vB)(G:vT)(M:vM)(e:Ending)(w':World):Prop where
 given:G.map kvI=readG L
 nodes:∀ t∈L,∃ n,jbr t n
 news:∀ y∈G,w.heap.size<=y.2.1
 path:jfW S G (shaB top) M (frK S M).length
 fits:¬ room - S.length < (frK S M).length
 res:e=.returned (.tuple #[.string (shaB top),.int .i64 0])
 st:jaS w' s bm room (jkq (shaB top).data.toList (jeJ ((frK S M).flatMap (jcc G)) (S++jcX G (frK S M))))
 kp:jaf (fun z=>z=bm\/z∈S.map (·.2.1)) w w'
 rk:RK w w'
 rows:jnd w w' G
def jwF(Q:Prop)(room:Int)(S:vT)(L:vM)(k:Int):Prop:=(k=2/\Q)\/(k=2/\∃ G,G.map kvI=readG L/\∃ x r,r∈jcc G x/\¬ has2 S G r)\/(k=3/\∃ top G M,L[0]?=some top/\G.map kvI=readG L/\jfW S G (shaB top) M (frK S M).length/\room - S.length < (frK S M).length)
def jlr(Q:Prop)(w:vW)(s bm:Nat)(room:Int)(S:vT)(L:vM)(e:Ending)(w':vW):Prop:=(∃ k:Int,jwF Q room S L k/\k≠0/\e=.returned (.tuple #[.string ⟨#[]⟩,.int .i64 k])/\Ext w w')\/∃ top G M,L[0]?=some top/\AddY w s bm room S L top G M e w'
theorem jng(w:vW)(hc:jbY w)(hGE:ErrT w)(s bm:Nat)(room:Int)(S:vT)(h:jaS w s bm room S)(v:vV)(L:vM)(hv:RdS w v L)(Q:Prop)(hL:AnyQ Q L)(hll:L.length<=1000)(top:vB)(htop:L[0]?=some top)(hr0:0<=room)(hr1:room<=9223372036854775807)(hS:S.length<=100000)(hSu:∀ x∈S,0<=x.2.2.used/\x.2.2.used<=1000000000)(hSh:∀ x∈S,0<=x.2.2.held/\x.2.2.held<=1000000000) :
  vQ 30 #[.pointer (some ⟨s,0,none⟩),v] w (jlr Q w s bm room S L):=by
 have h0:L≠[]:=fun e=>by subst e;cases htop
 have k2:0 < L.length:=gB.2 h0
 obtain⟨a,c,rfl,_⟩:=hv.slice
 have HR:=Hd (jt6 w hc hGE _ L hv hll h0 Q hL);have HC:=Hd hc;have HV:=Hd hv;have HL:=Hd hL;have HS:=Hd h;have X:=Hd htop;have g8:=Hd hSu;have d3:=Hd hSh;clear hc h hv hL htop h0 hSu hSh;go_enter Tryz.func30,Tryz.ntmps30;go_wp2_with fail
 refine HR.o.mono ?_;rintro e w1 (⟨rfl,hE,hq⟩ |⟨a0,bg,G,rfl,hG,e2⟩)
 ·have HE:=Hd hE
  have HQ:=Hd hq;clear hE HR hq;go_wp2_with fail
  go_ret2;exact .inl ⟨2,.inl ⟨rfl,HQ.o⟩,by decide,rfl,HE.o⟩
 have b4:=Hd a0;have g9:=Hd e2;have h2:Hid (∀ x∈G,x.2.1 < w1.heap.size):=fun x A=>(hG.at'.items x A).lt;have h3:=Hd hG.ext;clear a0 e2
 obtain⟨ax,cx,hh,E⟩:=HV.o.slice
 obtain⟨ba,oa,a7,a8⟩:=E 0 top X.o
 subst a7;cases hh;have q1:=jaa a8 hG.ext;have HG:=Hd hG;rw[fR]at q1;clear E a8 hG HR;go_wp2_with fail
 refine vH (of_t _ _ [top] (by simp) (jcm w1 [top] 9) (HC.o.ext (HG.o.ext.alloc _))) fun w2 hE=>?_;rw[jdx];have c8:=((ExtR w1).alloc (.cells #[.string top] 9)).trans hE;have H:=Hd (HG.o.keeps c8);have h4:=Hd c8
 obtain⟨rt,b9⟩:=vE (shaB top)
 have c0:=Hd b9;have h5:=Hd (show (atL G rt.data.toList).isSome=true by rw[b9];exact jl5 HG.o.is (bI X.o));rw[<-b9];clear c8 b9 q1;go_wp2_with fail
 have c1:=Hd (jjQ H.o.is b4.o hll);have e3:=Hd (HS.o.ext H.o.ext);refine (jn7 w2 s bm room S G bg e3.o H.o.at' c1.o rt h5.o).mono ?_;rintro e w3 (⟨rfl,hE,e4⟩ |⟨v3,n,M,rfl,hP,hF⟩)
 ·have HE:=Hd (H.o.ext.trans hE)
  have h6:=Hd e4;clear hE e4;go_wp2_with fail
  go_ret2;exact .inl ⟨2,.inr (.inl ⟨rfl,G,H.o.is,h6.o⟩),by decide,rfl,HE.o⟩
 have d4:=jhY (S:=S) (M:=M) (fun x A=>hP.at' A);have k3:=c1.o.few;have hn:(frK S M).length=n:=by have:=hF.len;simpa using this
 obtain⟨ad,cp,rfl⟩:=hF.sl
 have HP:=Hd hP;have HF:=Hd hF
 obtain⟨F,c9⟩:=vE (frK S M)
 rw[<-c9]at HF hn d4;have O:=Hd c9;have h7:=Hd (H.o.keeps hF.ext);have e5:=Hd (e3.o.ext hF.ext);clear hP hF c9;go_wp2_with fail
 refine vH (jyK w3 s bm room S e5.o hr0 hr1 vO) fun w4 a4=>?_
 obtain⟨m,hm⟩:=vE (room - (S.length:Int))
 rw[<-hm];have HM:=Hd hm;clear hm
 by_cases hfull:m < (n:Int)
 ·go_wp2_with fail
  go_ret2;exact .inl ⟨3,.inr (.inr ⟨rfl,top,G,M,X.o,H.o.is,by rw[<-c0.o];exact HP.o,by rw[<-O.o,hn, <-HM.o];exact hfull⟩),by decide,rfl,(H.o.ext.trans HF.o.ext).trans a4.o⟩
 ·have d5:=Hd (show RK w1 w4 from(((RK.refl w1).ext h4.o).ext HF.o.ext).ext a4.o)
  have e6:Ad1 w4 s bm bg room S G F (.slice ad n cp) 0 w4:=⟨jaf.refl _ _,by rw[jH];show jaS w4 s bm room (S++[]);rw[bW];exact e5.o.ext a4.o,h7.o.at'.ext a4.o,by rw[hn];exact jbo HF.o.own a4.o⟩;have e7:=Hd e6;have c2:=HS.o.mp.mp
  obtain⟨_,_,c2,_⟩:=c2
  have g7:=c2.lt;have h8:Hid (∀ z,(Value.slice ad n cp).ownBlock=some z->z≠bm):=(fun z hz e=>by have:=HF.o.new z hz;have:=H.o.ext.size;omega);have h9:Hid (bg≠bm):=(fun e=>by have:=H.o.new;omega);have i0:Hid (∀ x∈S,∀ y∈G,x.2.1≠y.2.1):=(fun x A y hy e=>by have:=(HS.o.mp.items x A).lt;have:=H.o.news y hy;omega);have i1:=Hd (show F.Nodup by rw[O.o];exact jl1 S M);have i2:Hid (∀ x∈F,atL S x.data.toList=none):=(fun x A=>by rw[O.o]at A;exact (jgb.1 A).2);have e8:Hid (∀ x∈F,(atL G x.data.toList).isSome=true):=(fun x A=>by rw[O.o]at A;exact HP.o.at' A);have k5:=Hd (HS.o.st);subst hn;clear e6 c2;go_wp2_with fail
  rw[show decide (m < (F.length:Int))=false from decide_eq_false (Int.not_lt.2 hfull)];go_loopw [46] (fun iv wr=>AdR1 w4 s bm bg room S G F (.slice ad F.length cp) iv wr/\RK w1 wr) (fun iv _=>F.length - (intOf iv).toNat)
  case atStart=>exact⟨⟨0,cE _,rfl,e7.o⟩,d5.o⟩
  case round =>
   obtain⟨⟨i,hi,rfl,J⟩,e9⟩:=hrel
   have f0:=Hd e9;clear e9;have HA:=Hd J
   by_cases hlt:i < F.length
   ·have b1:(i:Int) < (F.length:Int):=vO
    obtain⟨x,A⟩:∃ x,F[i]?=some x:=⟨_,bA hlt⟩
    obtain⟨ax,cx,hh,E⟩:=(jj0 J.row).slice
    obtain⟨c3,c4,a7,a8⟩:=E i x A
    subst a7;cases hh
    obtain⟨y,hy⟩:=fG.1 (e8.o x (bI A))
    have Q1:=Hd (J.st.st.cell (i:=1) (v:=.map (some bm)) vF);have f1:=Hd J.gv;have HX:=Hd A;have HY:=Hd hy
    obtain⟨yb,a9⟩:=vE y.2.1
    have f2:=Hd a9;clear E A hy J a9;go_wp2_with fail
    refine jaz [0,1,2,3,4,5,6,7,8] [8] Ext ExtR ExtT vY vY vY ?_
    refine vP ?_
    refine qA _ (.pointer (some ⟨s,0,none⟩)) rfl (fun w1=>by kernel_rfl) ?_;refine vS ?_
    refine vP ?_
    refine qL ⟨s,1,none⟩ _ rfl (fun w1 h1=>jab Tryz.underlying70 rfl (jaa Q1.o ((jah _).trans h1))) ?_;refine vS ?_;iterate 3 refine vP ?_
    refine jsV _ (.pointer (some ⟨yb,0,none⟩)) rfl vY rfl (fun w1 h1=>by
     have A:=(f1.o.ext ((jah _).trans h1)).look x false;rw[HY.o]at A;unfold ptrO at A;simp only[cI,if_false]at A;rw[<-f2.o]at A;simp[execOp,Act.eval,A,bX,Result.andThen,cO]) ?_
    refine vS ?_;refine qH _ rfl (fun w5 he K hK=>?_);have f3:=HA.o.ext ((jah _).trans he)
    obtain⟨ob,f4,d0⟩:=f3.put i0.o h9.o h8.o i1.o i2.o HX.o HY.o
    rw[<-f2.o]at f4;have f5:=Hd d0
    obtain⟨k6,k7,b5,_⟩:=d0.st.mp.mp
    have d6:=Hd ((f0.o.ext ((jah _).trans he)).put (jaf.onePut _ bm ob) b5);clear b5;clear f3 d0 he HA Q1 f1 a8;go_simp;refine hK _ _ ?_;clear hK K;refine qE (fun w7 he=>?_);have i3:=Hd (f5.o.ext he);have d7:=Hd (d6.o.ext he);clear he f5 f4;go_wp2_with fail
    go_roundw
    case rel=>exact⟨⟨i+1,by omega,by go_num,i3.o⟩,d7.o⟩
    case measure=>exact vJ
   ·have i4:i=F.length:=vO
    subst i4
    obtain⟨S1,b0⟩:=vE (S++jcX G F)
    have c5:=Hd b0;have b3:=Hd (show Ad2 wr s bm bg room S1 G F (.slice ad F.length cp) [] wr from⟨jaf.refl _ _,by have:=J.st;rw[cJ]at this;rw[b0];exact this,⟨G,J.gv,fun k=>rfl⟩,J.row⟩);have HU:=Hd (show ∀ x∈S1,0<=x.2.2.used/\x.2.2.used<=1000000000 from fun x A=>by
     rw[b0]at A;rcases bT.1 A with A | A
     ·exact g8.o x A
     ·obtain⟨t,ht,_,e⟩:=jc6 H.o.is (jb5 A).1
      rw[e];exact⟨Int.le_refl _,by show (0:Int)<=1000000000;decide⟩)
    have i5:=Hd (show ∀ r∈F.flatMap (jcc G),(atL S1 r.data.toList).isSome=true from fun r hr=>by
     rw[b0,O.o];refine jjc HP.o ?_
     have:=HP.o.is
     rw[cJ, <-O.o]at this;rw[this];exact bE _ hr)
    obtain⟨w5,a5⟩:=vE wr
    have i6:=Hd a5;have d8:=Hd (show RK w1 w5 by rw[a5];exact f0.o);rw[<-a5]at b3;have b3:=Hd (show Ad2 w5 s bm bg room S1 G F (.slice ad F.length cp) [] wr by rw[<-a5];exact b3.o);have f6:=Hd (show jaf (fun z=>z=bm) w4 w5 by rw[a5];exact J.kp);clear e7 J HA b0 a5;go_wp2_with fail
    go_loopw [61] (fun iv wr=>AdR2 w5 s bm bg room S1 G F (.slice ad F.length cp) iv wr/\RK w1 wr) (fun iv _=>F.length - (intOf iv).toNat)
    case atStart=>exact⟨⟨0,cE _,rfl,b3.o⟩,by rw[<-i6.o];exact d8.o⟩
    case round =>
     obtain⟨⟨i,k8,rfl,J⟩,b6⟩:=hrel
     have a3:=Hd b6;clear b6
     by_cases hlt2:i < F.length
     ·have b1:(i:Int) < (F.length:Int):=vO
      obtain⟨x,A⟩:∃ x,F[i]?=some x:=⟨_,bA hlt2⟩
      obtain⟨ax,cx,hh,E⟩:=(jj0 J.row).slice
      obtain⟨c3,c4,a7,a8⟩:=E i x A
      subst a7;cases hh
      obtain⟨y,hy⟩:=fG.1 (e8.o x (bI A))
      obtain⟨G',d1,f7⟩:=J.gv
      have hk:=f7 x.data.toList;rw[hy]at hk
      obtain⟨y',d2,hk⟩:=fM.1 hk
      have a6:=d1.look x false;rw[d2]at a6;unfold ptrO at a6;simp only[cI,if_false]at a6
      obtain⟨rv,f8,c6⟩:=(d1.items y' (jbd d2).1).cells
      have f9:y'.2.2.refs=jcc G x:=by rw[jfN hy];exact congrArg (fun z=>z.2.2) hk
      obtain⟨R,hR⟩:=vE (jcc G x)
      rw[f9, <-hR]at c6
      obtain⟨ar,cr,rfl⟩:=jaU c6
      have qr:=f8.cell (i:=1) (v:=.slice ar R.length cr) vF
      obtain⟨T,hT⟩:=vE ((F.take i).flatMap (jcc G))
      have i7:=Hd (show (F.take (i+1)).flatMap (jcc G)=T++R by rw[bY,A,dR,hT,hR];simp);have i8:=Hd (show T.length<=16000 by
       have:=jhk c1.o (F.take i)
       rw[hT];rw[cQ]at this;omega)
      have g0:=Hd (show R.length<=16 by rw[hR,jfN hy];exact c1.o.refs y (jbd hy).1);have i9:Hid (∀ r∈R,(atL S1 r.data.toList).isSome=true):=(fun r hr=>i5.o r (cR.2 ⟨x,bI A,by rw[<-hR];exact hr⟩));rw[<-hT]at J;have g1:=Hd (show AdR3 w5 s bm bg room S1 G F (.slice (some ⟨c3,c4,none⟩) F.length cp) T R (.slice ar R.length cr) (.int .i64 0) wr from⟨0,cE _,rfl,by rw[jH,bW];exact J,c6⟩)
      obtain⟨yb,a9⟩:=vE y'.2.1
      rw[<-a9]at a6 qr;clear E A hy d1 f7 hk d2 f8 c6 f9 hR hT J a9;go_wp2_with fail
      go_loopw [72] (fun jv g2=>AdR3 w5 s bm bg room S1 G F (.slice (some ⟨c3,c4,none⟩) F.length cp) T R (.slice ar R.length cr) jv g2/\RK w1 g2) (fun jv _=>R.length - (intOf jv).toNat)
      case atStart=>exact⟨g1.o,a3.o⟩
      case round =>
       obtain⟨⟨j,hj,rfl,hB,c7⟩,b7⟩:=hrel
       have b8:=Hd b7;clear b7
       by_cases hlt3:j < R.length
       ·have b2:(j:Int) < (R.length:Int):=vO
        obtain⟨z,hz⟩:∃ z,R[j]?=some z:=⟨_,bA hlt3⟩
        obtain⟨k9,l0,j0,Z⟩:=(jj0 c7).slice
        obtain⟨l1,l2,d9,k4⟩:=Z j z hz
        subst d9;cases j0;have qs:=hB.st.st.cell (i:=1) (v:=.map (some bm)) vF
        obtain⟨zb,u,e0,qu,fu,j1,j2,g3,a1⟩:=hB.bump HU.o (by have:=i8.o;have:=g0.o;rw[bC,cQ];omega) z (i9.o z (bI hz))
        have l3:=g0.o;have j3 : -9223372036854775808<=u+1:=vO
        have j4:u+1<=9223372036854775807:=vO
        have g4:=Hd (bB (show Ad2 w5 s bm bg room S1 G F (.slice (some ⟨c3,c4,none⟩) F.length cp) (T++R.take (j+1)) _ by rw[bY,hz, <-cD];exact g3) (a1 _ _ _ c7));clear Z hz hB c7 g3 a1 a6 qr;go_wp2_with fail
        go_roundw
        case rel=>exact⟨⟨j+1,by omega,by go_num,g4.o.1,g4.o.2⟩,b8.o.set zb (.inl rfl) _⟩
        case measure=>exact vJ
       ·have j5:j=R.length:=vO
        subst j5;rw[cJ, <-i7.o]at hB;have j6:=Hd hB;clear hB c7 g1 a6 qr;go_wp2_with fail
        go_roundw
        case rel=>exact⟨⟨i+1,by omega,by go_num,j6.o⟩,b8.o⟩
        case measure=>exact vJ
     ·have e1:i=F.length:=vO
      subst e1;rw[cJ]at J;have l4:=Hd J;have a2:(atL S1 rt.data.toList).isSome=true:=by
       rw[c5.o,O.o];exact jjc HP.o (by rw[HP.o.is];exact bH)
      have j7:=Hd (show ∀ x∈S1,0<=x.2.2.held/\x.2.2.held<=1000000000 from fun x A=>by
       rw[c5.o]at A;rcases bT.1 A with A | A
       ·exact d3.o x A
       ·obtain⟨t,ht,_,e⟩:=jc6 H.o.is (jb5 A).1
        rw[e];exact⟨Int.le_refl _,by show (0:Int)<=1000000000;decide⟩)
      have qs:=J.st.st.cell (i:=1) (v:=.map (some bm)) vF
      obtain⟨zb,u,e0,qu,fu,j1,j2,g5,g6⟩:=J.hold j7.o rt a2
      have j3 : -9223372036854775808<=u+1:=vO
      have j4:u+1<=9223372036854775807:=vO
      have j8:=Hd g5;have j9:=Hd (((H.o.ext.trans HF.o.ext).trans a4.o).mono (G:=fun z=>z=bm\/z∈S.map (·.2.1)) (fun _ _ g=>g.elim));have k0:=Hd g6;have k1:=Hd f6.o;clear J b3 f6 g5 g6 a2;go_wp2_with fail
      go_ret2;refine .inr ⟨top,G,M,X.o,H.o.is,b4.o,H.o.news,by rw[<-c0.o];exact HP.o,by rw[<-O.o, <-HM.o];exact Int.not_lt.2 hfull,by rw[c0.o];rfl,?_,?_,((RK.refl w).ext h3.o).trans (a3.o.set zb (.inr rfl) _),g9.o.rk (a3.o.set zb (.inr rfl) _) h2.o⟩
      ·rw[<-O.o, <-c5.o, <-c0.o];exact j8.o
      ·refine (jaf.trans' (F:=fun z=>z=bm\/z∈S.map (·.2.1)) j9.o k1.o (fun z hz e=>.inl e)).trans' k0.o (fun z hz e=>?_)
       rw[c5.o,cB]at e;rcases bT.1 e with e | e
       ·exact .inr e
       ·obtain⟨y,hy,rfl⟩:=bJ.1 e
        have:=H.o.news y (jb5 hy).1
        omega
def ComP(w:vW)(s bm:Nat)(room:Int)(S:vT)(l:vL)(cs:List Chg)(e:Ending)(w':vW):Prop:=
 (jaW l cs≠0/\e=.returned (.tuple #[.string ⟨#[]⟩,.int .i64 (jaW l cs)])/\Ext w w')\/(jaW l cs=0/\∃ w1,Ext w w1/\jlr False w1 s bm room S (newM S (ja6 l cs)) e w')
theorem ComP.bad{w w':vW}{s bm:Nat}{room:Int}{S:vT}{l:vL}{cs:List Chg}{x:Int}(h:jaW l cs=x)(h0:x≠0)(hE:Ext w w'):ComP w s bm room S l cs (.returned (.tuple #[.string ⟨#[]⟩,.int .i64 x])) w':=by
 subst h;exact .inl ⟨h0,rfl,hE⟩
theorem ComP.go{w w1 w':vW}{s bm:Nat}{room:Int}{S:vT}{l:vL}{cs:List Chg}{L:vM}{e:Ending}(h:jaW l cs=0)(hL:L=newM S (ja6 l cs))(hE:Ext w w1)(hA:jlr False w1 s bm room S L e w'):ComP w s bm room S l cs e w':=by
 subst hL;exact .inr ⟨h,w1,hE,hA⟩
theorem js5{S:vT}{m:vL}(h:jaw m=0):(newM S m).length<=119:=by
 unfold newM;rw[bF];have e:=jl2 S (belowM m);have o:=jlD h;omega
theorem js6{S:vT}{m:vL}(h:jaw m=0){t:vB}(ht:t∈newM S m):t∈jax (jaF m):=by
 unfold newM at ht;have e:jax (jaF m)=(jaF m).text :: belowM m:=by rw[jkm h];show jax (.mk _ _)=_;rw[jax];rfl
 rw[e];rcases bM.1 ht with rfl | ht
 ·exact bH
 ·unfold freshU at ht
  exact bE _ ((jaX _ _).1 (cM.1 ht).1)
theorem js7{S:vT}{m:vL}(h:jaw m=0):∀ t∈newM S m,∃ n,jbr t n:=fun t e=>by
 obtain⟨n,o,_⟩:=(jhT h).node t ((jaX _ _).2 (js6 h e))
 exact⟨n,o⟩
theorem juV(w:vW)(hc:jbY w)(he:ErrT w)(s bm:Nat)(room:Int)(S:vT)(hs:jaS w s bm room S)(hN:jjs S)(l:vL)(h:HasM S l)(u:vV)(cs:List Chg)(hu:RdC w u cs)(hnc:cs.length<=9223372036854775807)(hsc:∀ c∈cs,c.key.size<=9223372036854775807/\c.value.size<=9223372036854775807)(hr0:0<=room)(hr1:room<=9223372036854775807)(hS:S.length<=100000)(hSu:∀ x∈S,0<=x.2.2.used/\x.2.2.used<=1000000000)(hSh:∀ x∈S,0<=x.2.2.held/\x.2.2.held<=1000000000) :
  vQ 17 #[.pointer (some ⟨s,0,none⟩),.string (rootM l),u] w (ComP w s bm room S l cs):=by
 have HU:=Hd (jAO w hc he s bm room S hs hN l h u cs hu hnc hsc);have O:=Hd (bB hc he);have a4:=Hd hs;have HB:=Hd (bB hS (bB hSu hSh));have HR:=Hd (bB hr0 hr1)
 obtain⟨a,c,a5⟩:=hu.sl
 subst a5
 obtain⟨rt,Q⟩:=vE (rootM l)
 rw[<-Q]at HU ⊢;clear Q hs hN h hc he hu hnc hsc hS hSu hSh hr0 hr1;go_enter Tryz.func17,Tryz.ntmps17;go_wp2_with fail
 refine HU.o.mono ?_;rintro e w1 X;unfold UpdP at X
 by_cases h0:jaW l cs=0
 case neg =>
  rw[if_neg h0]at X
  obtain⟨rfl,hE⟩:=X
  have H:=Hd hE
  obtain⟨x0,J⟩:=vE (jaW l cs)
  have a6:=Hd J.symm;rw[<-J]at h0 ⊢;have H0:=Hd h0;have a9:(x0 != 0)=true:=by simpa using h0
  have b0:(x0 == 0)=false:=by simpa using h0
  clear hE J h0;go_wp2_with fail
  go_ret2;exact ComP.bad a6.o H0.o H.o
 rw[if_pos h0]at X
 obtain⟨r,rfl,Z⟩:=X
 have H0:=Hd h0;have z:=jbZ h0;have z:jaw (ja6 l cs)=0:=z;have K:=js5 (S:=S) z;have a0:=Hd Z.rd;have H:=Hd Z.ext;have a1:=Hd (jg7 (js7 (S:=S) z));have A:Hid ((newM S (ja6 l cs))[0]?=some (jaF (ja6 l cs)).text):=rfl
 obtain⟨L,hL⟩:=vE (newM S (ja6 l cs))
 rw[<-hL]at a0 a1 A K Z;have a2:=Hd hL;have a7:=Hd K
 obtain⟨a3,c3,e3⟩:=Z.sl
 subst e3
 obtain⟨top,E⟩:=vE (jaF (ja6 l cs)).text
 rw[<-E]at A;clear Z hL h0 z K E;go_wp2_with fail
 refine (jng w1 (O.o.1.ext H.o) (O.o.2.ext H.o) s bm room S (a4.o.ext H.o) _ L a0.o False a1.o (by have:=a7.o;omega) top A.o HR.o.1 HR.o.2 HB.o.1 HB.o.2.1 HB.o.2.2).mono ?_;intro e w2 hA;have HA:=Hd hA;rcases hA with⟨k,_,_,rfl,_⟩ |⟨_,_,_,_,hY⟩
 ·go_wp2_with fail
  go_ret2;exact ComP.go H0.o a2.o H.o HA.o
 ·have a8:=hY.res
  subst a8;clear hY;go_wp2_with fail
  go_ret2;exact ComP.go H0.o a2.o H.o HA.o
def jgT(S:vT):vM:=S.flatMap fun y=>y.2.2.refs
structure Cnt(S:vT):Prop where
 used:∀ x∈S,x.2.2.used=(cK (jgT S) x.1:Int)
 shut:∀ r∈jgT S,r.data.toList∈S.map (·.1)
 held:∀ x∈S,0<=x.2.2.held
 r16:∀ x∈S,x.2.2.refs.length<=16
def je6(S:vT):Int:=(S.map fun x=>x.2.2.held).sum
theorem Cnt.none:Cnt []:=⟨by simp,by simp[jgT],by simp,by simp⟩
theorem jtG{S:vT}(h:∀ x∈S,x.2.2.refs.length<=16):(jgT S).length<=16 * S.length:=by
 induction S with
 | nil=>simp[jgT]
 | cons x r ih =>
  have z:=ih fun y o=>h y (bE _ o);have A:=h x bH;have e:jgT (x :: r)=x.2.2.refs++jgT r:=by simp[jgT]
  rw[e,bC,bF];omega
theorem jzK(T:vM)(k:Key):cK T k<=T.length:=by
 unfold cK;have:=jI (a:=k) (l:=T.map (·.data.toList));rwa [cC]at this
def jw9(S:vT):Prop:=∀ x∈S,0 < x.2.2.used+x.2.2.held
end
theorem jlw{S G:vT}{M:vM}{top:vB}:jgT (addS S G M top)=jgT S++(frK S M).flatMap (jcc G):=by
 rw[jds];have h:=jrJ ((frK S M).flatMap (jcc G)) (shaB top) (S++jcX G (frK S M));unfold jgT;rw[h,dR, <-jj2]
theorem jem{S G:vT}{M:vM}{top:vB}:(addS S G M top).map (·.1)=(S++jcX G (frK S M)).map (·.1):=by rw[jds,jrI]
theorem jxx{S G:vT}{L M:vM}{top:vB}(hc:Cnt S)(hG:G.map kvI=readG L)(hf:Fair G)(hP:jfW S G (shaB top) M (frK S M).length):Cnt (addS S G M top):=by
 have H:∀ r∈(frK S M).flatMap (jcc G),r∈M:=fun r A=>by
  have:=hP.is
  rw[cJ]at this;rw[this];exact bE _ A
 refine⟨fun x E=>?_,fun r A=>?_,fun x E=>?_,fun x E=>?_⟩
 ·rw[jlw,jzJ]
  rw[jds]at E
  obtain⟨z,o,rfl⟩:=bJ.1 E
  show z.2.2.used+((cK ((frK S M).flatMap (jcc G)) z.1:Nat):Int)=((cK (jgT S) z.1+cK ((frK S M).flatMap (jcc G)) z.1:Nat):Int);rcases bT.1 o with o | o
  ·have:=hc.used z o;omega
  ·obtain⟨J,f,K,O⟩:=jb5 o
   obtain⟨t,Q,_,e⟩:=jc6 hG J
   have h0:cK (jgT S) z.1=0:=jxv fun r A X=>by
    have:=hc.shut r A
    rw[X,O, <-jeO,(jgb.1 K).2]at this;cases this
   have Z:z.2.2.used=0:=by rw[e];rfl
   omega
 ·rw[jem]
  rw[jlw]at A;rcases bT.1 A with A | A
  ·rw[cB];exact fE _ (hc.shut r A)
  ·exact jeO.1 (jjc hP (H r A))
 ·rw[jds]at E
  obtain⟨z,o,rfl⟩:=bJ.1 E
  show 0<=z.2.2.held+((cK [shaB top] z.1:Nat):Int);rcases bT.1 o with o | o
  ·have:=hc.held z o;omega
  ·obtain⟨t,Q,_,e⟩:=jc6 hG (jb5 o).1
   have Z:z.2.2.held=0:=by rw[e];rfl
   omega
 ·rw[jds]at E
  obtain⟨z,o,rfl⟩:=bJ.1 E
  show z.2.2.refs.length<=16;rcases bT.1 o with o | o
  ·exact hc.r16 z o
  ·exact hf.refs z (jb5 o).1
theorem jvn{S G:vT}{L M:vM}{top:vB}(hc:Cnt S)(hfl:jw9 S)(hG:G.map kvI=readG L)(hP:jfW S G (shaB top) M (frK S M).length):jw9 (addS S G M top):=fun x H=>by
 rw[jds]at H
 obtain⟨z,o,rfl⟩:=bJ.1 H
 show 0 < z.2.2.used+((cK ((frK S M).flatMap (jcc G)) z.1:Nat):Int)+(z.2.2.held+((cK [shaB top] z.1:Nat):Int));rcases bT.1 o with o | o
 ·have:=hfl z o;omega
 ·obtain⟨A,f,E,J⟩:=jb5 o
  obtain⟨t,O,_,e⟩:=jc6 hG A
  have Q:z.2.2.used=0:=by rw[e];rfl
  have X:z.2.2.held=0:=by rw[e];rfl
  have K:=(jgb.1 E).1
  have:=hP.is
  rw[cJ]at this;rw[this]at K;rcases bM.1 K with h | h
  ·have:1<=cK [shaB top] z.1:=by rw[J,h];exact jwK (by simp)
   omega
  ·have:1<=cK ((frK S M).flatMap (jcc G)) z.1:=by rw[J];exact jwK h
   omega
theorem jwt(T:vM)(r:vB)(S:vT):je6 (S.map (jlE T r))=je6 S+((S.map (·.1)).count r.data.toList:Int):=by
 induction S with
 | nil=>simp[je6]
 | cons x l ih =>
  have e:∀ (a:Nd5) b,je6 (a :: b)=a.2.2.held+je6 b:=fun a b=>by unfold je6;rw[bV,List.sum_cons]
  rw[bV,e,e,ih,bV,List.count_cons];have o:(jlE T r x).2.2.held=x.2.2.held+((cK [r] x.1:Nat):Int):=rfl;have z:cK [r] x.1=if x.1=r.data.toList then 1 else 0:=by
   have:=jkr r [] x.1
   rw[this];simp[cK]
  rw[o,z]
  by_cases hx:x.1=r.data.toList
  ·rw[if_pos hx,if_pos (by simp[hx])];push_cast;omega
  ·rw[if_neg hx,if_neg (by simpa using hx)];push_cast;omega
theorem jyM(A B:vT):je6 (A++B)=je6 A+je6 B:=by unfold je6;rw[cB,List.sum_append]
theorem jpR:∀ {B:vT},(∀ x∈B,x.2.2.held=0)->je6 B=0
 | [],_=>rfl
 | x :: r,h=>by
  have e:je6 (x :: r)=x.2.2.held+je6 r:=by unfold je6;rw[bV,List.sum_cons]
  rw[e,h x bH,jpR fun y o=>h y (bE _ o)];rfl
theorem jlN:∀ {l:List Key},l.Nodup->∀ {k:Key},k∈l->l.count k=1
 | [],_,_,o=>by cases o
 | x :: r,h,k,o=>by
  rw[dV]at h;rw[List.count_cons]
  by_cases e:x=k
  ·subst e
   rw[List.count_eq_zero_of_not_mem h.1];simp
  ·have o:k∈r:=(bM.1 o).resolve_left fun z=>e z.symm
   rw[jlN h.2 o];simp[e]
theorem jyL{S G:vT}{L M:vM}{top:vB}(hn:((addS S G M top).map (·.1)).Nodup)(hG:G.map kvI=readG L)(hP:jfW S G (shaB top) M (frK S M).length):je6 (addS S G M top)=je6 S+1:=by
 have o:(shaB top).data.toList∈(S++jcX G (frK S M)).map (·.1):=jeO.1 (jjc hP (by rw[hP.is];exact bH));rw[jem]at hn;rw[jds,jwt,jyM,jpR (B:=jcX G (frK S M)) (fun x z=>by
  obtain⟨t,A,_,e⟩:=jc6 hG (jb5 z).1
  rw[e];rfl),jlN hn o]
 omega
theorem jsI{S G:vT}{M:vM}{top:vB}:(addS S G M top).length<=S.length+(frK S M).length:=by
 rw[jds,cC,bC]
 have:(jcX G (frK S M)).length<=(frK S M).length:=iR _ _
 omega
theorem jvs{S G:vT}{L M:vM}{top:vB}{n:Int}(h:∀ x∈S,x.2.2.held<=n)(h0:0<=n)(hG:G.map kvI=readG L):∀ x∈addS S G M top,x.2.2.held<=n+1:=fun x A=>by
 rw[jds]at A
 obtain⟨z,o,rfl⟩:=bJ.1 A
 show z.2.2.held+((cK [shaB top] z.1:Nat):Int)<=n+1;have E:=jzK [shaB top] z.1;rw[jE]at E;rcases bT.1 o with o | o
 ·have:=h z o;omega
 ·obtain⟨t,H,_,e⟩:=jc6 hG (jb5 o).1
  have J:z.2.2.held=0:=by rw[e];rfl
  omega
structure Kp(U:vM)(S:vT):Prop where
 is:∀ x∈S,∃ t∈U,x.1=ky t/\x.2.2.text=t/\x.2.2.refs=jaM (nodeOf t)
 cnt:Cnt S
 full:jw9 S
theorem Kp.none(U:vM):Kp U []:=⟨by simp,Cnt.none,fun x e=>by cases e⟩
theorem Kp.mono{U V:vM}{S:vT}(h:Kp U S)(hs:∀ t∈U,t∈V):Kp V S:=
 ⟨fun x o=>by obtain⟨t,z,e⟩:=h.is x o;exact⟨t,hs t z,e⟩,h.cnt,h.full⟩
theorem Kp.text{U:vM}{S:vT}(hU:InjL U)(h:Kp U S){t:vB}(ht:t∈U)(hk:ky t∈S.map (·.1)):∃ x,atL S (ky t)=some x/\x∈S/\x.2.2.text=t/\x.2.2.refs=jaM (nodeOf t):=by
 obtain⟨x,o⟩:=fG.1 (jeO.2 hk)
 obtain⟨z,A⟩:=jbd o
 obtain⟨E,e,H,J,K⟩:=h.is x z
 have:E=t:=jAc hU e ht (H.symm.trans A)
 subst this
 exact⟨x,o,z,J,K⟩
theorem Kp.shut{U:vM}{S:vT}(hU:InjL U)(h:Kp U S){t:vB}(ht:t∈U)(hk:ky t∈S.map (·.1)){r:vB}(hr:r∈jaM (nodeOf t)):r.data.toList∈S.map (·.1):=by
 obtain⟨x,_,e,_,o⟩:=h.text hU ht hk
 exact h.cnt.shut r (cR.2 ⟨x,e,by rw[o];exact hr⟩)
def jnc(U:vM):Prop:=∀ t∈U,∃ n,jbr t n
theorem Kp.bd{U:vM}{S:vT}(h:Kp U S)(hl:S.length<=5000):∀ x∈S,0<=x.2.2.used/\x.2.2.used<=1000000000:=fun x e=>by
 have o:=h.cnt.used x e;have z:=jzK (jgT S) x.1;have A:=jtG h.cnt.r16;omega
theorem jpH(w:vW){U:vM}(hU:InjL U){S:vT}(h:Kp U S){m:vL}(hm:jaw m=0)(hs:∀ t∈ja5 m,t∈U)(e:ky (jaF m).text∈S.map (·.1)):∀ t∈ja5 m,ky t∈S.map (·.1):=
 jwe w hm (fun k=>k.data.toList∈S.map (fun x:Nd5=>x.1)) (fun t o z r e=>h.shut hU (hs t o) z e) e
theorem Kp.has(w:vW){U:vM}(hU:InjL U){S:vT}(h:Kp U S){m:vL}(hm:jaw m=0)(hs:∀ t∈ja5 m,t∈U)(hr:ky (jaF m).text∈S.map (·.1)):HasM S m:=
 ⟨hm,fun t e=>by
  have e:=(jaX (jax (jaF m)) t).2 e
  obtain⟨x,o,_,z,_⟩:=h.text hU (hs t e) (jpH w hU h hm hs hr t e)
  exact⟨x,o,z⟩⟩
theorem Kp.nodes{U:vM}{S:vT}(h:Kp U S)(hN:∀ t∈U,∃ n,jbr t n):∀ x∈S,∃ n,jbr x.2.2.text n:=fun x o=>by
 obtain⟨t,z,_,e,_⟩:=h.is x o
 rw[e];exact hN t z
theorem jdZ{m:vL}(hm:jaw m=0):jnc (ja5 m):=fun t e=>by
 obtain⟨n,o,_⟩:=(jhT hm).node t e
 exact⟨n,o⟩
structure Part(S:vT)(m:vL)(L:vM):Prop where
 ok:jaw m=0
 head:L[0]?=some (jaF m).text
 sub:∀ t∈L,t∈ja5 m
 all:∀ t∈ja5 m,t∈L\/ky t∈S.map (·.1)
theorem jpt(S:vT){m:vL}(hm:jaw m=0):Part S m (ja5 m):=⟨hm,(jhT hm).head,fun _ h=>h,fun _ h=>.inl h⟩
theorem Part.refs(w:vW){S:vT}{m:vL}{L:vM}(h:Part S m L){G:vT}(hG:G.map kvI=readG L){x r:vB}(o:r∈jcc G x):has2 S G r:=by
 unfold jcc at o;cases ha:atL G x.data.toList with
 | none=>rw[ha]at o;cases o
 | some y =>
  rw[ha]at o
  obtain⟨t,H,_,e⟩:=jc6 hG (jbd ha).1
  have o:r∈y.2.2.refs:=o;rw[e]at o
  obtain⟨n,E,z⟩:=(jhT h.ok).node t (h.sub t H)
  have o:r∈jaM (nodeOf t):=o;rw[jet w (jdm E) E]at o
  obtain⟨J,A,e⟩:=z r o
  subst e;rcases h.all J A with h1 | h1
  ·exact .inr (jl5 hG h1)
  ·exact .inl (jeO.2 h1)
theorem Part.why(w:vW){S:vT}{m:vL}{L:vM}(h:Part S m L){room k:Int}(hk:jwF False room S L k):k=3/\room < (S.length:Int)+(L.length:Int):=by
 rcases hk with⟨_,e⟩ |⟨_,G,hG,x,r,hr,hno⟩ |⟨rfl,top,G,M,_,hG,hP,hroom⟩
 ·exact e.elim
 ·exact absurd (h.refs w hG hr) hno
 ·have e:=jhY (S:=S) (M:=M) (fun x o=>hP.at' o)
  have z:=(jfl L).2.2;rw[<-hG,cC]at z
  exact⟨rfl,by omega⟩
theorem jl9(f:Nd5->Nd5)(hf:∀ x,(f x).1=x.1):∀ (L:vT) (k:Key),atL (L.map f) k=(atL L k).map f
 | [],k=>rfl
 | x :: L,k=>by
  unfold atL;rw[bV,fX,fX,hf];cases e:decide (k=x.1)with
  | true=>rfl
  | false=>exact jl9 f hf L k
theorem jlJ(r:vB)(k:Key):cK [r] k=if k=r.data.toList then 1 else 0:=by
 have:=jkr r [] k
 rw[this];unfold cK;simp
structure AddK(w:World)(U:vM)(S:vT)(m:vL)(L:vM)(S':vT):Prop where
 kp:Kp U S'
 key:∀ k,k∈S'.map (·.1)↔k∈S.map (·.1)\/∃ t∈ja5 m,k=ky t
 held:∀ k,jvr (atL S' k)=jvr (atL S k)+if k=ky (jaF m).text then 1 else 0
 sum:je6 S'=je6 S+1
 len:S'.length<=S.length+L.length
 blk:∀ x∈S',x.2.1∈S.map (·.2.1)\/w.heap.size<=x.2.1
 bd:∀ n:Int,0<=n->(∀ x∈S,x.2.2.held<=n)->∀ x∈S',x.2.2.held<=n+1
theorem Part.add(w:vW){U:vM}(hU:InjL U){S:vT}(hK:Kp U S){m:vL}{L:vM}(h:Part S m L)(hs:∀ t∈ja5 m,t∈U)(hl:L.length<=1000){s bm:Nat}{room:Int}{G:vT}{M:vM}{e:Ending}{w':vW}(hA:AddY w s bm room S L (jaF m).text G M e w') :
  AddK w U S m L (addS S G M (jaF m).text):=by
 have O:=hA.path;have K:=hA.given;have hF:=jjQ K hA.nodes hl;have a3:((addS S G M (jaF m).text).map (·.1)).Nodup:=hA.st.nd;have o:∀ x∈jcX G (frK S M),x∈G/\(∃ t∈L,x.1=ky t/\x.2.2=itOf t)/\atL S x.1=none:=fun x A=>by
  obtain⟨Z,z,H,e⟩:=jb5 A
  exact⟨Z,jc6 K Z,by rw[e];exact (jgb.1 H).2⟩
 have a4:∀ x∈S++jcX G (frK S M),∃ t∈U,x.1=ky t/\x.2.2.text=t/\x.2.2.refs=jaM (nodeOf t):=fun x A=>by
  rcases bT.1 A with A | A
  ·exact hK.is x A
  ·obtain⟨t,Q,e1,e2⟩:=(o x A).2.1
   exact⟨t,hs t (h.sub t Q),e1,by rw[e2];rfl,by rw[e2];rfl⟩
 have a0:Kp U (addS S G M (jaF m).text):=by
  refine⟨fun x' a1=>?_,jxx hK.cnt K hF O,jvn hK.cnt hK.full K O⟩
  rw[jds]at a1
  obtain⟨x,A,rfl⟩:=bJ.1 a1
  exact a4 x A
 have E:ky (jaF m).text∈(addS S G M (jaF m).text).map (·.1):=by
  rw[jem];exact jeO.1 (jjc O (by rw[O.is];exact bH))
 have a2:∀ k,atL (addS S G M (jaF m).text) k=(atL (S++jcX G (frK S M)) k).map (jlE ((frK S M).flatMap (jcc G)) (shaB (jaF m).text)):=fun k=>by
  rw[jds];exact jl9 (jlE ((frK S M).flatMap (jcc G)) (shaB (jaF m).text)) (fun _=>rfl) _ k
 refine⟨a0,fun k=>?_,fun k=>?_,jyL a3 K O,?_,fun x A=>?_,fun n hn hb=>jvs hb hn K⟩
 ·constructor
  ·intro J
   rw[jem,cB,bT]at J;rcases J with J | J
   ·exact .inl J
   ·obtain⟨x,A,rfl⟩:=bJ.1 J
    obtain⟨t,Q,e1,_⟩:=(o x A).2.1
    exact .inr ⟨t,h.sub t Q,e1⟩
  ·rintro (J |⟨t,Q,rfl⟩)
   ·rw[jem,cB,bT];exact .inl J
   ·exact jpH w hU a0 h.ok hs E t Q
 ·rw[a2]
  have H:(if k=ky (jaF m).text then (1:Int)else 0)=((cK [shaB (jaF m).text] k:Nat):Int):=by
   rw[jlJ];unfold ky;split <;> rfl
  rw[H];unfold atL;rw[List.find?_append];cases hS:List.find? (fun x=>decide (k=x.1)) S with
  | some y =>
   have a5:=(jbd (L:=S) (k:=k) hS).2;show y.2.2.held+((cK [shaB (jaF m).text] y.1:Nat):Int)=y.2.2.held+_;rw[a5]
  | none =>
   cases hP2:List.find? (fun x=>decide (k=x.1)) (jcX G (frK S M))with
   | some y =>
    have hy:=jbd (L:=jcX G (frK S M)) (k:=k) hP2
    obtain⟨t,Q,e1,e2⟩:=(o y hy.1).2.1
    show y.2.2.held+((cK [shaB (jaF m).text] y.1:Nat):Int)=0+_;rw[hy.2,e2];rfl
   | none =>
    show (0:Int)=0+_;rw[jlJ]
    have:k≠(shaB (jaF m).text).data.toList:=fun e=>by
     have Z:=a2 k;have X:=jeO.2 E;unfold ky at X;rw[<-e,Z]at X;unfold atL at X;rw[List.find?_append,hS,hP2]at X;cases X
    rw[if_neg this];rfl
 ·have Z:=jsI (S:=S) (G:=G) (M:=M) (top:=(jaF m).text)
  have X:=jhY (S:=S) (M:=M) (fun x A=>O.at' A);have h3:=(jfl L).2.2;rw[<-K,cC]at h3;omega
 ·rw[jds]at A
  obtain⟨z,H,rfl⟩:=bJ.1 A
  rcases bT.1 H with H | H
  ·exact .inl (bJ.2 ⟨z,H,rfl⟩)
  ·exact .inr (hA.news z (o z H).1)
theorem jqx{m:vL}(h:jaw m=0):jax (jaF m)=(jaF m).text :: belowM m:=by
 rw[jkm h];show jax (.mk _ _)=_;rw[jax];rfl
theorem jvU(S:vT){m:vL}(h:jaw m=0):Part S m (newM S m):=
 ⟨h,rfl,fun t e=>(jaX _ _).2 (js6 h e),fun t e=>by
  have e:=(jaX (jax (jaF m)) t).1 e;rw[jqx h]at e;unfold newM;rcases bM.1 e with rfl | e
  ·exact .inl bH
  ·cases hl:lackB S t with
   | true=>exact .inl (bE _ (cM.2 ⟨(jaX _ _).2 e,hl⟩))
   | false =>
    refine .inr (jeO.1 ?_);unfold lackB at hl;unfold ky;cases ha:atL S (shaB t).data.toList with
    | none=>rw[ha]at hl;cases hl
    | some x=>rfl⟩
theorem AddK.ahead{w w1:vW}{U:vM}{S:vT}{m:vL}{L:vM}{S':vT}(h:AddK w1 U S m L S')(hw:w.heap.size<=w1.heap.size):AddK w U S m L S':=
 ⟨h.kp,h.key,h.held,h.sum,h.len,fun x o=>(h.blk x o).imp id (fun e=>bK hw e),h.bd⟩
structure ComY(w:World)(s bm:Nat)(room:Int)(U:vM)(S:vT)(m:vL)(L:vM)(e:Ending)(w':World)(S':vT):Prop where
 res:e=.returned (.tuple #[.string (rootM m),.int .i64 0])
 st:jaS w' s bm room S'
 add:AddK w U S m L S'
 kp:jaf (fun z=>z=bm\/z∈S.map (·.2.1)) w w'
 fits:(S'.length:Int)<=room\/room < S.length
def ComF(w:vW)(room:Int)(S:vT)(L:vM)(e:Ending)(w':vW):Prop:=e=.returned (.tuple #[.string ⟨#[]⟩,.int .i64 3])/\Ext w w'/\room < (S.length:Int)+(L.length:Int)
theorem jop(w0 w:vW){U:vM}(hU:InjL U){S:vT}(hK:Kp U S){m:vL}{L:vM}(hp:Part S m L)(hs:∀ t∈ja5 m,t∈U)(hl:L.length<=1000){s bm:Nat}{room:Int}{e:Ending}{w':vW}(hE:Ext w0 w)(h:jlr False w s bm room S L e w') :
  ComF w0 room S L e w'\/∃ S',ComY w0 s bm room U S m L e w' S':=by
 rcases h with⟨k,hwhy,_,rfl,hE2⟩ |⟨top,G,M,htop,hY⟩
 ·obtain⟨rfl,A⟩:=hp.why w hwhy
  exact .inl ⟨rfl,hE.trans hE2,A⟩
 ·have o:top=(jaF m).text:=by have:=hp.head;rw[htop]at this;exact bS this
  subst o;refine .inr ⟨_,hY.res,hY.st,(hp.add w hU hK hs hl hY).ahead hE.size,(hE.mono (fun _ _ e=>e.elim)).trans hY.kp,?_⟩;have E:=hY.fits;have z:=jsI (S:=S) (G:=G) (M:=M) (top:=(jaF m).text);have z:(jkq (shaB (jaF m).text).data.toList (jeJ ((frK S M).flatMap (jcc G)) (S++jcX G (frK S M)))).length<=S.length+(frK S M).length:=z;omega
theorem jBq(w:vW){U:vM}(hU:InjL U){S:vT}(hK:Kp U S){l:vL}{cs:List Chg}(h0:jaW l cs=0)(hs:∀ t∈ja5 (ja6 l cs),t∈U){s bm:Nat}{room:Int}{e:Ending}{w':vW}(h:ComP w s bm room S l cs e w') :
  ComF w room S (newM S (ja6 l cs)) e w'\/∃ S',ComY w s bm room U S (ja6 l cs) (newM S (ja6 l cs)) e w' S':=by
 rcases h with⟨h1,_⟩ |⟨_,w1,hE,h⟩
 ·exact absurd h0 h1
 ·have o:jaw (ja6 l cs)=0:=jbZ h0
  exact jop w w1 hU hK (jvU S o) hs (by have:=js5 (S:=S) o;omega) hE h
theorem juU(w:vW){U:vM}(hU:InjL U){S:vT}(hK:Kp U S){l:vL}{cs:List Chg}(h0:jaW l cs=0)(hs:∀ t∈ja5 (ja6 l cs),t∈U){s bm:Nat}{room:Int}{e:Ending}{w':vW}(h:ComP w s bm room S l cs e w')(hr:(S.length:Int)+((newM S (ja6 l cs)).length:Int)<=room) :
  ∃ S',ComY w s bm room U S (ja6 l cs) (newM S (ja6 l cs)) e w' S':=by
 rcases jBq w hU hK h0 hs h with⟨_,_,h3⟩ | h3
 ·omega
 ·exact h3
theorem AddK.more{w:vW}{U:vM}(hU:InjL U){S:vT}{m:vL}{L:vM}{S':vT}(h:AddK w U S m L S'){l:vL}(hl:∀ t∈ja5 l,t∈U)(hM:HasM S l):HasM S' l:=
 h.kp.has w hU hM.ok hl ((h.key _).2 (.inl (by
  obtain⟨x,e,_⟩:=hM.has _ (jbX _)
  exact jeO.1 (by rw[e];rfl))))
theorem AddK.has{w:vW}{U:vM}(hU:InjL U){S:vT}{m:vL}{L:vM}{S':vT}(h:AddK w U S m L S')(hm:jaw m=0)(hl:∀ t∈ja5 m,t∈U):HasM S' m:=
 h.kp.has w hU hm hl ((h.key _).2 (.inr ⟨_,bI (jhT hm).head,rfl⟩))
section
attribute [local go_sem] Oper.semAt_some
end
section
attribute [local go_sem] Oper.semAt_some
def twP:vL:=[(⟨#[97]⟩,⟨#[49]⟩),(⟨#[98]⟩,⟨#[50]⟩)]
theorem tw_p:jaw twP=0:=by decide +kernel
theorem jmZ{m:vL}(h:jaw m=0):jcH m=m:=jgU (jgl (jgy h).2.nodup) (jgy h).2 (jmj m)
theorem jyP:ja5 twP=[(jaF twP).text]:=by decide +kernel
theorem jx7{S:vT}{m:vL}(h:belowM m=[]):newM S m=[(jaF m).text]:=by unfold newM;rw[h];rfl
theorem jv3(w:vW)(xs:List Chg)(T:TypeId):RdC (w.alloc (.cells (jd1 xs).toArray T)) (.slice (some ⟨w.heap.size,0,none⟩) xs.length xs.length) xs:=
 .inr ⟨w.heap.size,0,xs.length,rfl,by simp,bL _,fun j x e=>by
  obtain⟨o,z,A⟩:=jeL xs j x e
  exact⟨by rw[cG];exact (Blk.new w _).cellL o,by rw[cG];exact (Blk.new w _).cellL z,by rw[cG];exact (Blk.new w _).cellL A⟩⟩
theorem jv4(w:vW)(xs:vL)(T:TypeId):RdP (w.alloc (.cells (jb8 xs).toArray T)) (.slice (some ⟨w.heap.size,0,none⟩) xs.length xs.length) xs:=by
 refine .inr ⟨_,0,_,rfl,(Blk.new w _).lt,bL _,fun j x e=>?_⟩
 obtain⟨o,z⟩:=jdG xs j x e
 exact⟨by rw[cG];exact (Blk.new w _).cellL o,by rw[cG];exact (Blk.new w _).cellL z⟩
theorem jBD{U:vM}{S:vT}(h:Kp U S){k:vB}(hk:k.size≠32):atL S k.data.toList=none:=by
 cases ha:atL S k.data.toList with
 | none=>rfl
 | some y =>
  obtain⟨z,A⟩:=jbd ha
  obtain⟨t,_,e,_⟩:=h.is y z
  have o:=congrArg List.length (A.symm.trans e);have E:(ky t).length=32:=jbk t;rw[E,jaT]at o;exact absurd o hk
structure jfV(l:vL)(w:World)(s bm:Nat)(S:vT)(w':World):Prop where
 ext:Ext w w'
 st:jaS w' s bm 2000 S
 add:∃ W,AddK W (ja5 l) [] l (ja5 l) S
 few:fewB l=true
 inj:InjL (ja5 l)
 ok:jaw l=0
 bnew:w.heap.size<=bm
 snew:w.heap.size<=s
 ne:s≠bm
 new:∀ x∈S,w.heap.size<=x.2.1
def juv(l:vL)(w:vW)(e:Ending)(w':vW):Prop:=∃ s bm S,e=.returned (.tuple #[.pointer (some ⟨s,0,none⟩),.string (shaB (jaF l).text)])/\jfV l w s bm S w'
def jzc(l:vL)(w:vW)(e:Ending)(w':vW):Prop:=jzb l w e w'\/juv l w e w'
theorem jfV.key{l:vL}{w w':vW}{s bm:Nat}{S:vT}(h:jfV l w s bm S w')(k:Key):k∈S.map (·.1)↔∃ t∈ja5 l,k=ky t:=by
 obtain⟨W,e⟩:=h.add
 rw[e.key];simp
theorem jfV.kp{l:vL}{w w':vW}{s bm:Nat}{S:vT}(h:jfV l w s bm S w'):Kp (ja5 l) S:=by
 obtain⟨W,e⟩:=h.add
 exact e.kp
theorem jfV.has{l:vL}{w w':vW}{s bm:Nat}{S:vT}(h:jfV l w s bm S w'):HasM S l:=
 h.kp.has w h.inj h.ok (fun _ h=>h) ((h.key _).2 ⟨_,bI (jhT h.ok).head,rfl⟩)
theorem jfV.held{l:vL}{w w':vW}{s bm:Nat}{S:vT}(h:jfV l w s bm S w')(k:Key):jvr (atL S k)=if k=ky (jaF l).text then 1 else 0:=by
 obtain⟨W,e⟩:=h.add
 rw[e.held];show (0:Int)+_=_;omega
theorem jfV.len{l:vL}{w w':vW}{s bm:Nat}{S:vT}(h:jfV l w s bm S w'):S.length<=121:=by
 obtain⟨W,e⟩:=h.add
 have o:=e.len;have z:=jc4 h.ok;simp at o;omega
theorem jfV.hb{l:vL}{w w':vW}{s bm:Nat}{S:vT}(h:jfV l w s bm S w'):∀ x∈S,x.2.2.held<=1:=by
 obtain⟨W,e⟩:=h.add
 exact e.bd 0 vO (fun x o=>by cases o)
theorem jo2(w:vW)(hc:jbY w)(he:ErrT w)(v:vV)(l:vL)(hv:RdP w v l)(hn:l.length<=9223372036854775807)(hs:jb7 l) :
  vQ 16 #[v] w (jzc l w):=by
 have HC:=Hd hc;have b7:=Hd he;have HV:=Hd hv;have HS:=Hd hs;have HN:=Hd hn
 obtain⟨a,c,rfl⟩:=hv.sl;clear hc hv hs hn he;go_enter Tryz.func16,Tryz.ntmps16;go_wp2_with fail
 refine vH (jwP w _ l HV.o HN.o HS.o) fun w2 K=>?_
 obtain⟨fw,a0⟩:=vE (fewB l)
 have a7:=Hd a0;rw[<-a0];clear a0
 by_cases hcl:jaw l=0
 case neg =>
  go_wp2_with fail
  refine vH (jmr w2 _ l (HV.o.ext K.o) HN.o HS.o hcl) fun w3 J=>?_;have Q:=Hd (K.o.trans J);have a8:=Hd hcl
  obtain⟨x,Z⟩:=vE (jaw l)
  rw[<-Z]at hcl ⊢;have c8:(x == 0)=false:=by simpa using hcl
  have c7:(x != 0)=true:=by simpa using hcl
  clear hcl Z K;go_wp2_with fail
  refine (jw2 w3 2000).mono ?_;rintro e w4 ⟨s,bm,rfl,J,_,_,_,_⟩;have O:=Hd (Q.o.trans J);clear J Q;go_wp2_with fail
  refine (jnk w4 (HC.o.ext O.o) _ [] (.inl ⟨none,0,rfl,rfl⟩) (by simp)).mono ?_;rintro e w5 ⟨b,rfl,_,J⟩;have E:=Hd (O.o.trans J);clear J O;cases fw with
  | false =>
   go_wp2_with fail
   go_ret2;exact .inl ⟨rfl,E.o,fun h=>a8.o h.2.1⟩
  | true =>
   go_wp2_with fail
   go_ret2;exact .inl ⟨rfl,E.o,fun h=>a8.o h.2.1⟩
 have A:=Hd hcl;clear hcl;go_wp2_with fail
 refine (jpn w2 _ l (HC.o.ext K.o) (HV.o.ext K.o) A.o).mono ?_;rintro e w3 ⟨u3,n3,rfl,hR⟩;have hR:SRow w2 w3 u3 n3 (ja5 l):=hR
 obtain⟨L,hL⟩:=vE (ja5 l)
 have a5:=jc4 A.o;have X:=Hd hL;rw[<-hL]at hR a5;have b8:L.length=n3:=by have:=hR.len;simpa using this
 have a9:=hR.rd
 obtain⟨a3,c3,e3⟩:=hR.sl
 have Q:=Hd (K.o.trans hR.ext);subst e3;have b0:=Hd a9;subst b8;clear hR a9 K hL;go_wp2_with fail
 refine (jw2 w3 2000).mono ?_;rintro e w4 ⟨s,bm,rfl,J,hS,b1,b2,b3⟩;have O:=Hd (Q.o.trans J);have HZ:=Hd (bB Q.o.size b1);have b4:=Hd (bB b2 b3);have b5:=Hd (show jaS w4 s bm 2000 []from hS);have a1:=Hd (b0.o.ext J);clear J hS Q b0 b1 b2 b3;go_wp2_with fail
 refine (jnk w4 (HC.o.ext O.o) _ L a1.o vO).mono ?_;rintro e w5 ⟨b,rfl,hb,J⟩;have E:=Hd (O.o.trans J);have b9:=Hd (b5.o.ext J);have c0:=Hd (a1.o.ext J);have HB:=Hd hb;clear J O b5 a1 hb;cases fw with
 | false =>
  go_wp2_with fail
  go_ret2;exact .inl ⟨rfl,E.o,fun h=>by have:=a7.o;rw[h.1]at this;cases this⟩
 | true =>
  cases b with
  | false =>
   go_wp2_with fail
   go_ret2;refine .inl ⟨rfl,E.o,fun h=>?_⟩
   have:=HB.o.2 (by rw[X.o];exact h.2.2)
   cases this
  | true =>
   have HI:=Hd (show InjL (ja5 l) by rw[<-X.o];exact HB.o.1 rfl);have c1:=Hd (show jzu L by rw[X.o];exact jq8 w A.o (by have:=jc4 A.o;exact bK this vI));have b6:=Hd (show L[0]?=some (jaF l).text by rw[X.o];exact (jhT A.o).head)
   obtain⟨tp,a2⟩:=vE (jaF l).text
   rw[<-a2]at b6;have c9:=Hd a2;clear a2;go_wp2_with fail
   have c2:=Hd (jg7 c1.o.node);refine (jng w5 (HC.o.ext E.o) (b7.o.ext E.o) s bm 2000 [] b9.o _ L c0.o False c2.o (by have:=jc4 A.o;rw[X.o];omega) tp b6.o vI vI (by simp) (fun x Z=>by cases Z) (fun x Z=>by cases Z)).mono ?_;rintro e w6 hP;rw[X.o]at hP;have H:=jpt [] A.o;rcases hP with⟨k,hwhy,_,_,_⟩ |⟨top,G,M,htop,hY⟩
   ·have h1:=(H.why w hwhy).2
    have h2:=jc4 A.o;simp at h1;omega
   have a6:top=(jaF l).text:=by have:=H.head;rw[htop]at this;exact bS this
   subst a6;have hK:=H.add w5 HI.o (Kp.none _) (fun _ h=>h) (by have:=jc4 A.o;omega) hY;have c4:=hY.res;subst c4;have HF:=Hd (bB hY.st hK);have a4:=hY.kp;have c5:=Hd (E.o.trans' a4 (fun z hz e=>by
    rcases e with e | e
    ·have:=HZ.o;omega
    ·simp at e))
   have c6:=Hd (bB E.o.size a4.size);clear hY hK a4 htop H;go_wp2_with fail
   go_ret2;exact .inr ⟨s,bm,_,rfl,⟨c5.o,HF.o.1,⟨w5,HF.o.2⟩,a7.o.symm,HI.o,A.o,by have:=HZ.o;omega,by have:=HZ.o;have:=b4.o;omega,b4.o.2,fun x Z=>by
    rcases HF.o.2.blk x Z with h | h
    ·simp at h
    ·have:=c6.o;omega⟩⟩
structure Tst(W0 W:World)(s bm:Nat)(room:Int)(U:vM)(S:vT)(n:Nat):Prop where
 ext:Ext W0 W
 st:jaS W s bm room S
 kp:Kp U S
 len:S.length<=n
 bnew:W0.heap.size<=bm
 new:∀ x∈S,W0.heap.size<=x.2.1
 hb:∀ x∈S,x.2.2.held<=n
theorem Tst.grow{W0 W W':vW}{s bm:Nat}{room:Int}{U:vM}{S:vT}{n:Nat}(h:Tst W0 W s bm room U S n)(k:Ext W W'):Tst W0 W' s bm room U S n:=
 ⟨h.ext.trans k,h.st.ext k,h.kp,h.len,h.bnew,h.new,h.hb⟩
theorem Tst.more{W0 W:vW}{s bm:Nat}{room:Int}{U V:vM}{S:vT}{n:Nat}(h:Tst W0 W s bm room U S n)(hs:∀ t∈U,t∈V):Tst W0 W s bm room V S n:=
 ⟨h.ext,h.st,h.kp.mono hs,h.len,h.bnew,h.new,h.hb⟩
theorem Tst.bds{W0 W:vW}{s bm:Nat}{room:Int}{U:vM}{S:vT}{n:Nat}(h:Tst W0 W s bm room U S n)(hn:n<=5000):S.length<=100000/\(∀ x∈S,0<=x.2.2.used/\x.2.2.used<=1000000000)/\(∀ x∈S,0<=x.2.2.held/\x.2.2.held<=1000000000):=
 ⟨by have:=h.len;omega,h.kp.bd (by have:=h.len;omega),fun x e=>⟨h.kp.cnt.held x e,by have:=h.hb x e;omega⟩⟩
theorem Tst.add{W0 W W':vW}{s bm:Nat}{room:Int}{U:vM}{S S':vT}{n k:Nat}{m:vL}{L:vM}{e:Ending}(h:Tst W0 W s bm room U S n)(hL:L.length<=k)(h1:1<=k)(hY:ComY W s bm room U S m L e W' S'):Tst W0 W' s bm room U S' (n+k):=
 ⟨h.ext.trans' hY.kp (fun z E e=>by
  rcases e with e | e
  ·have:=h.bnew;omega
  ·obtain⟨y,o,e⟩:=bJ.1 e
   have:=h.new y o;omega),hY.st,hY.add.kp,by have:=hY.add.len;have:=h.len;omega,h.bnew,fun x A=>by
  rcases hY.add.blk x A with e | e
  ·obtain⟨y,o,e⟩:=bJ.1 e
   have:=h.new y o;omega
  ·have:=h.ext.size;omega,fun x A=>by
   have:=hY.add.bd n vO h.hb x A
   omega⟩
theorem jfV.tst{l:vL}{w w':vW}{s bm:Nat}{S:vT}(h:jfV l w s bm S w'):Tst w w' s bm 2000 (ja5 l) S 121:=
 ⟨h.ext,h.st,h.kp,h.len,h.bnew,h.new,fun x e=>by have:=h.hb x e;omega⟩
end
def dwQ:vL:=[(⟨#[98]⟩,⟨#[50]⟩),(⟨#[99]⟩,⟨#[51]⟩)]
def dwC:List Chg:=[⟨⟨#[97]⟩,⟨#[]⟩,true⟩,⟨⟨#[99]⟩,⟨#[51]⟩,false⟩]
theorem dw_q:jaw dwQ=0:=by decide +kernel
theorem dw_e:jaW twP dwC=0:=by decide +kernel
theorem dw_a:ja6 twP dwC=dwQ:=by unfold ja6;rw[show jcT twP dwC=dwQ by decide +kernel,jmZ dw_q]
theorem jBv:jaW twP []=0:=by decide +kernel
theorem jBr:ja6 twP []=twP:=by unfold ja6;rw[show jcT twP []=twP by decide +kernel,jmZ tw_p]
def dwU:vM:=[(jaF twP).text,(jaF dwQ).text]
theorem dw_t:ja5 dwQ=[(jaF dwQ).text]:=by decide +kernel
theorem jse:∀ t∈ja5 twP,t∈dwU:=by rw[jyP];intro t e;rw[bZ.1 e];simp[dwU]
theorem jzS:∀ t∈ja5 dwQ,t∈dwU:=by rw[dw_t];intro t e;rw[bZ.1 e];simp[dwU]
theorem jjK:InjL dwU:=by unfold InjL;decide +kernel
theorem joN:jnc dwU:=fun t e=>by
 rcases bM.1 e with rfl | e
 ·exact jdZ tw_p _ (by rw[jyP];exact bH)
 ·rw[bZ.1 e]
  exact jdZ dw_q _ (by rw[dw_t];exact bH)
theorem dw_b:belowM dwQ=[]:=by rw[jkm dw_q];decide +kernel
theorem jzR:fewB twP=true:=by decide +kernel
theorem jxD:InjL (ja5 twP):=fun x o y z e=>jjK x (jse x o) y (jse y z) e
theorem jzV:rootM dwQ≠rootM twP:=by unfold rootM;decide +kernel
theorem jzT:jbh ⟨#[97]⟩ ⟨#[98]⟩=true:=by decide +kernel
theorem jqs:jbh ⟨#[98]⟩ ⟨#[98]⟩=false:=by decide +kernel
theorem jBw:jbh ⟨#[98]⟩ ⟨#[97]⟩=false:=by decide +kernel
theorem jzU:jbh ⟨#[97]⟩ ⟨#[97]⟩=false:=by decide +kernel
theorem jxE:((⟨#[50]⟩:vB).toList ==(⟨#[50]⟩:vB).toList)=true:=by decide +kernel
theorem jBz:((⟨#[49]⟩:vB).toList ==(⟨#[49]⟩:vB).toList)=true:=by decide +kernel
theorem jBs:jcf twP dwQ=dwC:=by
 unfold jcf;rw[if_pos ⟨tw_p,dw_q⟩];unfold twP dwQ dwC;rw[ja2,if_pos jzT,ja2,if_neg (by rw[jqs];simp),if_neg (by rw[jqs];simp),if_pos jxE];simp[ja2]
theorem jBt:jcf dwQ twP=[⟨⟨#[97]⟩,⟨#[49]⟩,false⟩,⟨⟨#[99]⟩,⟨#[]⟩,true⟩]:=by
 unfold jcf;rw[if_pos ⟨dw_q,tw_p⟩];unfold twP dwQ;rw[ja2,if_neg (by rw[jBw];simp),if_pos jzT,ja2,if_neg (by rw[jqs];simp),if_neg (by rw[jqs];simp),if_pos jxE];simp[ja2]
theorem jBu:jcf twP twP=[]:=by
 unfold jcf;rw[if_pos ⟨tw_p,tw_p⟩];unfold twP;rw[ja2,if_neg (by rw[jzU];simp),if_neg (by rw[jzU];simp),if_pos jBz,ja2,if_neg (by rw[jqs];simp),if_neg (by rw[jqs];simp),if_pos jxE];simp[ja2]
theorem jfE{l:vL}{t:vB}:t∈jax (jaF l)↔t∈ja5 l:=(jaX _ _).symm
theorem dw_f{B:vM}(h:jzl twP dwQ B):B=[rootM dwQ]:=by
 have e:∀ k,k∈B↔k=rootM dwQ:=fun k=>by
  rw[h.2];constructor
  ·rintro⟨⟨t,o,rfl⟩,_⟩
   rw[jfE,dw_t]at o;rw[bZ.1 o];rfl
  ·rintro rfl
   refine⟨⟨_,jbX _,rfl⟩,?_⟩
   rintro⟨t,o,e⟩
   rw[jfE,jyP]at o;rw[bZ.1 o]at e;exact jzV e
 have z:=h.1
 match B,z,e with
 | [],_,e=>exact absurd ((e (rootM dwQ)).2 rfl) cN
 | [x],_,e=>rw[(e x).1 bH]
 | x :: y :: r,z,e =>
  have A:=(e x).1 bH;have E:=(e y).1 (bE _ bH);rw[dV]at z;exact absurd (by rw[A, <-E];exact bH:x∈y :: r) z.1
theorem dw_s:baL (jdD ([rootM dwQ].map fun h=>h.data.toList))=[rootM dwQ]:=by
 unfold baL jdD
 simp
theorem jsd:∀ c∈dwC,c.key.size<=9223372036854775807/\c.value.size<=9223372036854775807:=by unfold dwC;simp;decide
theorem jzW:jb7 twP:=fun p e=>by have:=(jaA tw_p).size p e;omega
def jfr(c:Chg):Bool:=decide (c.key.size<=20) && decide (c.value.size<=100)
def fewC(l:List Chg):Bool:=l.all jfr && decide (l.length<=45)
def jy7(w:vW)(l:List Chg)(i:vV)(wr:vW):Prop:=∃ k:Nat,k<=l.length/\k<=46/\i=.int .i64 k/\Ext w wr/\(l.take k).all jfr=true
theorem jrs{l:List Chg}{k:Nat}{p:Chg}(h:l[k]?=some p):(l.take (k+1)).all jfr=((l.take k).all jfr && jfr p):=by
 rw[bY,h,jB];simp
theorem joq{l:List Chg}{k:Nat}{p:Chg}(h:l[k]?=some p)(hb:jfr p=false):fewC l=false:=by
 unfold fewC
 have:l.all jfr=false:=by
  rw[fP];intro e
  have:=fB.1 e p (bI h)
  rw[hb]at this;cases this
 rw[this];rfl
theorem jwQ(w:vW)(v:vV)(l:List Chg)(hv:RdC w v l)(hn:l.length<=9223372036854775807)(hs:∀ p∈l,p.key.size<=9223372036854775807/\p.value.size<=9223372036854775807) :
  vR 8 #[v] w (.bool (fewC l)):=by
 have HV:=Hd hv;have HS:=Hd hs
 obtain⟨a,c,rfl⟩:=hv.sl;clear hv hs
 obtain⟨R,O⟩:=vE (fewC l)
 rw[<-O];have J:=Hd O;clear O;go_enter Tryz.func8,Tryz.ntmps8;go_wp2_with fail
 go_loopw [3] (fun i wr=>jy7 w l i wr) (fun i _=>l.length - (intOf i).toNat)
 case atStart=>exact⟨0,by omega,by omega,rfl,ExtR w,rfl⟩
 case round =>
  obtain⟨k,hk,a1,rfl,hE,e⟩:=hrel
  have z:=Hd hE;have E:=Hd e;clear hE e
  by_cases hlt:k < l.length
  ·have b1:(k:Int) < (l.length:Int):=vO
   by_cases h45:k<=45
   ·have Q:(k:Int)<=45:=vO
    obtain⟨p,K⟩:∃ p,l[k]?=some p:=⟨_,bA hlt⟩
    rcases HV.o with⟨_,_,_,h0⟩ |⟨b,o,c1,hh,hb,hc,hcell⟩
    ·rw[h0]at hlt;cases hlt
    cases hh
    obtain⟨X,Z,q3⟩:=hcell k p K
    have X:=jaa X z.o;have Z:=jaa Z z.o;have q3:=jaa q3 z.o;have a0:=HS.o p (bI K);have HP:=Hd K
    obtain⟨x,y,gn⟩:=p
    simp only at X Z q3 a0;clear hcell hb hc K
    by_cases hx:20 < x.size
    ·have b3:(20:Int) < (x.size:Int):=vO
     have A:=Hd (show R=false by rw[J.o];exact joq HP.o (by unfold jfr;simp;omega));clear hx;go_wp2_with fail
     go_ret
     exact⟨by rw[A.o];rfl,z.o⟩
    ·have b3:¬(20:Int) < (x.size:Int):=vO
     by_cases hy:100 < y.size
     ·have b4:(100:Int) < (y.size:Int):=vO
      have A:=Hd (show R=false by rw[J.o];exact joq HP.o (by unfold jfr;simp;omega));clear hx hy;go_wp2_with fail
      go_ret
      exact⟨by rw[A.o];rfl,z.o⟩
     ·have b4:¬(100:Int) < (y.size:Int):=vO
      have HG:=Hd (show (l.take (k+1)).all jfr=true by rw[jrs HP.o,E.o];unfold jfr;simp;omega);clear hx hy;go_wp2_with fail
      go_roundw
      case rel=>exact⟨k+1,by omega,by omega,by go_num,z.o,HG.o⟩
      case measure=>exact vJ
   ·have Q:¬(k:Int)<=45:=vO
    have b3:¬(l.length:Int)<=45:=vO
    have A:=Hd (show R=false by rw[J.o];unfold fewC;simp;omega);clear h45;go_wp2_with fail
    go_ret
    exact⟨by rw[A.o];rfl,z.o⟩
  ·have H:k=l.length:=vO
   have b1:¬(k:Int) < (l.length:Int):=vO
   have e:=E.o;rw[H,cJ]at e
   by_cases h45:l.length<=45
   ·have Q:(l.length:Int)<=45:=vO
    have A:=Hd (show R=true by rw[J.o];unfold fewC;rw[e];simp;omega);clear H e h45;go_wp2_with fail
    go_ret
    exact⟨by rw[A.o];rfl,z.o⟩
   ·have Q:¬(l.length:Int)<=45:=vO
    have A:=Hd (show R=false by rw[J.o];unfold fewC;simp;omega);clear H e h45;go_wp2_with fail
    go_ret
    exact⟨by rw[A.o];rfl,z.o⟩
def joo(l:List Chg):Prop:=∀ p∈l,p.key.size<=9223372036854775807/\p.value.size<=9223372036854775807
theorem jiL:∀ (i:Nat) (a b:vN),a.take i=b.take i->i<=a.length->i<=b.length->Op.bytesLess a b=Op.bytesLess (a.drop i) (b.drop i)
 | 0,_,_,_,_,_=>rfl
 | i+1,[],_,_,h,_=>by simp at h
 | i+1,_ :: _,[],_,_,h=>by simp at h
 | i+1,x :: a,y :: b,h,h1,h2=>by
  simp only[dZ,List.cons.injEq]at h
  obtain⟨rfl,h⟩:=h
  rw[Op.bytesLess,iN,iN, <-jiL i a b h (by simpa using h1) (by simpa using h2)]
  simp
theorem jxZ{i:Nat}{a b:vN}{x y:vU}(h:a.take i=b.take i)(hx:a[i]?=some x)(hy:b[i]?=some y)(hne:x≠y):Op.bytesLess a b=decide (x < y):=by
 obtain⟨e,o⟩:=bP.1 hx
 obtain⟨z,A⟩:=bP.1 hy
 rw[jiL i a b h vO vO,fY e,fY z,o,A,Op.bytesLess]
 by_cases hl:x < y
 ·simp[hl]
 ·simp[hl,hne]
theorem jpb{i:Nat}{a b:vN}(h:a.take i=b.take i)(h1:i<=a.length)(h2:i<=b.length)(he:i=a.length\/i=b.length):Op.bytesLess a b=decide (a.length < b.length):=by
 rw[jiL i a b h h1 h2];rcases he with he | he
 ·rw[he,gH]
  cases hb:b.drop a.length with
  | nil =>
   have:=congrArg List.length hb
   rw[gG,cF]at this;simp[Op.bytesLess];omega
  | cons y r =>
   have:=congrArg List.length hb
   rw[gG,bF]at this;simp[Op.bytesLess];omega
 ·rw[he,gH]
  cases ha:a.drop b.length with
  | nil =>
   have:=congrArg List.length ha
   rw[gG,cF]at this;simp[Op.bytesLess];omega
  | cons y r =>
   have:=congrArg List.length ha
   rw[gG,bF]at this;simp[Op.bytesLess];omega
def jAS(w:vW)(a b:vB)(iv:vV)(wr:vW):Prop:=∃ i:Nat,i<=a.size/\i<=b.size/\iv=.int .i64 i/\Ext w wr/\a.data.toList.take i=b.data.toList.take i
theorem jnh(w:vW)(a b:vB)(ha:a.size<=9223372036854775807)(hb:b.size<=9223372036854775807):vR 68 #[.string a,.string b] w (.bool (jbh a b)):=by
 obtain⟨R,X⟩:=vE (jbh a b)
 have Z:=Hd (show R=Op.bytesLess a.data.toList b.data.toList by rw[X];unfold jbh;rw[bO,bO]);rw[<-X];clear X;unfold vR vQ;go_in;go_wp2_with fail
 go_loopw [5] (fun iv wr=>jAS w a b iv wr) (fun iv _=>a.size - (intOf iv).toNat)
 case atStart=>exact⟨0,by omega,by omega,rfl,ExtR w,rfl⟩
 case round =>
  obtain⟨i,a4,a5,rfl,hE,Q⟩:=hrel
  have O:=Hd hE;have E:=Hd Q;clear hE Q;have a0:a.data.toList.length=a.size:=rfl;have a1:b.data.toList.length=b.size:=rfl
  by_cases h1:i < a.size
  ·have b1:(i:Int) < (a.size:Int):=vO
   by_cases h2:i < b.size
   ·have b2:(i:Int) < (b.size:Int):=vO
    obtain⟨x,hx⟩:=vE (a[i])
    obtain⟨y,hy⟩:=vE (b[i])
    have HX:=Hd (show a.data.toList[i]?=some x by rw[hx,bA vO];rfl);have HY:=Hd (show b.data.toList[i]?=some y by rw[hy,bA vO];rfl);have a6:a[i].toNat=x.toNat:=by rw[hx]
    have a7:b[i].toNat=y.toNat:=by rw[hy]
    clear a0 a1
    by_cases hxy:x=y
    ·have hn:((x.toNat:Int) !=(y.toNat:Int))=false:=by rw[hxy];simp
     have a2:=Hd (show a.data.toList.take (i+1)=b.data.toList.take (i+1) by rw[bY,bY,HX.o,HY.o,E.o,hxy]);clear hxy;go_wp2_with fail
     refine jag [0,1,2,3,4,5,6] Ext ExtR ExtT vY vY vY ?_;iterate 7 refine vK ?_
     refine qKE (fun w3 J=>?_);have z:=Hd (O.o.trans ((jah _).trans J));clear J;go_wp2_with fail
     go_roundw
     case rel=>exact⟨i+1,by omega,by omega,by go_num,z.o,a2.o⟩
     case measure=>exact vJ
    ·have hn:((x.toNat:Int) !=(y.toNat:Int))=true:=by
      simp only[bne_iff_ne,ne_eq];intro e;exact hxy (dP.1 vO)
     have K:=Hd (show R=decide (x < y) by rw[Z.o];exact jxZ E.o HX.o HY.o hxy)
     by_cases hl:x < y
     ·have a3:(x.toNat:Int) < (y.toNat:Int):=by have:=dD.1 hl;omega
      have H:=Hd (show R=true by rw[K.o];exact decide_eq_true hl);clear hl hxy;go_wp2_with fail
      refine jag [0,1,2,3,4,5,6] Ext ExtR ExtT vY vY vY ?_;iterate 7 refine vK ?_
      refine qKE (fun w3 J=>?_);go_wp2_with fail
      refine jag [0,1,2,3,4,5,6,7] Ext ExtR ExtT vY vY vY ?_;iterate 8 refine vK ?_
      refine qKE (fun w4 A=>?_);have z:=Hd ((O.o.trans ((jah _).trans J)).trans ((jah _).trans A));clear J A;go_wp2_with fail
      go_ret
      exact⟨by rw[H.o];rfl,z.o⟩
     ·have a3:¬(x.toNat:Int) < (y.toNat:Int):=by
       intro e;exact hl (dD.2 vO)
      have H:=Hd (show R=decide (x.toNat < y.toNat) by rw[K.o,decide_eq_false hl,decide_eq_false (fun e=>hl (dD.2 e))]);clear hl hxy;go_wp2_with fail
      refine jag [0,1,2,3,4,5,6] Ext ExtR ExtT vY vY vY ?_;iterate 7 refine vK ?_
      refine qKE (fun w3 J=>?_);go_wp2_with fail
      refine jag [0,1,2,3,4,5,6,7] Ext ExtR ExtT vY vY vY ?_;iterate 8 refine vK ?_
      refine qKE (fun w4 A=>?_);have z:=Hd ((O.o.trans ((jah _).trans J)).trans ((jah _).trans A));clear J A;go_wp2_with fail
      go_ret
      exact⟨by rw[H.o];rfl,z.o⟩
   ·have b2:¬(i:Int) < (b.size:Int):=vO
    have K:=Hd (show R=decide (a.size < b.size) by rw[Z.o];exact jpb E.o vO vO (.inr vO));have b3:¬(a.size:Int) < (b.size:Int):=vO
    have H:=Hd (show R=false by rw[K.o];exact decide_eq_false vO);go_wp2_with fail
    go_ret
    exact⟨by rw[H.o];rfl,O.o⟩
  ·have b1:¬(i:Int) < (a.size:Int):=vO
   have K:=Hd (show R=decide (a.size < b.size) by rw[Z.o];exact jpb E.o vO vO (.inl vO))
   by_cases hl:a.size < b.size
   ·have b3:(a.size:Int) < (b.size:Int):=vO
    have H:=Hd (show R=true by rw[K.o];exact decide_eq_true hl);clear hl;go_wp2_with fail
    go_ret
    exact⟨by rw[H.o];rfl,O.o⟩
   ·have b3:¬(a.size:Int) < (b.size:Int):=vO
    have H:=Hd (show R=false by rw[K.o];exact decide_eq_false hl);clear hl;go_wp2_with fail
    go_ret
    exact⟨by rw[H.o];rfl,O.o⟩
theorem jwZ(w:vW)(k:vB)(hs:k.size<=9223372036854775807):vR 104 #[.string k] w (.bool (jcj k)):=by
 by_cases h0:1<=k.size
 ·have e:(1:Int)<=(k.size:Int):=vO
  by_cases h6:k.size<=6
  ·have c:(k.size:Int)<=6:=vO
   have E:=Hd (show jcj k=true by unfold jcj;simp;omega);unfold vR vQ;go_in;go_wp2_with fail
   go_ret
   exact⟨by rw[E.o];rfl,ExtR w⟩
  ·have c:¬(k.size:Int)<=6:=vO
   have E:=Hd (show jcj k=false by unfold jcj;simp;omega);unfold vR vQ;go_in;go_wp2_with fail
   go_ret
   exact⟨by rw[E.o];rfl,ExtR w⟩
 ·have e:¬(1:Int)<=(k.size:Int):=vO
  have E:=Hd (show jcj k=false by unfold jcj;simp;omega);unfold vR vQ;go_in;go_wp2_with fail
  go_ret
  exact⟨by rw[E.o];rfl,ExtR w⟩
theorem jpN(w:vW)(k:vB)(hs:k.size<=9223372036854775807):vR 105 #[.string k] w (.bool (jbS k)):=by
 by_cases h0:1<=k.size
 ·have e:(1:Int)<=(k.size:Int):=vO
  by_cases h6:k.size<=80
  ·have c:(k.size:Int)<=80:=vO
   have E:=Hd (show jbS k=true by unfold jbS;simp;omega);unfold vR vQ;go_in;go_wp2_with fail
   go_ret
   exact⟨by rw[E.o];rfl,ExtR w⟩
  ·have c:¬(k.size:Int)<=80:=vO
   have E:=Hd (show jbS k=false by unfold jbS;simp;omega);unfold vR vQ;go_in;go_wp2_with fail
   go_ret
   exact⟨by rw[E.o];rfl,ExtR w⟩
 ·have e:¬(1:Int)<=(k.size:Int):=vO
  have E:=Hd (show jbS k=false by unfold jbS;simp;omega);unfold vR vQ;go_in;go_wp2_with fail
  go_ret
  exact⟨by rw[E.o];rfl,ExtR w⟩
def jBb(w:vW)(l:vL)(i:vV)(wr:vW):Prop:=∃ k:Nat,k<=l.length/\i=.int .i64 k/\Ext w wr/\(List.range k).any (badN l)=false
theorem jk3(w:vW)(v:vV)(l:vL)(hv:RdP w v l)(hn:l.length<=9223372036854775807)(hs:jb7 l):vR 65 #[v] w (.int .i64 (jaw l)):=by
 have HV:=Hd hv;have HS:=Hd hs
 obtain⟨a,c,rfl⟩:=hv.sl;clear hv hs
 obtain⟨R,hR⟩:=vE (jaw l)
 rw[<-hR];have HR:=Hd hR;clear hR;unfold vR vQ;go_in;go_wp2_with fail
 go_loopw [3] (fun i wr=>jBb w l i wr) (fun i _=>l.length - (intOf i).toNat)
 case atStart=>exact⟨0,by omega,rfl,ExtR w,rfl⟩
 case round =>
  obtain⟨k,hk,rfl,hE,a2⟩:=hrel
  have HE:=Hd hE;have a3:=Hd a2;clear hE a2
  by_cases hlt:k < l.length
  ·have b1:(k:Int) < (l.length:Int):=vO
   rcases HV.o with⟨_,_,_,h0⟩ |⟨b,o,c1,hh,hb,hc,hcell⟩
   ·rw[h0]at hlt;cases hlt
   cases hh
   obtain⟨p,hp⟩:∃ p,l[k]?=some p:=⟨_,bA hlt⟩
   obtain⟨J,X⟩:=hcell k p hp
   have J:=jaa J HE.o;have X:=jaa X HE.o;have E:=HS.o p (bI hp);have A:l.getD k (⟨#[]⟩,⟨#[]⟩)=p:=by rw[bG,hp];rfl
   obtain⟨x,y⟩:=p
   simp only at J X E;have K:=Hd (fun w1=>jwZ w1 x E.1);have Q:=Hd (fun w1=>jpN w1 y E.2);have Z:=Hd (fun(h:badN l k=true)=>(show R=1 by
    rw[HR.o];unfold jaw;rw[if_pos (fO.2 ⟨k,dW.2 hlt,h⟩)]))
   have a9:=Hd (fun(h:badN l k=false)=>(show (List.range (k+1)).any (badN l)=false by rw[fS,List.any_append,a3.o];simp[h]));cases hk1:jcj x with
   | false =>
    rw[hk1]at K;have HB:=Hd (Z.o (by unfold badN;rw[A,hk1];rfl));clear hcell hp hb hc hk1 A E;go_wp2_with fail
    refine jag [0,1,2,3,4,5,6,7,8,9,10,11,12,13,14,15,16,17,18,19,20,21,22,23,24,25,26,27,28,29,30,31,32,33,34] Ext ExtR ExtT vY vY vY ?_;iterate 4 refine vK ?_
    refine qKL ⟨b,o+k * 2,none⟩ _ rfl (fun w1 e=>jab Tryz.uStr rfl (jaa J ((jah _).trans e))) ?_;refine vS ?_;refine qKC _ 104 #[.string x] (.bool false) rfl (fun w1=>jaq (vX 104) vY) (fun w1 e=>K.o w1) ?_;refine vS ?_;iterate 2 refine vK ?_
    iterate 7 (refine qKS _ rfl ?_;refine vS ?_)
    iterate 2 refine vK ?_
    iterate 17 (refine qKS _ rfl ?_;refine vS ?_)
    refine vK ?_
    refine qKE (fun w3 O=>?_);have H:=Hd (HE.o.trans ((jah _).trans O));clear O J X;go_wp2_with fail
    go_ret
    exact⟨by rw[HB.o];rfl,H.o⟩
   | true =>
    rw[hk1]at K;cases hv1:jbS y with
    | false =>
     rw[hv1]at Q;have HB:=Hd (Z.o (by unfold badN;rw[A,hk1,hv1];rfl));clear hcell hp hb hc hk1 hv1 A E;go_wp2_with fail
     refine jag [0,1,2,3,4,5,6,7,8,9,10,11,12,13,14,15,16,17,18,19,20,21,22,23,24,25,26,27,28,29,30,31,32,33,34] Ext ExtR ExtT vY vY vY ?_;iterate 4 refine vK ?_
     refine qKL ⟨b,o+k * 2,none⟩ _ rfl (fun w1 e=>jab Tryz.uStr rfl (jaa J ((jah _).trans e))) ?_;refine vS ?_;refine qKC _ 104 #[.string x] (.bool true) rfl (fun w1=>jaq (vX 104) vY) (fun w1 e=>K.o w1) ?_;refine vS ?_;iterate 6 refine vK ?_
     refine qKL ⟨b,o+k * 2+1,none⟩ _ rfl (fun w1 e=>jab Tryz.uStr rfl (jaa X ((jah _).trans e))) ?_;refine vS ?_;refine qKC _ 105 #[.string y] (.bool false) rfl (fun w1=>jaq (vX 105) vY) (fun w1 e=>Q.o w1) ?_;refine vS ?_;iterate 3 refine vK ?_
     iterate 17 (refine qKS _ rfl ?_;refine vS ?_)
     refine vK ?_
     refine qKE (fun w3 O=>?_);have H:=Hd (HE.o.trans ((jah _).trans O));clear O J X;go_wp2_with fail
     go_ret
     exact⟨by rw[HB.o];rfl,H.o⟩
    | true =>
     rw[hv1]at Q
     by_cases hk0:k=0
     ·have d0:¬(0:Int) < (k:Int):=vO
      have d1:decide ((0:Int) < (k:Int))=false:=decide_eq_false d0;have d2:¬ 0 < k:=vO
      have d3:decide (0 < k)=false:=decide_eq_false d2;have a7:=Hd (a9.o (by unfold badN;rw[A,hk1,hv1,hk0];rfl));clear hcell hp hb hc hk1 hv1 A E hk0;go_wp2_with fail
      refine jag [0,1,2,3,4,5,6,7,8,9,10,11,12,13,14,15,16,17,18,19,20,21,22,23,24,25,26,27,28,29,30,31,32,33,34] Ext ExtR ExtT vY vY vY ?_;iterate 4 refine vK ?_
      refine qKL ⟨b,o+k * 2,none⟩ _ rfl (fun w1 e=>jab Tryz.uStr rfl (jaa J ((jah _).trans e))) ?_;refine vS ?_;refine qKC _ 104 #[.string x] (.bool true) rfl (fun w1=>jaq (vX 104) vY) (fun w1 e=>K.o w1) ?_;refine vS ?_;iterate 6 refine vK ?_
      refine qKL ⟨b,o+k * 2+1,none⟩ _ rfl (fun w1 e=>jab Tryz.uStr rfl (jaa X ((jah _).trans e))) ?_;refine vS ?_;refine qKC _ 105 #[.string y] (.bool true) rfl (fun w1=>jaq (vX 105) vY) (fun w1 e=>Q.o w1) ?_;refine vS ?_;iterate 6 refine vK ?_
      iterate 13 (refine qKS _ rfl ?_;refine vS ?_)
      iterate 2 refine vK ?_
      refine qKE (fun w3 O=>?_);have H:=Hd (HE.o.trans ((jah _).trans O));clear O J X;go_wp2_with fail
      go_roundw
      case rel=>exact⟨k+1,by omega,by go_num,H.o,a7.o⟩
      case measure=>exact vJ
     ·obtain⟨pp,a1⟩:∃ p,l[k - 1]?=some p:=⟨_,bA vO⟩
      have a4:=(HS.o pp (bI a1)).1
      obtain⟨z,zy⟩:=pp
      have qp:=jaa (hcell (k - 1) (z,zy) a1).1 HE.o;have a5:l.getD (k - 1) (⟨#[]⟩,⟨#[]⟩)=(z,zy):=by rw[bG,a1];rfl
      simp only at a4 qp;have c0:(0:Int) < (k:Int):=vO
      have d0:0 < k:=vO
      have c1:(0:Int)<=(k:Int) - 1:=vO
      have c2:(k:Int) - 1 < (l.length:Int):=vO
      have c3:((k:Int) - 1).toNat=k - 1:=vO
      have a6:=Hd (fun w1=>jnh w1 z x a4 E.1);cases hls:jbh z x with
      | false =>
       rw[hls]at a6;have HB:=Hd (Z.o (by unfold badN;rw[A,hk1,hv1,a5];simp only;rw[hls];simp;omega));clear hcell hp hb hc hk1 hv1 A E a1 a5 hls hk0 a4;go_wp2_with fail
       refine jag [0,1,2,3,4,5,6,7,8,9,10,11,12,13,14,15,16,17,18,19,20,21,22,23,24,25,26,27,28,29,30,31,32,33,34] Ext ExtR ExtT vY vY vY ?_;iterate 4 refine vK ?_
       refine qKL ⟨b,o+k * 2,none⟩ _ rfl (fun w1 e=>jab Tryz.uStr rfl (jaa J ((jah _).trans e))) ?_;refine vS ?_;refine qKC _ 104 #[.string x] (.bool true) rfl (fun w1=>jaq (vX 104) vY) (fun w1 e=>K.o w1) ?_;refine vS ?_;iterate 6 refine vK ?_
       refine qKL ⟨b,o+k * 2+1,none⟩ _ rfl (fun w1 e=>jab Tryz.uStr rfl (jaa X ((jah _).trans e))) ?_;refine vS ?_;refine qKC _ 105 #[.string y] (.bool true) rfl (fun w1=>jaq (vX 105) vY) (fun w1 e=>Q.o w1) ?_;refine vS ?_;iterate 11 refine vK ?_
       refine qKL ⟨b,o+(k - 1) * 2,none⟩ _ rfl (fun w1 e=>jab Tryz.uStr rfl (jaa qp ((jah _).trans e))) ?_;refine vS ?_;iterate 4 refine vK ?_
       refine qKL ⟨b,o+k * 2,none⟩ _ rfl (fun w1 e=>jab Tryz.uStr rfl (jaa J ((jah _).trans e))) ?_;refine vS ?_;refine qKC _ 68 #[.string z,.string x] (.bool false) rfl (fun w1=>jaq (vX 68) vY) (fun w1 e=>a6.o w1) ?_;refine vS ?_;iterate 3 refine vK ?_
       refine qKE (fun w3 O=>?_);have H:=Hd (HE.o.trans ((jah _).trans O));clear O J X qp;go_wp2_with fail
       go_ret
       exact⟨by rw[HB.o];rfl,H.o⟩
      | true =>
       rw[hls]at a6;have a7:=Hd (a9.o (by unfold badN;rw[A,hk1,hv1,a5];simp only;rw[hls];simp));clear hcell hp hb hc hk1 hv1 A E a1 a5 hls hk0 a4;go_wp2_with fail
       refine jag [0,1,2,3,4,5,6,7,8,9,10,11,12,13,14,15,16,17,18,19,20,21,22,23,24,25,26,27,28,29,30,31,32,33,34] Ext ExtR ExtT vY vY vY ?_;iterate 4 refine vK ?_
       refine qKL ⟨b,o+k * 2,none⟩ _ rfl (fun w1 e=>jab Tryz.uStr rfl (jaa J ((jah _).trans e))) ?_;refine vS ?_;refine qKC _ 104 #[.string x] (.bool true) rfl (fun w1=>jaq (vX 104) vY) (fun w1 e=>K.o w1) ?_;refine vS ?_;iterate 6 refine vK ?_
       refine qKL ⟨b,o+k * 2+1,none⟩ _ rfl (fun w1 e=>jab Tryz.uStr rfl (jaa X ((jah _).trans e))) ?_;refine vS ?_;refine qKC _ 105 #[.string y] (.bool true) rfl (fun w1=>jaq (vX 105) vY) (fun w1 e=>Q.o w1) ?_;refine vS ?_;iterate 11 refine vK ?_
       refine qKL ⟨b,o+(k - 1) * 2,none⟩ _ rfl (fun w1 e=>jab Tryz.uStr rfl (jaa qp ((jah _).trans e))) ?_;refine vS ?_;iterate 4 refine vK ?_
       refine qKL ⟨b,o+k * 2,none⟩ _ rfl (fun w1 e=>jab Tryz.uStr rfl (jaa J ((jah _).trans e))) ?_;refine vS ?_;refine qKC _ 68 #[.string z,.string x] (.bool true) rfl (fun w1=>jaq (vX 68) vY) (fun w1 e=>a6.o w1) ?_;refine vS ?_;iterate 3 refine vK ?_
       refine qKE (fun w3 O=>?_);have H:=Hd (HE.o.trans ((jah _).trans O));clear O J X qp;go_wp2_with fail
       go_roundw
       case rel=>exact⟨k+1,by omega,by go_num,H.o,a7.o⟩
       case measure=>exact vJ
  ·have a8:k=l.length:=vO
   have a0:=Hd (show (List.range l.length).any (badN l)=false by have:=a3.o;rwa [a8]at this);have b1:¬(k:Int) < (l.length:Int):=vO
   by_cases h40:40 < l.length
   ·have c4:(40:Int) < (l.length:Int):=vO
    have HB:=Hd (show R=12 by rw[HR.o];unfold jaw;rw[if_neg (by rw[a0.o];simp),if_pos h40]);clear a8 h40;go_wp2_with fail
    go_ret
    exact⟨by rw[HB.o];rfl,HE.o⟩
   ·have c4:¬(40:Int) < (l.length:Int):=vO
    have HB:=Hd (show R=0 by rw[HR.o];unfold jaw;rw[if_neg (by rw[a0.o];simp),if_neg h40]);clear a8 h40;go_wp2_with fail
    go_ret
    exact⟨by rw[HB.o];rfl,HE.o⟩
def jBd(w:vW)(cs:List Chg)(i:vV)(wr:vW):Prop:=∃ k:Nat,k<=cs.length/\i=.int .i64 k/\Ext w wr/\(cs.take k).any Chg.bad=false
theorem jyy(w:vW)(v:vV)(cs:List Chg)(hu:RdC w v cs)(hn:cs.length<=9223372036854775807)(hsc:joo cs):vR 66 #[v] w (.bool (!cs.any Chg.bad)):=by
 have HU:=Hd hu;have a6:=Hd hsc
 obtain⟨a,c,rfl⟩:=hu.sl;clear hu hsc
 obtain⟨R,hR⟩:∃ R,R = !cs.any Chg.bad:=⟨_,rfl⟩
 rw[<-hR];have HR:=Hd hR;clear hR;unfold vR vQ;go_in;go_wp2_with fail
 go_loopw [3] (fun i wr=>jBd w cs i wr) (fun i _=>cs.length - (intOf i).toNat)
 case atStart=>exact⟨0,by omega,rfl,ExtR w,rfl⟩
 case round =>
  obtain⟨k,hk,rfl,K,A⟩:=hrel
  have Q:=Hd K;have E:=Hd A;clear K A
  by_cases hlt:k < cs.length
  ·have b1:(k:Int) < (cs.length:Int):=vO
   rcases HU.o with⟨_,_,_,h0⟩ |⟨b,o,c1,hh,hb,hc,hcell⟩
   ·rw[h0]at hlt;cases hlt
   cases hh
   obtain⟨p,hp⟩:∃ p,cs[k]?=some p:=⟨_,bA hlt⟩
   obtain⟨X,Z,q3⟩:=hcell k p hp
   have H:=a6.o p (bI hp);have HP:=Hd hp;have a0:=Hd X;have a1:=Hd Z;have a2:=Hd q3;have X:=jaa X Q.o;have Z:=jaa Z Q.o;have q3:=jaa q3 Q.o
   obtain⟨ky,O,gn⟩:=p
   simp only at X Z q3 H a0 a1 a2;have z:=Hd (fun(h:Chg.bad ⟨ky,O,gn⟩=true)=>(show R=false by rw[HR.o,jrz HP.o h];rfl));have a3:=Hd (fun(h:Chg.bad ⟨ky,O,gn⟩=false)=>(show (cs.take (k+1)).any Chg.bad=false by rw[jos HP.o,E.o,h];rfl));clear hcell hp hb hc;go_wp2_with fail
   refine vH (jwZ wr ky H.1) fun w3 K=>?_;have e:=Hd (Q.o.trans K);have X:=jaa a0.o e.o;have Z:=jaa a1.o e.o;have q3:=jaa a2.o e.o;cases hky:jcj ky with
   | false =>
    have J:=Hd (z.o (by unfold Chg.bad;simp[hky]));clear hky;go_wp2_with fail
    go_ret
    exact⟨by rw[J.o];rfl,e.o⟩
   | true =>
    cases gn with
    | true =>
     by_cases hz:O.size=0
     ·have:=jbq hz
      subst this;have HG:=Hd (a3.o (by unfold Chg.bad;simp[hky];rfl));clear hky hz;go_wp2_with fail
      go_roundw
      case rel=>exact⟨k+1,by omega,by go_num,e.o,HG.o⟩
      case measure=>exact vJ
     ·have a7:=jbe (s:=O) vO
      have J:=Hd (z.o (by unfold Chg.bad;simp[hky,hz]));clear hky hz;go_wp2_with fail
      go_ret
      exact⟨by rw[J.o];rfl,e.o⟩
    | false =>
     go_wp2_with fail
     refine vH (jpN w3 O H.2) fun w4 K=>?_;have a4:=Hd (e.o.trans K);cases hvl:jbS O with
     | true =>
      have HG:=Hd (a3.o (by unfold Chg.bad;simp[hky,hvl]));clear hky hvl;go_wp2_with fail
      go_roundw
      case rel=>exact⟨k+1,by omega,by go_num,a4.o,HG.o⟩
      case measure=>exact vJ
     | false =>
      have J:=Hd (z.o (by unfold Chg.bad;simp[hky,hvl]));clear hky hvl;go_wp2_with fail
      go_ret
      exact⟨by rw[J.o];rfl,a4.o⟩
  ·have a5:k=cs.length:=vO
   have b1:¬(k:Int) < (cs.length:Int):=vO
   have J:=Hd (show R=true by have h:=E.o;rw[a5,cJ]at h;rw[HR.o,h];rfl);clear a5;go_wp2_with fail
   go_ret
   exact⟨by rw[J.o];rfl,Q.o⟩
def jfX(c:Chg)(s:vL × Bool)(e:Pair):vL × Bool:=
 let put := !s.2 && !jbh e.1 c.key
 ((if put then s.1++[(c.key,c.value)]else s.1)++(if (e.1.toList == c.key.toList)then []else [e]),s.2 || put)
def runO(c:Chg)(l:vL):vL × Bool:=l.foldl (jfX c) ([],c.gone)
def oneL(l:vL)(c:Chg):vL:=if (runO c l).2 then (runO c l).1 else (runO c l).1++[(c.key,c.value)]
def insO(c:Chg):Bool->vL->vL
 | p,[]=>if p then []else [(c.key,c.value)]
 | p,e :: r=>(if !p && !jbh e.1 c.key then [(c.key,c.value)]else [])++(if (e.1.toList == c.key.toList)then []else [e])++insO c (p ||(!p && !jbh e.1 c.key)) r
theorem jtW(c:Chg):∀ (l:vL) (o:vL) (p:Bool),(let s:=l.foldl (jfX c) (o,p);if s.2 then s.1 else s.1++[(c.key,c.value)])=o++insO c p l
 | [],o,p=>by cases p <;> simp[insO]
 | e :: r,o,p=>by
  have z:∀ s:vL × Bool,(let s:=r.foldl (jfX c) s;if s.2 then s.1 else s.1++[(c.key,c.value)])=s.1++insO c s.2 r:=fun s=>by
   obtain⟨x,y⟩:=s;exact jtW c r x y
  refine (z (jfX c (o,p) e)).trans ?_;rw[insO];unfold jfX;simp only;cases h1:(!p && !jbh e.1 c.key) <;> cases h2:(e.1.toList == c.key.toList) <;> simp
theorem jnV(l:vL)(c:Chg):oneL l c=insO c c.gone l:=by
 have:=jtW c l [] c.gone
 rw[cP]at this;exact this
theorem keq(e:Pair)(c:Chg):(e.1.toList == c.key.toList)=decide (e.k=c.k):=by
 rw[bO,bO]
 by_cases h:e.k=c.k
 ·rw[decide_eq_true h];simpa using h
 ·rw[decide_eq_false h,fP];intro o;exact h (eq_of_beq o)
theorem jkH(c:Chg):∀ l:vL,insO c true l=l.filter fun e => !decide (e.k=c.k)
 | []=>rfl
 | e :: r=>by
  have o:insO c true (e :: r)=(if (e.1.toList == c.key.toList)then []else [e])++insO c true r:=by rw[insO];simp
  rw[o,keq,jkH c r,dH]
  by_cases h:e.k=c.k <;> simp[h]
theorem jeR(c:Chg)(k:vN):∀ l:vL,look (l.filter fun e => !decide (e.k=c.k)) k=if k=c.k then none else look l k
 | []=>by rw[List.filter_nil,jgH];simp
 | e :: r=>by
  rw[dH]
  by_cases h:e.k=c.k
  ·rw[if_neg (by simp[h]),jeR c k r,jaO]
   by_cases hk:k=c.k
   ·rw[if_pos hk,if_pos hk]
   ·rw[if_neg hk,if_neg hk,if_neg (by rw[h];exact hk)]
  ·rw[if_pos (by simp[h]),jaO,jaO,jeR c k r]
   by_cases hk:k=e.k
   ·rw[if_pos hk,if_pos hk,if_neg (by rw[hk];exact h)]
   ·rw[if_neg hk,if_neg hk]
theorem jpc(e:Pair)(c:Chg):jbh e.1 c.key=true↔Lt e.k c.k:=jbm _ _
theorem jo5(c:Chg):∀ (l:vL) (p:Bool),∀ q∈insO c p l,q.k=c.k\/q∈l
 | [],p,q,h=>by
  unfold insO at h;cases p
  ·simp at h;subst h;exact .inl rfl
  ·simp at h
 | e :: r,p,q,h=>by
  rw[insO]at h;rcases bT.1 h with h | h
  ·rcases bT.1 h with h | h
   ·split at h
    ·simp at h;subst h;exact .inl rfl
    ·cases h
   ·split at h
    ·cases h
    ·simp at h;subst h;exact .inr bH
  ·exact (jo5 c r _ q h).imp id (bE _)
theorem jma(c:Chg):∀ {l:vL},jf1 l->jf1 (insO c false l)/\∀ k,look (insO c false l) k=if k=c.k then some c.value else look l k
 | [],_=>by
  refine⟨by simp[insO,jf1],fun k=>?_⟩
  show look [(c.key,c.value)] k=_;rw[jaO]
 | e :: r,h=>by
  have K:=(cS.1 h).2;have J:=(cS.1 h).1;rw[insO,keq]
  by_cases hlt:Lt e.k c.k
  ·have hb:jbh e.1 c.key=true:=(jpc e c).2 hlt
   have z:¬ e.k=c.k:=fun x=>lt_irrefl _ (x ▸ hlt);rw[hb,decide_eq_false z]
   obtain⟨O,Q⟩:=jma c K
   simp only[iT,iF,cI,if_false,cP,iS]
   refine⟨cS.2 ⟨fun q H=>?_,O⟩,fun k=>?_⟩
   ·rcases jo5 c r false q H with o | A
    ·show Lt e.k q.k;rw[o];exact hlt
    ·exact J q A
   ·show look (e :: insO c false r) k=_
    rw[jaO,jaO,Q k]
    by_cases o:k=e.k
    ·rw[if_pos o,if_pos o,if_neg (by rw[o];exact z)]
    ·rw[if_neg o,if_neg o]
  ·have hb:jbh e.1 c.key=false:=by rw[fP];exact fun x=>hlt ((jpc e c).1 x)
   rw[hb];simp only[iP,Bool.and_self,if_true,Bool.or_true];rw[jkH];have E:(if decide (e.k=c.k)=true then []else [e])++r.filter (fun e => !decide (e.k=c.k))=(e :: r).filter fun e => !decide (e.k=c.k):=by
    rw[dH]
    by_cases o:e.k=c.k <;> simp[o]
   rw[cD,E]
   refine⟨cS.2 ⟨fun q H=>?_,h.sublist jK⟩,fun k=>?_⟩
   ·obtain⟨A,o⟩:=cM.1 H
    have o:¬ q.k=c.k:=by simpa using o
    show Lt c.k q.k;rcases jhK c.k q.k with x | x | x
    ·exact x
    ·exact absurd x.symm o
    ·rcases bM.1 A with rfl | A
     ·exact absurd x hlt
     ·exact absurd (jdk _ _ _ (J q A) x) hlt
   ·show look ((c.key,c.value) ::(e :: r).filter fun e => !decide (e.k=c.k)) k=_
    rw[jaO,jeR]
    by_cases o:k=c.k
    ·rw[if_pos o,if_pos (show k=Pair.k (c.key,c.value)from o)]
    ·rw[if_neg o,if_neg (show ¬ k=Pair.k (c.key,c.value)from o),if_neg o]
theorem jyd(l:vL)(c:Chg)(h:jf1 l):jf1 (oneL l c)/\∀ k,look (oneL l c) k=jfg k (look l k) c:=by
 rw[jnV];cases hg:c.gone with
 | true =>
  rw[jkH]
  refine⟨h.sublist jK,fun k=>?_⟩
  rw[jeR];unfold jfg;rw[hg];rfl
 | false =>
  obtain⟨e,o⟩:=jma c h
  refine⟨e,fun k=>?_⟩
  rw[o];unfold jfg;rw[hg];rfl
theorem jpq:∀ (cs:List Chg) (l:vL),jf1 l->jf1 (cs.foldl oneL l)/\∀ k,look (cs.foldl oneL l) k=cs.foldl (jfg k) (look l k)
 | [],l,h=>⟨h,fun _=>rfl⟩
 | c :: r,l,h=>by
  obtain⟨e,o⟩:=jyd l c h
  obtain⟨z,A⟩:=jpq r _ e
  exact⟨z,fun k=>by rw[dE,dE,A,o]⟩
theorem jqR{l:vL}(h:jaw l=0)(cs:List Chg):cs.foldl oneL l=jcH (jcT l cs):=by
 obtain⟨e,o⟩:=jpq cs l (jaA h).rise
 refine jgU e (jgl (jif _ _)) fun k=>?_;rw[o,jqJ h]
theorem jye(l:vL)(c:Chg):(oneL l c).length<=l.length+1:=by
 have:∀ (l:vL) (p:Bool),(insO c p l).length<=l.length+(if p then 0 else 1):=fun l=>by
  induction l with
  | nil=>intro p;cases p <;> simp[insO]
  | cons e r ih =>
   intro p;rw[insO,bC,bC,bF]
   have:=ih (p ||(!p && !jbh e.1 c.key))
   cases p <;> cases jbh e.1 c.key <;> cases (e.1.toList == c.key.toList) <;> simp at * <;> omega
 rw[jnV]
 have:=this l c.gone
 split at this <;> omega
theorem jpr:∀ (cs:List Chg) (l:vL),(cs.foldl oneL l).length<=l.length+cs.length
 | [],l=>by simp
 | c :: r,l=>by
  rw[dE,bF]
  have:=jpr r (oneL l c)
  have:=jye l c
  omega
theorem jtj{l:vL}{c:Chg}(h:jb7 l)(hc:c.key.size<=9223372036854775807/\c.value.size<=9223372036854775807):jb7 (oneL l c):=by
 rw[jnV]
 have:∀ (l:vL) (p:Bool),jb7 l->jb7 (insO c p l):=fun l=>by
  induction l with
  | nil =>
   intro p _ q o;unfold insO at o;cases p
   ·simp at o;subst o;exact hc
   ·simp at o
  | cons e r ih =>
   intro p z q o;rw[insO]at o;rcases bT.1 o with o | o
   ·rcases bT.1 o with o | o
    ·split at o
     ·simp at o;subst o;exact hc
     ·cases o
    ·split at o
     ·cases o
     ·simp at o;subst o;exact z _ bH
   ·exact ih _ (fun x A=>z x (bE _ A)) q o
 exact this l _ h
theorem jyD(c:Chg)(l:vL):(runO c l).1.length<=2 * l.length:=by
 have:∀ (l:vL) (s:vL × Bool),(l.foldl (jfX c) s).1.length<=s.1.length+2 * l.length:=fun l=>by
  induction l with
  | nil=>intro s;simp
  | cons e r ih =>
   intro s;rw[dE,bF];have h:=ih (jfX c s e);have o:(jfX c s e).1.length<=s.1.length+2:=by
    unfold jfX;simp only;rw[bC];split <;> split <;> simp <;> omega
   omega
 have:=this l ([],c.gone)
 rw[cF,cG]at this;exact this
theorem jwi{c:Chg}{l:vL}{i:Nat}{p:Pair}(h:l[i]?=some p):runO c (l.take (i+1))=jfX c (runO c (l.take i)) p:=by
 unfold runO;rw[bY,h,dX];rfl
def jA2(w1:vW)(l:vL)(c:Chg)(ov pv iv:vV)(wr:vW):Prop:=∃ i:Nat,i<=l.length/\iv=.int .i64 i/\pv=.bool (runO c (l.take i)).2/\ERow w1 wr ov (runO c (l.take i)).1.length (runO c (l.take i)).1
theorem jAn(w:vW)(v:vV)(l:vL)(c:Chg)(hv:RdP w v l)(hn:l.length<=1000)(hs:jb7 l)(hc:c.key.size<=9223372036854775807/\c.value.size<=9223372036854775807) :
  vQ 67 #[v,.agg #[.string c.key,.string c.value,.bool c.gone]] w fun e w'=>∃ r,e=.returned r/\ERow w w' r (oneL l c).length (oneL l c):=by
 have HV:=Hd hv;have HS:=Hd hs;have d2:=Hd hc
 obtain⟨a,c0,rfl⟩:=hv.sl;clear hv hs hc
 obtain⟨w1,b4⟩:=vE (w.alloc (.cells #[.string c.key,.string c.value,.bool c.gone] 49))
 obtain⟨bc,b7⟩:∃ b,b=w.heap.size:=⟨_,rfl⟩
 have b5:=Hd (show Blk w1 bc (.cells #[.string c.key,.string c.value,.bool c.gone] 49) by rw[b4,b7];exact Blk.new w _);have a1:=Hd (show Ext w w1 by rw[b4];exact (ExtR w).alloc _);have k2:=b5.o.cell (i:=2) (v:=.bool c.gone) vF;have d3:(runO c (l.take 0))=([],c.gone):=rfl;go_enter Tryz.func67,Tryz.ntmps67;go_wp2_with fail
 rw[<-b4, <-b7];clear b4 b7;go_wp2_with fail
 go_loopw [5,6,7] (fun ov pv iv wr=>jA2 w1 l c ov pv iv wr) (fun _ _ iv _=>l.length - (intOf iv).toNat)
 case atStart=>exact⟨0,by omega,rfl,rfl,ORow.nil _ _ (ExtR w1)⟩
 case round =>
  obtain⟨i,hi,rfl,rfl,hR⟩:=hrel
  obtain⟨s,b8⟩:=vE (runO c (l.take i))
  have b9:=jyD c (l.take i);rw[cQ]at b9;rw[<-b8]at hR b9 ⊢;have b2:=Hd b8
  obtain⟨o0,p0⟩:=s
  simp only at hR b9 ⊢
  obtain⟨a2,c2,rfl⟩:=hR.sl
  have HR:=Hd hR;have k0:=jaa (b5.o.cell (i:=0) (v:=.string c.key) vF) hR.ext;have k1:=jaa (b5.o.cell (i:=1) (v:=.string c.value) vF) hR.ext;clear b8 hR k2
  by_cases hlt:i < l.length
  ·have b1:(i:Int) < (l.length:Int):=vO
   rcases HV.o with⟨_,_,_,h0⟩ |⟨b,o,c1,hh,hb,hcc,hcell⟩
   ·rw[h0]at hlt;cases hlt
   cases hh
   obtain⟨p,hp⟩:∃ p,l[i]?=some p:=⟨_,bA hlt⟩
   obtain⟨K,X⟩:=hcell i p hp
   have c3:=Hd (jaa K a1.o);have c4:=Hd (jaa X a1.o);have d0:=(HS.o p (bI hp)).1;have a3:=Hd (jwi (c:=c) hp)
   obtain⟨x,y⟩:=p
   simp only at c3 c4 d0;have K:=jaa c3.o HR.o.ext;have X:=jaa c4.o HR.o.ext;have a4:=Hd (show runO c (l.take i)=(o0,p0)from b2.o.symm);have b6:=Hd (fun w1=>jnh w1 x c.key d0 d2.o.1);clear hcell hp hb hcc;cases p0 with
   | true =>
    obtain⟨m,Z⟩:=vE o0
    subst Z;go_wp2_with fail
    refine jag [0,1,2,3,4,5,6,7,8,9,10,11,12] Ext ExtR ExtT vY vY vY ?_;iterate 3 refine vK ?_
    iterate 9 (refine qKS _ rfl ?_;refine vS ?_)
    refine vK ?_
    refine qKE (fun w3 O=>?_);have H:=(jah _).trans O;have a0:=Hd (HR.o.mono H);have K:=jaa K H;have X:=jaa X H;have k0:=jaa k0 H;clear O H;cases hkk:(x.toList == c.key.toList)with
    | true =>
     have A:=Hd (show runO c (l.take (i+1))=(m,true) by rw[a3.o];unfold jfX;simp only;rw[a4.o];simp only[iT,Bool.false_and,iS,Bool.true_or,cI,if_false];rw[hkk];simp);go_wp2_with fail
     refine jag [0,1,2,3,4,5,6,7] Ext ExtR ExtT vY vY vY ?_;iterate 4 refine vK ?_
     refine qKL ⟨b,o+i * 2,none⟩ _ rfl (fun w1 J=>jab Tryz.uStr rfl (jaa K ((jah _).trans J))) ?_;refine vS ?_
     refine vK ?_
     refine qKL ⟨bc,0,none⟩ _ rfl (fun w1 J=>jab Tryz.uStr rfl (jaa k0 ((jah _).trans J))) ?_;refine vS ?_
     refine vK ?_
     refine qKE (fun w4 O=>?_);have z:=(jah _).trans O;have Q:=Hd (a0.o.mono z);have K:=jaa K z;have X:=jaa X z;clear O z;clear hkk;go_wp2_with fail
     go_roundw
     case rel=>exact⟨i+1,by omega,by go_num,by rw[A.o],by rw[A.o];exact Q.o⟩
     case measure=>exact vJ
    | false =>
     have A:=Hd (show runO c (l.take (i+1))=(m++[(x,y)],true) by rw[a3.o];unfold jfX;simp only;rw[a4.o];simp only[iT,Bool.false_and,iS,Bool.true_or,cI,if_false];rw[hkk];simp);go_wp2_with fail
     refine jag [0,1,2,3,4,5,6,7] Ext ExtR ExtT vY vY vY ?_;iterate 4 refine vK ?_
     refine qKL ⟨b,o+i * 2,none⟩ _ rfl (fun w1 J=>jab Tryz.uStr rfl (jaa K ((jah _).trans J))) ?_;refine vS ?_
     refine vK ?_
     refine qKL ⟨bc,0,none⟩ _ rfl (fun w1 J=>jab Tryz.uStr rfl (jaa k0 ((jah _).trans J))) ?_;refine vS ?_
     refine vK ?_
     refine qKE (fun w4 O=>?_);have z:=(jah _).trans O;have Q:=Hd (a0.o.mono z);have K:=jaa K z;have X:=jaa X z;clear O z;clear hkk;have a8:m.length+1<=maxLen:=by unfold maxLen;omega
     have a9:(m.length+1) * 32<=140737488355328:=vO
     go_wp2_with (at_builtin;refine jaK Tryz.sEnts (Q.o.mono ((ExtR w4).alloc _)) (.tmp 45) (.tmp 50) rfl rfl rfl (jaI (Blk.new w4 _)) (news:=[.string x,.string y]) (by intro u hu;simp at hu;rcases hu with rfl | rfl <;> rfl) rfl rfl a8 a9 ?_;intro v5 w5 r1 r2 r3)
     have E:ERow w1 w5 v5 (m++[(x,y)]).length (m++[(x,y)]):=by unfold ERow;rw[jaV,bC];exact r1
     obtain⟨a5,c5,rfl⟩:=E.sl
     have b0:=Hd E;clear r1 r2 r3 E;go_wp2_with fail
     go_roundw
     case rel=>exact⟨i+1,by omega,by go_num,by rw[A.o],by rw[A.o];exact b0.o⟩
     case measure=>exact vJ
   | false =>
    cases hls:jbh x c.key with
    | true =>
     rw[hls]at b6
     obtain⟨m,Z⟩:=vE o0
     subst Z;go_wp2_with fail
     refine jag [0,1,2,3,4,5,6,7,8,9,10,11,12] Ext ExtR ExtT vY vY vY ?_;iterate 7 refine vK ?_
     refine qKL ⟨b,o+i * 2,none⟩ _ rfl (fun w1 J=>jab Tryz.uStr rfl (jaa K ((jah _).trans J))) ?_;refine vS ?_
     refine vK ?_
     refine qKL ⟨bc,0,none⟩ _ rfl (fun w1 J=>jab Tryz.uStr rfl (jaa k0 ((jah _).trans J))) ?_;refine vS ?_;refine qKC _ 68 #[.string x,.string c.key] (.bool true) rfl (fun w1=>jaq (vX 68) vY) (fun w1 J=>b6.o w1) ?_;refine vS ?_;iterate 2 refine vK ?_
     refine qKE (fun w3 O=>?_);have H:=(jah _).trans O;have a0:=Hd (HR.o.mono H);have K:=jaa K H;have X:=jaa X H;have k0:=jaa k0 H;clear O H;cases hkk:(x.toList == c.key.toList)with
     | true =>
      have A:=Hd (show runO c (l.take (i+1))=(m,false) by rw[a3.o];unfold jfX;simp only;rw[a4.o];simp only[hls,iT,iF,iS,cI,if_false];rw[hkk];simp);go_wp2_with fail
      refine jag [0,1,2,3,4,5,6,7] Ext ExtR ExtT vY vY vY ?_;iterate 4 refine vK ?_
      refine qKL ⟨b,o+i * 2,none⟩ _ rfl (fun w1 J=>jab Tryz.uStr rfl (jaa K ((jah _).trans J))) ?_;refine vS ?_
      refine vK ?_
      refine qKL ⟨bc,0,none⟩ _ rfl (fun w1 J=>jab Tryz.uStr rfl (jaa k0 ((jah _).trans J))) ?_;refine vS ?_
      refine vK ?_
      refine qKE (fun w4 O=>?_);have z:=(jah _).trans O;have Q:=Hd (a0.o.mono z);have K:=jaa K z;have X:=jaa X z;clear O z;clear hkk;go_wp2_with fail
      go_roundw
      case rel=>exact⟨i+1,by omega,by go_num,by rw[A.o],by rw[A.o];exact Q.o⟩
      case measure=>exact vJ
     | false =>
      have A:=Hd (show runO c (l.take (i+1))=(m++[(x,y)],false) by rw[a3.o];unfold jfX;simp only;rw[a4.o];simp only[hls,iT,iF,iS,cI,if_false];rw[hkk];simp);go_wp2_with fail
      refine jag [0,1,2,3,4,5,6,7] Ext ExtR ExtT vY vY vY ?_;iterate 4 refine vK ?_
      refine qKL ⟨b,o+i * 2,none⟩ _ rfl (fun w1 J=>jab Tryz.uStr rfl (jaa K ((jah _).trans J))) ?_;refine vS ?_
      refine vK ?_
      refine qKL ⟨bc,0,none⟩ _ rfl (fun w1 J=>jab Tryz.uStr rfl (jaa k0 ((jah _).trans J))) ?_;refine vS ?_
      refine vK ?_
      refine qKE (fun w4 O=>?_);have z:=(jah _).trans O;have Q:=Hd (a0.o.mono z);have K:=jaa K z;have X:=jaa X z;clear O z;clear hkk;have a8:m.length+1<=maxLen:=by unfold maxLen;omega
      have a9:(m.length+1) * 32<=140737488355328:=vO
      go_wp2_with (at_builtin;refine jaK Tryz.sEnts (Q.o.mono ((ExtR w4).alloc _)) (.tmp 45) (.tmp 50) rfl rfl rfl (jaI (Blk.new w4 _)) (news:=[.string x,.string y]) (by intro u hu;simp at hu;rcases hu with rfl | rfl <;> rfl) rfl rfl a8 a9 ?_;intro v5 w5 r1 r2 r3)
      have E:ERow w1 w5 v5 (m++[(x,y)]).length (m++[(x,y)]):=by unfold ERow;rw[jaV,bC];exact r1
      obtain⟨a5,c5,rfl⟩:=E.sl
      have b0:=Hd E;clear r1 r2 r3 E;go_wp2_with fail
      go_roundw
      case rel=>exact⟨i+1,by omega,by go_num,by rw[A.o],by rw[A.o];exact b0.o⟩
      case measure=>exact vJ
    | false =>
     rw[hls]at b6;go_wp2_with fail
     refine jag [0,1,2,3,4,5,6,7,8,9,10,11,12] Ext ExtR ExtT vY vY vY ?_;iterate 7 refine vK ?_
     refine qKL ⟨b,o+i * 2,none⟩ _ rfl (fun w1 J=>jab Tryz.uStr rfl (jaa K ((jah _).trans J))) ?_;refine vS ?_
     refine vK ?_
     refine qKL ⟨bc,0,none⟩ _ rfl (fun w1 J=>jab Tryz.uStr rfl (jaa k0 ((jah _).trans J))) ?_;refine vS ?_;refine qKC _ 68 #[.string x,.string c.key] (.bool false) rfl (fun w1=>jaq (vX 68) vY) (fun w1 J=>b6.o w1) ?_;refine vS ?_;iterate 2 refine vK ?_
     refine qKE (fun w3 O=>?_);have H:=(jah _).trans O;have a0:=Hd (HR.o.mono H);have k0:=jaa k0 H;have k1:=jaa k1 H;clear O H K X;have c7:o0.length+1<=maxLen:=by unfold maxLen;omega
     have c8:(o0.length+1) * 32<=140737488355328:=vO
     go_wp2_with (at_builtin;refine jaK Tryz.sEnts (a0.o.mono ((ExtR w3).alloc _)) (.tmp 29) (.tmp 35) rfl rfl rfl (jaI (Blk.new w3 _)) (news:=[.string c.key,.string c.value]) (by intro u hu;simp at hu;rcases hu with rfl | rfl <;> rfl) rfl rfl c7 c8 ?_;intro v6 w6 r1 r2 r3)
     obtain⟨m,Z⟩:=vE (o0++[(c.key,c.value)])
     have d4:m.length=o0.length+1:=by rw[Z];simp
     have E:ERow w1 w6 v6 m.length m:=by unfold ERow;rw[Z,jaV,bC];exact r1
     have d1:Hid (o0++[(c.key,c.value)]=m):=Z.symm
     obtain⟨a6,c6,rfl⟩:=E.sl
     have a7:=Hd E;have K:=jaa c3.o E.ext;have X:=jaa c4.o E.ext;have k0:=jaa (b5.o.cell (i:=0) (v:=.string c.key) vF) E.ext;clear r1 r2 r3 E k1 Z;have d5:m.length<=2 * i+1:=vO
     cases hkk:(x.toList == c.key.toList)with
     | true =>
      have A:=Hd (show runO c (l.take (i+1))=(m,true) by rw[a3.o];unfold jfX;simp only;rw[a4.o];simp only[hls,iP,Bool.and_self,Bool.or_true,Bool.false_or,if_true];rw[hkk];rw[d1.o];simp);go_wp2_with fail
      refine jag [0,1,2,3,4,5,6,7] Ext ExtR ExtT vY vY vY ?_;iterate 4 refine vK ?_
      refine qKL ⟨b,o+i * 2,none⟩ _ rfl (fun w1 J=>jab Tryz.uStr rfl (jaa K ((jah _).trans J))) ?_;refine vS ?_
      refine vK ?_
      refine qKL ⟨bc,0,none⟩ _ rfl (fun w1 J=>jab Tryz.uStr rfl (jaa k0 ((jah _).trans J))) ?_;refine vS ?_
      refine vK ?_
      refine qKE (fun w4 O=>?_);have z:=(jah _).trans O;have Q:=Hd (a7.o.mono z);have K:=jaa K z;have X:=jaa X z;clear O z;clear hkk;go_wp2_with fail
      go_roundw
      case rel=>exact⟨i+1,by omega,by go_num,by rw[A.o],by rw[A.o];exact Q.o⟩
      case measure=>exact vJ
     | false =>
      have A:=Hd (show runO c (l.take (i+1))=(m++[(x,y)],true) by rw[a3.o];unfold jfX;simp only;rw[a4.o];simp only[hls,iP,Bool.and_self,Bool.or_true,Bool.false_or,if_true];rw[hkk];rw[d1.o];simp);go_wp2_with fail
      refine jag [0,1,2,3,4,5,6,7] Ext ExtR ExtT vY vY vY ?_;iterate 4 refine vK ?_
      refine qKL ⟨b,o+i * 2,none⟩ _ rfl (fun w1 J=>jab Tryz.uStr rfl (jaa K ((jah _).trans J))) ?_;refine vS ?_
      refine vK ?_
      refine qKL ⟨bc,0,none⟩ _ rfl (fun w1 J=>jab Tryz.uStr rfl (jaa k0 ((jah _).trans J))) ?_;refine vS ?_
      refine vK ?_
      refine qKE (fun w4 O=>?_);have z:=(jah _).trans O;have Q:=Hd (a7.o.mono z);have K:=jaa K z;have X:=jaa X z;clear O z;clear hkk;have a8:m.length+1<=maxLen:=by unfold maxLen;omega
      have a9:(m.length+1) * 32<=140737488355328:=vO
      go_wp2_with (at_builtin;refine jaK Tryz.sEnts (Q.o.mono ((ExtR w4).alloc _)) (.tmp 45) (.tmp 50) rfl rfl rfl (jaI (Blk.new w4 _)) (news:=[.string x,.string y]) (by intro u hu;simp at hu;rcases hu with rfl | rfl <;> rfl) rfl rfl a8 a9 ?_;intro v5 w5 r1 r2 r3)
      have E:ERow w1 w5 v5 (m++[(x,y)]).length (m++[(x,y)]):=by unfold ERow;rw[jaV,bC];exact r1
      obtain⟨a5,c5,rfl⟩:=E.sl
      have b0:=Hd E;clear r1 r2 r3 E;go_wp2_with fail
      go_roundw
      case rel=>exact⟨i+1,by omega,by go_num,by rw[A.o],by rw[A.o];exact b0.o⟩
      case measure=>exact vJ
  ·have c9:i=l.length:=vO
   have b1:¬(i:Int) < (l.length:Int):=vO
   have b3:=Hd (show runO c l=(o0,p0) by have h:=b2.o;rw[c9,cJ]at h;exact h.symm);cases p0 with
   | true =>
    have HF:=Hd (show oneL l c=o0 by unfold oneL;rw[b3.o];rfl);clear c9;go_wp2_with fail
    go_ret
    refine⟨_,rfl,?_⟩
    rw[HF.o]
    exact⟨⟨_,_,rfl⟩,HR.o.own,a1.o.trans HR.o.ext,fun b hb=>bK a1.o.size (HR.o.new b hb)⟩
   | false =>
    have HF:=Hd (show oneL l c=o0++[(c.key,c.value)] by unfold oneL;rw[b3.o];rfl);have c7:o0.length+1<=maxLen:=by unfold maxLen;omega
    have c8:(o0.length+1) * 32<=140737488355328:=vO
    clear c9;go_wp2_with (at_builtin;refine jaK Tryz.sEnts (HR.o.mono ((ExtR wr).alloc _)) (.tmp 54) (.tmp 60) rfl rfl rfl (jaI (Blk.new wr _)) (news:=[.string c.key,.string c.value]) (by intro u hu;simp at hu;rcases hu with rfl | rfl <;> rfl) rfl rfl c7 c8 ?_;intro v6 w6 r1 r2 r3)
    have E:ERow w1 w6 v6 (oneL l c).length (oneL l c):=by unfold ERow;rw[HF.o,jaV,bC];exact r1
    obtain⟨a6,c6,rfl⟩:=E.sl
    have a7:=Hd E;clear r1 r2 r3 E;go_wp2_with fail
    go_ret
    refine⟨_,rfl,?_⟩
    exact⟨⟨_,_,rfl⟩,a7.o.own,a1.o.trans a7.o.ext,fun b hb=>bK a1.o.size (a7.o.new b hb)⟩
