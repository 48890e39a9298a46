/- Lemmas; each is under no condition but those that it states. -/
import Derived.Test.YtepbencaoiompaaGreatDoorPa37
namespace Go.Proofs.YtepbencaoiompaaGreatDoor
set_option linter.unusedSimpArgs false
set_option linter.unusedVariables false
set_option maxRecDepth 100000
set_option maxHeartbeats 16000000
open Go Go.RowKit
section
attribute [local go_sem] Oper.semAt_some
instance decBa (h:vB) (R:vM):Decidable (h∈R):=decidable_of_iff (R.any (fun x=>decide (h=x))=true) (by simp)
structure SetV(es:List EntK)(ck:Nat)(R:vM):Prop where
 same:es.map (fun x=>(x.1,x.2.1))=R.map fun h=>(h.data.toList,Value.int .i64 1)
 born:(es.map (·.2.2)).Nodup
 lt:∀ x∈es,x.2.2 < ck
def SetM(w:vW)(mb:Nat)(R:vM):Prop:=∃ es ck,Blk w mb (.map (Tryz.ES.arr es) ck)/\SetV es ck R
theorem jou:∀ {es:List EntK} {R:vM},es.map (fun x=>(x.1,x.2.1))=R.map (fun h=>(h.data.toList,Value.int .i64 1))->∀ h:vB,jaS es h.data.toList=if h∈R then some (Value.int .i64 1)else none
 | [],[],_,h=>by simp[jaS]
 | x :: es,[],e,h=>by cases e
 | [],y :: R,e,h=>by cases e
 | x :: es,y :: R,e,h=>by
  rw[bV,bV]at e;injection e with e1 e2;have o:=jou e2 h;have q:x.1=y.data.toList:=congrArg Prod.fst e1;have z:x.2.1=Value.int .i64 1:=congrArg Prod.snd e1;unfold jaS at o ⊢;rw[fT]
  by_cases hy:h=y
  ·subst hy
   rw[if_pos bD,decide_eq_true q.symm];show some x.2.1=_;rw[z]
  ·rw[decide_eq_false (fun e=>hy (jck (e.trans q)))]
   simp only;rw[o]
   by_cases hm:h∈R
   ·rw[if_pos hm,if_pos (bC _ hm)]
   ·rw[if_neg hm,if_neg (fun e=>(bM.1 e).elim hy hm)]
theorem jug:∀ {es:List EntK} {R:vM},es.map (fun x=>(x.1,x.2.1))=R.map (fun h=>(h.data.toList,Value.int .i64 1))->∀ {h:vB},h ∉ R->∀ (v:vV) (n:Nat),jbo es h.data.toList v n=es++[(h.data.toList,v,n)]
 | [],[],_,h,_,v,n=>rfl
 | x :: es,[],e,h,_,v,n=>by cases e
 | [],y :: R,e,h,_,v,n=>by cases e
 | x :: es,y :: R,e,h,hn,v,n=>by
  rw[bV,bV]at e;injection e with e1 e2;have o:x.1=y.data.toList:=congrArg Prod.fst e1;have q:¬ h=y:=fun e=>hn (by rw[e];exact bD);rw[jbo,if_neg (fun e=>q (jck (e.trans o))),jug e2 (fun z=>hn (bC _ z)) v n,cQ]
theorem SetV.add{es:List EntK}{ck:Nat}{R:vM}(h:SetV es ck R){k:vB}(hk:k ∉ R):SetV (jbo es k.data.toList (.int .i64 1) ck) (ck+1) (R++[k]):=by
 rw[jug h.same hk]
 refine⟨by rw[bZ,bZ,h.same];rfl,?_,fun x o=>?_⟩
 ·rw[bZ,fF]
  refine⟨h.born,by simp,fun a q b hb e=>?_⟩
  obtain⟨x,o,rfl⟩:=bI.1 q
  have:=h.lt x o
  simp at hb;omega
 ·rcases bT.1 o with o | o
  ·have:=h.lt x o;omega
  ·rw[bP.1 o];exact Nat.lt_succ_self _
theorem SetV.len{es:List EntK}{ck:Nat}{R:vM}(h:SetV es ck R):es.length=R.length:=by
 have:=congrArg List.length h.same
 simpa using this
def OutM(w:vW)(ov:vV)(out:vM):Prop:=(ov=.map none/\out=[])\/∃ mb,ov=.map (some mb)/\SetM w mb out
theorem SetM.keeps{F:BSet}{w w':vW}{mb:Nat}{R:vM}(h:SetM w mb R)(k:jag F w w')(hF:¬ F mb):SetM w' mb R:=by
 obtain⟨e,o,q,z⟩:=h
 exact⟨e,o,q.keeps k hF,z⟩
theorem SetM.look{w:vW}{mb:Nat}{R:vM}(h:SetM w mb R)(x:vB):(Instr.lookup 82 (.map (some mb)) (.string x) false).run Tryz.prog w=.ok (.int .i64 (if x∈R then 1 else 0)) w:=by
 obtain⟨q,z,e,o⟩:=h
 have:=jcg Tryz.ES Tryz.uMapSI e (Tryz.zeroI w) x.data.toList false
 rw[jou o.same x]at this
 by_cases hx:x∈R
 ·rw[if_pos hx]at this ⊢;exact this
 ·rw[if_neg hx]at this ⊢;exact this
theorem jq5(w:vW)(x:vB):(Instr.lookup 82 (.map none) (.string x) false).run Tryz.prog w=.ok (.int .i64 0) w:=vY
theorem OutM.look{w:vW}{ov:vV}{out:vM}(h:OutM w ov out)(x:vB):(Instr.lookup 82 ov (.string x) false).run Tryz.prog w=.ok (.int .i64 (if x∈out then 1 else 0)) w:=by
 rcases h with⟨rfl,rfl⟩ |⟨mb,rfl,h⟩
 ·rw[if_neg (cH)];exact jq5 w x
 ·exact h.look x
theorem SetM.put{w:vW}{mb:Nat}{R:vM}(h:SetM w mb R){x:vB}(hx:x ∉ R):∃ w',(Instr.mapUpdate 82 (.map (some mb)) (.string x) (.int .i64 1)).run Tryz.prog w=.ok () w'/\SetM w' mb (R++[x])/\jag (fun z=>z=mb) w w':=by
 obtain⟨q,A,e,o⟩:=h
 have:=jb5 Tryz.ES Tryz.uMapSI e x.data.toList (.int .i64 1)
 rw[jou o.same x,if_neg hx]at this
 exact⟨_,this,⟨_,_,e.put_same _,o.add hx⟩,jag.onePut _ _ _⟩
def jiT(w:vW)(mb:Nat):Nat:=match w.heap[mb]? with | some (.map a _)=>a.size | _=>0
theorem SetM.len{w:vW}{mb:Nat}{R:vM}(h:SetM w mb R):jiT w mb=R.length:=by
 obtain⟨e,z,o,q⟩:=h
 unfold jiT;rw[show w.heap[mb]?=_ from o];show (Tryz.ES.arr e).size=_;unfold ja6.arr;rw[cT,cB,q.len]
theorem jqV{n:jad}(h:n.refs.length=16):(jaK n).length<=16:=by
 unfold jaK
 have:=iP jcH n.refs
 omega
theorem joI{ops:Array Oper}{rest:List Oper}{d:Option Tmp}{ty:TypeId}{pos:String}{af:Array Edge}{a:Act}{w1 w0 w:vW}{Q:Exit->Act->vW->Prop}{s x:Operand}{v pv:vV}{n m N:Nat}{xs ys:vM}
  (hR:SRow w0 w v n xs) (hP:SRow w1 w pv m ys) (hN:n+m=N) (hs:a.eval s=v) (hx:a.eval x=pv) (h63:N<=100000000)
  (h:∀ e w',SRow w0 w' e N (xs++ys)->jag (fun b=>v.ownBlock=some b) w w'->(e.ownBlock=v.ownBlock\/∀ b,e.ownBlock=some b->w.heap.size<=b)->wpList Tryz.prog ops Q rest (a.put d e) w') :
  wpList Tryz.prog ops Q (⟨d,.call { callee:=.builtin .append,args:=#[s,x],argTypes:=#[22,22] },ty,pos,af,none⟩ :: rest) a w:=by
 subst hN
 obtain⟨z,⟨rfl,A⟩ |⟨g,E,H,rfl,A,h4,h5,h6,h7⟩⟩:=hP.own
 ·subst A
  have o:ys=[]:=bG (by simpa using z);subst o
  obtain⟨ad,c,rfl⟩:=hR.sl
  have q:n<=c:=jlx hR;refine jjl Tryz.sStrs hs hx q (h _ _ ?_ (jag.refl _ _) (.inl rfl));rw[bU];exact hR
 ·exact jba Tryz.sStrs hR s x rfl hs hx (fun j u J=>hP.own.cells (g:=g) rfl j u J) (fun u K=>by obtain⟨y,_,rfl⟩:=bI.1 K;rfl) z rfl (by unfold maxLen;omega) vO (fun e w' O X Z=>h e w' (by unfold SRow;rw[bZ];exact O) X Z)
structure RcR(S:vT)(out Rall:vM)(W:World)(mb:Nat)(tv:Value)(wr:World)(L hs:vM):Prop where
 set:SetM wr mb L
 tod:SRow W wr tv hs.length hs.reverse
 ap:tv.ownBlock≠some mb
 rx:jci S out L hs Rall
 le:hs.length<=1+16 * L.length
 ll:L.length<=S.length
 mbn:W.heap.size<=mb
def jzR(S:vT)(out Rall:vM)(W:vW)(mb:Nat)(tv:vV)(wr:vW):Prop:=∃ L hs,RcR S out Rall W mb tv wr L hs
theorem jtV{S:vT}{out L R:vM}(h:jci S out L [] R):L=R:=by cases h;rfl
theorem jkh{S:vT}{out L hs R:vM}{h:vB}(k:jci S out L (h :: hs) R)(hh:h∈L\/h∈out):jci S out L hs R:=by
 cases k with
 | seen _ _ _ _ _ k=>exact k
 | no _ _ _ _ h1 h2=>exact (hh.elim h1 h2).elim
 | go _ _ _ _ _ _ h1 h2=>exact (hh.elim h1 h2).elim
theorem jwu{S:vT}{out L hs R:vM}{h:vB}(k:jci S out L (h :: hs) R)(h1:h ∉ L)(h2:h ∉ out) :
  h.size=32/\((atL S h.data.toList=none/\jci S out L hs R)\/∃ y n,L.length+1<=S.length/\atL S h.data.toList=some y/\jbc y.2.2.text n/\jci S out (L++[h]) ((jaK n).reverse++hs) R):=by
 cases k with
 | seen _ _ _ _ h3 _=>exact (h3.elim h1 h2).elim
 | no _ _ _ _ _ _ h3 h4 k=>exact⟨h3,.inl ⟨h4,k⟩⟩
 | go _ _ _ y n _ _ _ h3 h4 h5 h6 k=>exact⟨h3,.inr ⟨y,n,h4,h5,h6,k⟩⟩
theorem SRow.pop{W1 wr:vW}{g c:Nat}{t:vB}{ts:vM}(h:SRow W1 wr (.slice (some ⟨g,0,none⟩) (t :: ts).length c) (t :: ts).length (t :: ts).reverse):SRow W1 wr (.slice (some ⟨g,0,none⟩) ts.length c) ts.length ts.reverse:=by
 have e:=jpH (m:=ts.length) h.own (by simp);rw[iX, <-jC,gI,fX (by simp),cD (by simp)]at e
 exact⟨⟨_,_,rfl⟩,e,h.ext,fun b hb=>h.new b hb⟩
theorem SRow.last{W1 wr:vW}{g c:Nat}{t:vB}{ts:vM}(h:SRow W1 wr (.slice (some ⟨g,0,none⟩) (t :: ts).length c) (t :: ts).length (t :: ts).reverse):wr.cell? ⟨g,ts.length,none⟩=some (.string t):=by
 rw[h.own.cellAt ts.length (by simp),cA,gI,dA (by simp)];simp
theorem RcR.pop{S:vT}{out Rall:vM}{W:vW}{mb g c n:Nat}{wr wr':vW}{L hs:vM}{h:vB}(k:RcR S out Rall W mb (.slice (some ⟨g,0,none⟩) (h :: hs).length c) wr L (h :: hs))(hn:n=hs.length)(hx:jci S out L hs Rall)(e:Ext wr wr'):jzR S out Rall W mb (.slice (some ⟨g,0,none⟩) n c) wr':=by
 subst hn
 refine⟨L,hs,k.set.keeps e (fun h=>h),ORow.mono k.tod.pop e,fun e=>k.ap e,hx,?_,k.ll,k.mbn⟩
 have:=k.le
 simp only[bO]at this;omega
def RchP(W:vW)(R:vM)(e:Ending)(w':vW):Prop:=∃ mb,e=.returned (.map (some mb))/\SetM w' mb R/\Ext W w'
theorem jo8(W:vW)(s bm:Nat)(room:Int)(S:vT)(hs:jax W s bm room S)(hsl:S.length<=100000)(r:vB)(ov:vV)(out:vM)(ho:OutM W ov out){R:vM}(hR:jci S out [] [r] R) :
  vQ 40 #[.pointer (some ⟨s,0,none⟩),.string r,ov] W (RchP W R):=by
 have HS:=Hd hs;have HO:=Hd ho;have HR:=Hd hR;have e5:=Tryz.makeMapSI;clear hs ho hR;go_enter Tryz.func40,Tryz.ntmps40;go_wp2_with fail
 go_step3;go_wp2_with fail
 obtain⟨w2,Z⟩:=vE ((W.alloc (.map #[] 0)).alloc (.cells #[.string r] 9))
 have b0:=Blk.new W (.map #[] 0)
 obtain⟨w1,b6⟩:=vE (W.alloc (.map #[] 0))
 rw[<-b6]at Z b0 ⊢;have hz:w1.heap.size=W.heap.size+1:=by rw[b6,bK]
 have b8:Ext W w1:=by rw[b6];exact (ExtR W).alloc _
 have b9:Ext w1 w2:=by rw[Z];exact (ExtR w1).alloc _
 have c0:SRow W w2 (.slice (some ⟨w1.heap.size,0,none⟩) 1 1) 1 [r]:=by rw[Z];exact ORow.lit #[.string r] b8 vI rfl
 rw[hz]at c0;have d3:SetM w2 W.heap.size []:=⟨[],0,b0.keeps b9 (fun h=>h),rfl,gW,fun x hx=>(cH hx).elim⟩;rw[<-Z];have H2:=Hd (bB c0 (bB d3 (b8.trans b9)));clear Z b6 b0 b8 b9 c0 d3 e5 hz w1
 obtain⟨O,c2⟩:=vE W.heap.size
 have e6:=Hd c2;rw[<-c2]at H2 ⊢;clear c2;go_step3;go_wp2_with fail
 go_loopw [8] (fun tv wr=>jzR S out R W O tv wr) (fun tv wr=>(S.length - jiT wr O) * 18+lenV tv)
 case atStart=>exact⟨[],[r],H2.o.2.1,H2.o.1,(by intro e;have e:some (O+1)=some O:=e;have:=bQ e;omega),HR.o,bL _,bY _,by rw[e6.o];exact bL _⟩
 case round =>
  obtain⟨X,e7⟩:=vE wr
  subst e7
  obtain⟨L,hs,hK⟩:=hrel
  obtain⟨ta,c,rfl⟩:=hK.tod.sl
  have A:=Hd hK;clear hK;cases hs with
  | nil =>
   have d4:=jtV A.o.rx;have HF:=Hd (show SetM X O R/\Ext W X by rw[<-d4];exact⟨A.o.set,A.o.tod.ext⟩);clear d4;rw[show ([]:vM).length=0 from rfl];go_wp2_with fail
   go_ret
   exact⟨_,rfl,HF.o.1,HF.o.2⟩
  | cons h hs =>
   obtain⟨g,rfl⟩:=jfW A.o.tod (by simp)
   obtain⟨n,hn⟩:=vE hs.length
   have HN:=Hd hn;have hl:(h :: hs).length=n+1:=by rw[hn];rfl
   have f6:=A.o.ll;have f7:n<=2000000:=by have:=A.o.le;rw[hl]at this;omega
   have q1:=SRow.last A.o.tod;rw[<-hn]at q1;have c1:(0:Int) < (n:Int)+1:=vO
   have c3:(n:Int)<=(c:Int):=by have:=jlx A.o.tod;rw[hl]at this;omega
   rw[hl];have K:=A.o.set.look h;have E:=(show OutM X ov out by
    rcases HO.o with h |⟨mo,h1,h2⟩
    ·exact .inl h
    ·obtain⟨es,ck,hB,hV⟩:=h2
     exact .inr ⟨mo,h1,es,ck,hB.keeps A.o.tod.ext (fun h=>h),hV⟩).look h
   clear hn hl
   by_cases hL:h∈L
   ·rw[if_pos hL]at K
    have HX:=Hd (jkh A.o.rx (.inl hL));clear hL E;go_wp2_with fail
    go_roundw
    case rel=>exact RcR.pop A.o HN.o HX.o (ExtR X)
    case measure=>simp[lenV]
   ·rw[if_neg hL]at K
    by_cases hO:h∈out
    ·rw[if_pos hO]at E
     have HX:=Hd (jkh A.o.rx (.inr hO));clear hL hO;go_wp2_with fail
     go_roundw
     case rel=>exact RcR.pop A.o HN.o HX.o (ExtR X)
     case measure=>simp[lenV]
    ·rw[if_neg hO]at E
     obtain⟨d5,e8⟩:=jwu A.o.rx hL hO
     have d6:=Hd hL;clear hL hO;go_wp2_with fail
     refine vH (jcv X h vO) fun W4 c4=>?_;have d7:=Hd (HS.o.ext (A.o.tod.ext.trans c4));have d8:=Hd d5;clear K E d5 q1;rcases e8 with⟨hy,hx⟩ |⟨y,nd,hl1,hy,hn,hx⟩
     ·have c5:=Hd hx
      have c6:Hid (jgs S (jaz h) none):=.inr ⟨h,d8.o,rfl,.inl ⟨hy,rfl⟩⟩;clear hx hy;go_wp2_with fail
      refine vH (jmf W4 s bm room S d7.o c6.o) fun W8 hE=>?_;have b7:=Hd (c4.o.trans hE);unfold jad.V;go_wp2_with (refine jah Tryz.allocNode rfl rfl ?_;intro W9 a4 a5;refine jae (vs:=jak.cells) rfl rfl rfl rfl a4 rfl Tryz.szNode jak.one ?_;intro a6 Q H)
      have J:=Hd (b7.o.trans (a5.trans' H (fun z hz e=>by have e:z=W8.heap.size:=e;omega)));clear a4 a5 Q H;refine (jfP a6).mono ?_;rintro e e9 ⟨rfl,rfl⟩;go_wp2_with fail
      go_roundw
      case rel=>exact RcR.pop A.o HN.o c5.o J.o
      case measure =>
       have e1:=A.o.set.len;have e2:=(A.o.set.keeps J.o (fun h=>h)).len;show (S.length - jiT a6 O) * 18+n < (S.length - jiT X O) * 18+(n+1);omega
     ·obtain⟨dg,hg⟩:=hn.2
      have a7:=hg.one (inlP dg);have c7:=a7.refs;have d9:=Hd c7;have a8:=Hd (nd.cells_len c7);have HG:=Hd hg;have c5:=Hd hx;have e0:=Hd hl1;have c6:=Hd (show jgs S (jaz h) (some nd)from .inr ⟨h,d8.o,rfl,.inr ⟨y,nd,hy,hn,rfl⟩⟩);clear hx hy hn a7 c7 hg hl1;go_wp2_with fail
      refine vH (jo6 W4 s bm room S d7.o c6.o) fun W8 hE=>?_;have b7:=Hd (c4.o.trans hE);unfold jad.V;go_wp2_with (refine jah Tryz.allocNode rfl rfl ?_;intro W9 a4 a5;refine jae (vs:=nd.cells) rfl rfl rfl rfl a4 (by rw[a8.o];rfl) (by rw[a8.o];exact Tryz.szNode) nd.one ?_;intro a6 Q H)
      have a9:Ext W8 a6:=a5.trans' H (fun z hz e=>by have e:z=W8.heap.size:=e;omega);have J:=Hd (b7.o.trans a9);have b1:=Hd Q;clear a4 a5 Q H a9
      obtain⟨nb,e3⟩:=vE W8.heap.size
      have b2:=Hd (show X.heap.size<=nb by have:=b7.o.size;omega);rw[<-e3]at b1 ⊢;clear e3;refine (jfq a6).mono ?_;rintro e e9 ⟨rfl,rfl⟩;have a2:=A.o.set.keeps J.o (fun h=>h);have a0:=a2.look h;rw[if_neg d6.o]at a0
      obtain⟨c8,c9,a1,a3⟩:=a2.put d6.o
      have f5:O < X.heap.size:=by obtain⟨es,ck,hB,_⟩:=A.o.set;exact hB.lt
      have b3:=Hd a1;have b4:=Hd (b1.o.keeps a3 (fun e=>by have e:nb=O:=e;have:=b2.o;omega));have e4:SRow W X (.slice (some ⟨g,0,none⟩) n c) n hs.reverse:=by have:=SRow.pop A.o.tod;rw[<-HN.o]at this;exact this
      have f8:W.heap.size<=O:=A.o.mbn;have d0:=Hd ((ORow.mono e4 J.o).keeps a3 (fun b hb e=>A.o.ap (by rw[show (Value.slice (some ⟨g,0,none⟩) (h :: hs).length c).ownBlock=some b from hb];exact congrArg some e)) (fun b hb e=>by have e:b=O:=e;omega));clear a2 a1 a3 e4;go_wp2_with (refine jaf 99 (.tmp 10) rfl rfl _ _ rfl (jas c8 nb nd d9.o b4.o) ?_)
      refine (jkZ dg nd HG.o c8).mono ?_;rintro e f9 ⟨hv,rfl,hH,_⟩;have g0:=jqV d9.o
      obtain⟨q,hq⟩:=vE (n+(jaK nd).length)
      have HQ:=Hd hq;have HH:=Hd hH;have d1:=Hd (ORow.mono d0.o hH.ext);have d2:=Hd (b3.o.keeps hH.ext (fun h=>h));have f0:q<=100000000:=vO
      clear hH hq c9 a0;go_wp2_with (refine joI d1.o HH.o HQ.o.symm rfl rfl f0 ?_;intro g1 f1 r1 r2 r3;have f2:=Hd r1;have f3:=Hd r2;have f4:=Hd r3;obtain⟨g2,g3,rfl⟩:=r1.sl;clear r1 r2 r3)
      have b5:=Hd (d2.o.keeps f3.o (fun e=>A.o.ap e));go_roundw
      case rel =>
       have h1:=A.o.le;have h2:=HN.o;simp only[bO]at h1
       refine⟨L++[h],(jaK nd).reverse++hs,b5.o,?_,?_,c5.o,?_,by rw[bF];exact e0.o,A.o.mbn⟩
       ·rw[List.reverse_append,List.reverse_reverse,bF,fS,gO, <-HN.o, <-HQ.o];exact f2.o
       ·intro e
        rcases f4.o with r3 | r3
        ·exact A.o.ap (r3 ▸ e)
        ·have:=r3 O e
         have h5:=HH.o.ext.size;have h6:c8.heap.size ≥ X.heap.size:=by obtain⟨es,ck,hB,_⟩:=b3.o;have:=b4.o.lt;have:=b2.o;omega
         omega
       ·rw[bF,bF,fS];simp;omega
      case measure =>
       have e1:=A.o.set.len;have e2:=b5.o.len;rw[bF]at e2;have h3:=e0.o;have h4:=HQ.o;show (S.length - jiT f1 O) * 18+q < (S.length - jiT X O) * 18+(n+1);simp at e2;omega
theorem SetV.keysL{es:List EntK}{ck:Nat}{R:vM}(h:SetV es ck R):es.map (·.1)=R.map fun h=>h.data.toList:=by
 have:=congrArg (List.map Prod.fst) h.same
 rw[dL,dL]at this;exact this
theorem jvD(W:vW)(s bm:Nat)(room:Int)(S:vT)(hs:jax W s bm room S)(a b:vB)(h:(jbA S a && jbA S b)=false) :
  vR 17 #[.pointer (some ⟨s,0,none⟩),.string a,.string b] W (.tuple #[.slice none 0 0,.int .i64 4]):=by
 have q:([a,b].all (jbA S))=false:=by simpa using h
 have z:=Hd (fun(v:vV) (W1:vW) (e:Ext W W1) (hv:RdS W1 v [a,b])=>jen W1 s bm room S (hs.ext e) v [a,b] hv (show (2:Nat)<=1000 by decide));rw[q]at z;clear hs h q;go_enter Tryz.func17,Tryz.ntmps17;go_wp2_with fail
 refine vH (z.o _ _ ((ExtR W).alloc _) (jbK W [a,b] _)) fun A E=>?_;have H:=Hd (((ExtR W).alloc (.cells ([a,b].map Value.string).toArray 9)).trans E);go_wp2_with fail
 refine (jfP A).mono ?_;rintro e J ⟨rfl,rfl⟩;go_wp2_with fail
 go_ret2
 exact⟨rfl,H.o⟩
def jrz(W:vW)(B:vM)(e:Ending)(w':vW):Prop:=∃ v,e=.returned (.tuple #[v,.int .i64 0])/\SRow W w' v B.length (baL (jeI (B.map fun h=>h.data.toList)))
theorem jmu(W:vW)(s bm:Nat)(room:Int)(S:vT)(hs:jax W s bm room S)(hsl:S.length<=100000)(a b:vB)(h:(jbA S a && jbA S b)=true){A B:vM}(hA:jci S [] [] [a] A)(hB:jci S A [] [b] B)(hbl:B.length<=100000) :
  vQ 17 #[.pointer (some ⟨s,0,none⟩),.string a,.string b] W (jrz W B):=by
 have hk:([a,b].all (jbA S))=true:=by simpa using h
 have HC:=Hd (fun(v:vV) (W1:vW) (e:Ext W W1) (hv:RdS W1 v [a,b])=>jen W1 s bm room S (hs.ext e) v [a,b] hv (show (2:Nat)<=1000 by decide));rw[hk]at HC;have HA:=Hd (fun(W1:vW) (e:Ext W W1)=>jo8 W1 s bm room S (hs.ext e) hsl a (.map none) [] (.inl ⟨rfl,rfl⟩) hA);have HB:=Hd (fun(W1:vW) (e:Ext W W1) (m:Nat) (hm:SetM W1 m A)=>jo8 W1 s bm room S (hs.ext e) hsl b (.map (some m)) A (.inr ⟨m,rfl,hm⟩) hB);clear hs h hk hA hB;go_enter Tryz.func17,Tryz.ntmps17;go_wp2_with fail
 refine vH (HC.o _ _ ((ExtR W).alloc _) (jbK W [a,b] _)) fun W2 hE=>?_;have HE:=Hd (((ExtR W).alloc (.cells ([a,b].map Value.string).toArray 9)).trans hE);go_wp2_with fail
 refine (jfq W2).mono ?_;rintro e W3 ⟨rfl,rfl⟩;go_wp2_with fail
 refine (HA.o W2 HE.o).mono ?_;rintro e W4 ⟨ma,rfl,a8,a9⟩;have b0:=Hd a8;have b1:=Hd (HE.o.trans a9);clear a8 a9;go_wp2_with fail
 refine (HB.o W4 b1.o ma b0.o).mono ?_;rintro e w1 ⟨mb,rfl,c2,b2⟩;have b3:=Hd (b1.o.trans b2)
 obtain⟨es,ck,hm,hv⟩:=c2
 have c7:=jnj Tryz.ES Tryz.uMapSI hm;have b4:es.length=B.length:=hv.len;have HM:=Hd hv;have b5:=Hd hm;clear b2 hm hv HA HB HC b0;go_wp2_with fail
 obtain⟨r,hr⟩:=vE w1.heap.size
 have HR:=Hd hr;rw[<-hr];clear hr;go_loopw [8] (fun v wr=>jBj w1 r mb ck es v wr) (fun v _=>B.length - slN v)
 case atStart =>
  refine⟨[],⟨ORow.nil _ _ ((ExtR w1).alloc _),?_,fun x hx=>(by cases hx),gW,fun b hb e=>(by cases hb)⟩⟩
  rw[HR.o];exact Blk.new w1 _
 case round =>
  obtain⟨q,E⟩:=hrel
  obtain⟨ad,cp,rfl⟩:=E.row.sl
  have Q:=(b5.o).keeps E.row.ext (fun g=>g);have a4:q.length<=es.length:=E.len;rcases jpW Tryz.ES Q E.it HM.o.lt 0 with⟨hl0,hnx⟩ |⟨x,hxl,w2,hnx,hr2,hk2⟩
  ·have hp:=E.done hl0 HM.o.born
   have a0:q.length=B.length:=by rw[hp.length_eq,b4]
   have b6:jeI (q.map (·.1))=jeI (B.map fun h=>h.data.toList):=by
    rw[jko (hp.map _),HM.o.keysL]
   have c3:=Hd b6;have H:=Hd (show ORow 9 1 w1 wr (.slice ad q.length cp) q.length ((q.map (·.1)).map encStr)from E.row);have a2:=Hd a0;clear E Q hp b6 a0 hl0;go_wp2_with fail
   refine vC (jxz H.o (by rw[a2.o];omega)) fun w3 X=>?_;rw[c3.o]at X;rw[a2.o]at X ⊢;have c4:=Hd X;clear X H a2;go_wp2_with fail
   go_ret2
   refine⟨_,rfl,?_⟩
   unfold SRow;rw[jrX];have h3:=c4.o
   exact⟨h3.sl,h3.own,b3.o.trans h3.ext,fun b hb=>bH b3.o.size (h3.new b hb)⟩
  ·have c8:w1.heap.size<=r:=by rw[HR.o];exact bL _
   have c9:=b5.o.lt;have b7:=Q.keeps hk2 (fun e=>by have e:mb=r:=e;omega);have a3:x∈es:=(cN.1 hxl).1;have b8:x.2.2 ∉ q.map (·.2.2):=by have:=(cN.1 hxl).2;simpa [jkB]using this
   have b9:=jni Tryz.ES b7 a3 hr2 HM.o.born;have J:((q++[x]).map (·.2.2)).Nodup:=by
    rw[bZ,fF]
    exact⟨E.nd,by simp,fun a ha b hb e=>by simp at hb;subst hb;subst e;exact b8 ha⟩
   have K:∀ y∈q++[x],y∈es:=fun y hy=>by
    rcases bT.1 hy with hy | hy
    ·exact E.sub y hy
    ·simp at hy;exact hy ▸ a3
   have a5:q.length+1<=B.length:=by
    have:=iC (jgN _ J) (fun y hy=>K y hy)
    rw[b4]at this;simpa using this
   have z:ORow 9 1 w1 w2 (.slice ad q.length cp) q.length (keyS q):=E.row.keeps hk2 (fun b hb e=>E.ne b hb e) (fun b hb e=>by have e:b=r:=e;omega);have a1:Blk w2 r (.mapIter (some mb) ck (jkB (q++[x])) ck):=by
    have e:jkB (q++[x])=(jkB q).push x.2.2:=by unfold jkB;simp
    rw[e];exact hr2
   have O:=Hd (bB J (bB K E.ne));have H:=Hd z;have c5:=Hd a1;have c0:q.length+1<=maxLen:=by unfold maxLen;omega
   have c1:(q.length+1) * 16<=140737488355328:=vO
   have d0:=hr2.lt
   obtain⟨kx,Z⟩:=vE x.1
   have c6:=Hd Z;have a6:(Instr.entry (.pointer (some ⟨r,0,none⟩))).run Tryz.prog w2=.ok (.tuple #[encStr kx,x.2.1]) w2:=by rw[Z];exact b9
   have a7:(Instr.next (.pointer (some ⟨r,0,none⟩)) false 0).run Tryz.prog wr=.ok (.tuple #[.bool true,encStr kx,x.2.1]) w2:=by rw[Z];exact hnx
   obtain⟨n,hn⟩:=vE q.length
   have HN:=Hd hn;rw[<-hn]at c0 c1 a5 z H O ⊢;clear E Q b7 hxl hr2 hk2 a3 b8 b9 J K z a1 hnx Z a4 hn;unfold encStr at a6 a7;go_wp2_with (at_builtin;refine jba Tryz.sStrs (H.o.mono ((ExtR w2).alloc _)) (.tmp 28) (.tmp 30) rfl rfl rfl (ja3 (Blk.new w2 _)) (news:=[encStr kx]) (by intro u hu;simp at hu;rcases hu with rfl;rfl) rfl rfl c0 c1 ?_;intro v' w' r1 r2 r3)
   have HX:=Hd (bB r1 (bB r2 r3))
   obtain⟨d1,d2,rfl⟩:=r1.sl
   clear r1 r2 r3;go_wp2_with fail
   go_roundw
   case rel =>
    obtain⟨r1,r2,r3⟩:=HX.o
    have d3:=((ExtR w2).alloc (.cells #[.string ⟨kx.toArray⟩] 9)).size
    refine⟨q++[x],?_,?_,O.o.2.1,O.o.1,?_⟩
    ·have e:keyS (q++[x])=keyS q++[encStr kx]:=by unfold keyS;simp[c6.o]
     rw[e,bF, <-HN.o];exact r1
    ·refine (c5.o.alloc _).keeps r2 (fun e=>O.o.2.2 r e rfl)
    ·intro b hb e
     rcases r3 with r3 | r3
     ·exact O.o.2.2 b (r3 ▸ hb) e
     ·have:=r3 b hb;omega
   case measure=>simp[slN];omega
end
end Go.Proofs.YtepbencaoiompaaGreatDoor
