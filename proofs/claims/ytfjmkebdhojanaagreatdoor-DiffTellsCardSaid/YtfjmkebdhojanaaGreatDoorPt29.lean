/- Lemmas; each is under no condition but those that it states. -/
import Derived.Test.YtfjmkebdhojanaaGreatDoorPt28
namespace Go.Proofs.YtfjmkebdhojanaaGreatDoor
set_option linter.unusedSimpArgs false
set_option linter.unusedVariables false
set_option maxRecDepth 100000
set_option maxHeartbeats 16000000
section
open Go Go.RowKit
attribute [local go_sem] Oper.semAt_some
instance decBa (h:vB) (R:vM):Decidable (h∈R):=decidable_of_iff (R.any (fun x=>decide (h=x))=true) (by simp)
structure SetV(es:List EntK)(ck:Nat)(R:vM):Prop where
 same:es.map (fun x=>(x.1,x.2.1))=R.map fun h=>(h.data.toList,Value.int .i64 1)
 born:(es.map (·.2.2)).Nodup
 lt:∀ x∈es,x.2.2 < ck
def SetM(w:vW)(mb:Nat)(R:vM):Prop:=∃ es ck,Blk w mb (.map (Tryz.ES.arr es) ck)/\SetV es ck R
theorem jor:∀ {es:List EntK} {R:vM},es.map (fun x=>(x.1,x.2.1))=R.map (fun h=>(h.data.toList,Value.int .i64 1))->∀ h:vB,jaX es h.data.toList=if h∈R then some (Value.int .i64 1)else none
 | [],[],_,h=>by simp[jaX]
 | x :: es,[],e,h=>by cases e
 | [],y :: R,e,h=>by cases e
 | x :: es,y :: R,e,h=>by
  rw[bS,bS]at e;injection e with e1 e2;have o:=jor e2 h;have A:x.1=y.data.toList:=congrArg Prod.fst e1;have E:x.2.1=Value.int .i64 1:=congrArg Prod.snd e1;unfold jaX at o ⊢;rw[fY]
  by_cases hy:h=y
  ·subst hy
   rw[if_pos bG,decide_eq_true A.symm];show some x.2.1=_;rw[E]
  ·rw[decide_eq_false (fun e=>hy (jbo (e.trans A)))]
   simp only;rw[o]
   by_cases hm:h∈R
   ·rw[if_pos hm,if_pos (bD _ hm)]
   ·rw[if_neg hm,if_neg (fun e=>(bM.1 e).elim hy hm)]
theorem jtY:∀ {es:List EntK} {R:vM},es.map (fun x=>(x.1,x.2.1))=R.map (fun h=>(h.data.toList,Value.int .i64 1))->∀ {h:vB},h ∉ R->∀ (v:vV) (n:Nat),jbt es h.data.toList v n=es++[(h.data.toList,v,n)]
 | [],[],_,h,_,v,n=>rfl
 | x :: es,[],e,h,_,v,n=>by cases e
 | [],y :: R,e,h,_,v,n=>by cases e
 | x :: es,y :: R,e,h,hn,v,n=>by
  rw[bS,bS]at e;injection e with e1 e2;have o:x.1=y.data.toList:=congrArg Prod.fst e1;have A:¬ h=y:=fun e=>hn (by rw[e];exact bG);rw[jbt,if_neg (fun e=>A (jbo (e.trans o))),jtY e2 (fun E=>hn (bD _ E)) v n,dA]
theorem SetV.add{es:List EntK}{ck:Nat}{R:vM}(h:SetV es ck R){k:vB}(hk:k ∉ R):SetV (jbt es k.data.toList (.int .i64 1) ck) (ck+1) (R++[k]):=by
 rw[jtY h.same hk]
 refine⟨by rw[cB,cB,h.same];rfl,?_,fun x o=>?_⟩
 ·rw[cB,fL]
  refine⟨h.born,by simp,fun a A b hb e=>?_⟩
  obtain⟨x,o,rfl⟩:=bK.1 A
  have:=h.lt x o
  simp at hb;omega
 ·rcases bU.1 o with o | o
  ·have:=h.lt x o;omega
  ·rw[bY.1 o];exact Nat.lt_succ_self _
theorem SetV.len{es:List EntK}{ck:Nat}{R:vM}(h:SetV es ck R):es.length=R.length:=by
 have:=congrArg List.length h.same
 simpa using this
def OutM(w:vW)(ov:vV)(out:vM):Prop:=(ov=.map none/\out=[])\/∃ mb,ov=.map (some mb)/\SetM w mb out
theorem SetM.keeps{F:BSet}{w w':vW}{mb:Nat}{R:vM}(h:SetM w mb R)(k:jae F w w')(hF:¬ F mb):SetM w' mb R:=by
 obtain⟨e,o,A,E⟩:=h
 exact⟨e,o,A.keeps k hF,E⟩
theorem SetM.look{w:vW}{mb:Nat}{R:vM}(h:SetM w mb R)(x:vB):(Instr.lookup 60 (.map (some mb)) (.string x) false).run Tryz.prog w=.ok (.int .i64 (if x∈R then 1 else 0)) w:=by
 obtain⟨A,E,e,o⟩:=h
 have:=jcx Tryz.ES Tryz.uMapSI e (Tryz.zeroI w) x.data.toList false
 rw[jor o.same x]at this
 by_cases hx:x∈R
 ·rw[if_pos hx]at this ⊢;exact this
 ·rw[if_neg hx]at this ⊢;exact this
theorem jqM(w:vW)(x:vB):(Instr.lookup 60 (.map none) (.string x) false).run Tryz.prog w=.ok (.int .i64 0) w:=vY
theorem OutM.look{w:vW}{ov:vV}{out:vM}(h:OutM w ov out)(x:vB):(Instr.lookup 60 ov (.string x) false).run Tryz.prog w=.ok (.int .i64 (if x∈out then 1 else 0)) w:=by
 rcases h with⟨rfl,rfl⟩ |⟨mb,rfl,h⟩
 ·rw[if_neg (cM)];exact jqM w x
 ·exact h.look x
theorem SetM.put{w:vW}{mb:Nat}{R:vM}(h:SetM w mb R){x:vB}(hx:x ∉ R):∃ w',(Instr.mapUpdate 60 (.map (some mb)) (.string x) (.int .i64 1)).run Tryz.prog w=.ok () w'/\SetM w' mb (R++[x])/\jae (fun z=>z=mb) w w':=by
 obtain⟨A,E,e,o⟩:=h
 have:=jb4 Tryz.ES Tryz.uMapSI e x.data.toList (.int .i64 1)
 rw[jor o.same x,if_neg hx]at this
 exact⟨_,this,⟨_,_,e.put_same _,o.add hx⟩,jae.onePut _ _ _⟩
def jiO(w:vW)(mb:Nat):Nat:=match w.heap[mb]? with | some (.map a _)=>a.size | _=>0
theorem SetM.len{w:vW}{mb:Nat}{R:vM}(h:SetM w mb R):jiO w mb=R.length:=by
 obtain⟨e,E,o,A⟩:=h
 unfold jiO;rw[show w.heap[mb]?=_ from o];show (Tryz.ES.arr e).size=_;unfold ja5.arr;rw[dK,cC,A.len]
theorem jqE{n:jad}(h:n.refs.length=16):(jaL n).length<=16:=by
 unfold jaL
 have:=iT jcP n.refs
 omega
theorem joz{ops:Array Oper}{rest:List Oper}{d:Option Tmp}{ty:TypeId}{pos:String}{af:Array Edge}{a:Act}{w1 w0 w:vW}{Q:Exit->Act->vW->Prop}{s x:Operand}{v pv:vV}{n m N:Nat}{xs ys:vM}
  (hR:SRow w0 w v n xs) (hP:SRow w1 w pv m ys) (hN:n+m=N) (hs:a.eval s=v) (hx:a.eval x=pv) (h63:N<=100000000)
  (h:∀ e w',SRow w0 w' e N (xs++ys)->jae (fun b=>v.ownBlock=some b) w w'->(e.ownBlock=v.ownBlock\/∀ b,e.ownBlock=some b->w.heap.size<=b)->wpList Tryz.prog ops Q rest (a.put d e) w') :
  wpList Tryz.prog ops Q (⟨d,.call { callee:=.builtin .append,args:=#[s,x],argTypes:=#[31,31] },ty,pos,af,none⟩ :: rest) a w:=by
 subst hN
 obtain⟨E,⟨rfl,H⟩ |⟨g,J,K,rfl,H,h4,h5,h6,h7⟩⟩:=hP.own
 ·subst H
  have o:ys=[]:=bE (by simpa using E);subst o
  obtain⟨ad,c,rfl⟩:=hR.sl
  have A:n<=c:=jlg hR;refine jeX Tryz.sStrs hs hx A (h _ _ ?_ (jae.refl _ _) (.inl rfl));rw[bZ];exact hR
 ·exact jaO Tryz.sStrs hR s x rfl hs hx (fun j u O=>hP.own.cells (g:=g) rfl j u O) (fun u X=>by obtain⟨y,_,rfl⟩:=bK.1 X;rfl) E rfl (by unfold maxLen;omega) vO (fun e w' Z r2 r3=>h e w' (by unfold SRow;rw[cB];exact Z) r2 r3)
structure RcR(S:vT)(out Rall:vM)(W:World)(mb:Nat)(tv:Value)(wr:World)(L hs:vM):Prop where
 set:SetM wr mb L
 tod:SRow W wr tv hs.length hs.reverse
 ap:tv.ownBlock≠some mb
 rx:jb6 S out L hs Rall
 le:hs.length<=1+16 * L.length
 ll:L.length<=S.length
 mbn:W.heap.size<=mb
def jzb(S:vT)(out Rall:vM)(W:vW)(mb:Nat)(tv:vV)(wr:vW):Prop:=∃ L hs,RcR S out Rall W mb tv wr L hs
theorem jtB{S:vT}{out L R:vM}(h:jb6 S out L [] R):L=R:=by cases h;rfl
theorem jj9{S:vT}{out L hs R:vM}{h:vB}(k:jb6 S out L (h :: hs) R)(hh:h∈L\/h∈out):jb6 S out L hs R:=by
 cases k with
 | seen _ _ _ _ _ k=>exact k
 | no _ _ _ _ h1 h2=>exact (hh.elim h1 h2).elim
 | go _ _ _ _ _ _ h1 h2=>exact (hh.elim h1 h2).elim
theorem jvZ{S:vT}{out L hs R:vM}{h:vB}(k:jb6 S out L (h :: hs) R)(h1:h ∉ L)(h2:h ∉ out) :
  h.size=32/\((atL S h.data.toList=none/\jb6 S out L hs R)\/∃ y n,L.length+1<=S.length/\atL S h.data.toList=some y/\jbs y.2.2.text n/\jb6 S out (L++[h]) ((jaL n).reverse++hs) R):=by
 cases k with
 | seen _ _ _ _ h3 _=>exact (h3.elim h1 h2).elim
 | no _ _ _ _ _ _ h3 h4 k=>exact⟨h3,.inl ⟨h4,k⟩⟩
 | go _ _ _ y n _ _ _ h3 h4 h5 h6 k=>exact⟨h3,.inr ⟨y,n,h4,h5,h6,k⟩⟩
theorem SRow.pop{W1 wr:vW}{g c:Nat}{t:vB}{ts:vM}(h:SRow W1 wr (.slice (some ⟨g,0,none⟩) (t :: ts).length c) (t :: ts).length (t :: ts).reverse):SRow W1 wr (.slice (some ⟨g,0,none⟩) ts.length c) ts.length ts.reverse:=by
 have e:=jpy (m:=ts.length) h.own (by simp);rw[jD, <-jJ,gR,gL (by simp),bN (by simp)]at e
 exact⟨⟨_,_,rfl⟩,e,h.ext,fun b hb=>h.new b hb⟩
theorem SRow.last{W1 wr:vW}{g c:Nat}{t:vB}{ts:vM}(h:SRow W1 wr (.slice (some ⟨g,0,none⟩) (t :: ts).length c) (t :: ts).length (t :: ts).reverse):wr.cell? ⟨g,ts.length,none⟩=some (.string t):=by
 rw[h.own.cellAt ts.length (by simp),bX,gR,cQ (by simp)];simp
theorem RcR.pop{S:vT}{out Rall:vM}{W:vW}{mb g c n:Nat}{wr wr':vW}{L hs:vM}{h:vB}(k:RcR S out Rall W mb (.slice (some ⟨g,0,none⟩) (h :: hs).length c) wr L (h :: hs))(hn:n=hs.length)(hx:jb6 S out L hs Rall)(e:Ext wr wr'):jzb S out Rall W mb (.slice (some ⟨g,0,none⟩) n c) wr':=by
 subst hn
 refine⟨L,hs,k.set.keeps e (fun h=>h),ORow.mono k.tod.pop e,fun e=>k.ap e,hx,?_,k.ll,k.mbn⟩
 have:=k.le
 simp only[bF]at this;omega
def RchP(W:vW)(R:vM)(e:Ending)(w':vW):Prop:=∃ mb,e=.returned (.map (some mb))/\SetM w' mb R/\Ext W w'
theorem joX(W:vW)(s bm:Nat)(room:Int)(S:vT)(hs:jaT W s bm room S)(hsl:S.length<=100000)(r:vB)(ov:vV)(out:vM)(ho:OutM W ov out){R:vM}(hR:jb6 S out [] [r] R) :
  vQ 24 #[.pointer (some ⟨s,0,none⟩),.string r,ov] W (RchP W R):=by
 have HS:=Hd hs;have HO:=Hd ho;have HR:=Hd hR;have e5:=Tryz.makeMapSI;clear hs ho hR;go_enter Tryz.func24,Tryz.ntmps24;go_wp2_with fail
 go_step3;go_wp2_with fail
 obtain⟨w2,Z⟩:=vE ((W.alloc (.map #[] 0)).alloc (.cells #[.string r] 9))
 have b0:=Blk.new W (.map #[] 0)
 obtain⟨w1,b6⟩:=vE (W.alloc (.map #[] 0))
 rw[<-b6]at Z b0 ⊢;have hz:w1.heap.size=W.heap.size+1:=by rw[b6,bT]
 have b8:Ext W w1:=by rw[b6];exact (ExtR W).alloc _
 have b9:Ext w1 w2:=by rw[Z];exact (ExtR w1).alloc _
 have c0:SRow W w2 (.slice (some ⟨w1.heap.size,0,none⟩) 1 1) 1 [r]:=by rw[Z];exact ORow.lit #[.string r] b8 vI rfl
 rw[hz]at c0;have d3:SetM w2 W.heap.size []:=⟨[],0,b0.keeps b9 (fun h=>h),rfl,iP,fun x hx=>(cM hx).elim⟩;rw[<-Z];have H2:=Hd (bB c0 (bB d3 (b8.trans b9)));clear Z b6 b0 b8 b9 c0 d3 e5 hz w1
 obtain⟨O,c2⟩:=vE W.heap.size
 have e6:=Hd c2;rw[<-c2]at H2 ⊢;clear c2;go_step3;go_wp2_with fail
 go_loopw [8] (fun tv wr=>jzb S out R W O tv wr) (fun tv wr=>(S.length - jiO wr O) * 18+lenV tv)
 case atStart=>exact⟨[],[r],H2.o.2.1,H2.o.1,(by intro e;have e:some (O+1)=some O:=e;have:=bO e;omega),HR.o,bL _,cD _,by rw[e6.o];exact bL _⟩
 case round =>
  obtain⟨X,e7⟩:=vE wr
  subst e7
  obtain⟨L,hs,hK⟩:=hrel
  obtain⟨ta,c,rfl⟩:=hK.tod.sl
  have A:=Hd hK;clear hK;cases hs with
  | nil =>
   have d4:=jtB A.o.rx;have HF:=Hd (show SetM X O R/\Ext W X by rw[<-d4];exact⟨A.o.set,A.o.tod.ext⟩);clear d4;rw[show ([]:vM).length=0 from rfl];go_wp2_with fail
   go_ret
   exact⟨_,rfl,HF.o.1,HF.o.2⟩
  | cons h hs =>
   obtain⟨g,rfl⟩:=jgS A.o.tod (by simp)
   obtain⟨n,hn⟩:=vE hs.length
   have HN:=Hd hn;have hl:(h :: hs).length=n+1:=by rw[hn];rfl
   have f6:=A.o.ll;have f7:n<=2000000:=by have:=A.o.le;rw[hl]at this;omega
   have q1:=SRow.last A.o.tod;rw[<-hn]at q1;have c1:(0:Int) < (n:Int)+1:=vO
   have c3:(n:Int)<=(c:Int):=by have:=jlg A.o.tod;rw[hl]at this;omega
   rw[hl];have K:=A.o.set.look h;have E:=(show OutM X ov out by
    rcases HO.o with h |⟨mo,h1,h2⟩
    ·exact .inl h
    ·obtain⟨es,ck,hB,hV⟩:=h2
     exact .inr ⟨mo,h1,es,ck,hB.keeps A.o.tod.ext (fun h=>h),hV⟩).look h
   clear hn hl
   by_cases hL:h∈L
   ·rw[if_pos hL]at K
    have HX:=Hd (jj9 A.o.rx (.inl hL));clear hL E;go_wp2_with fail
    go_roundw
    case rel=>exact RcR.pop A.o HN.o HX.o (ExtR X)
    case measure=>simp[lenV]
   ·rw[if_neg hL]at K
    by_cases hO:h∈out
    ·rw[if_pos hO]at E
     have HX:=Hd (jj9 A.o.rx (.inr hO));clear hL hO;go_wp2_with fail
     go_roundw
     case rel=>exact RcR.pop A.o HN.o HX.o (ExtR X)
     case measure=>simp[lenV]
    ·rw[if_neg hO]at E
     obtain⟨d5,e8⟩:=jvZ A.o.rx hL hO
     have d6:=Hd hL;clear hL hO;go_wp2_with fail
     refine vH (jea X h vO) fun W4 c4=>?_;have d7:=Hd (HS.o.ext (A.o.tod.ext.trans c4));have d8:=Hd d5;clear K E d5 q1;rcases e8 with⟨hy,hx⟩ |⟨y,nd,hl1,hy,hn,hx⟩
     ·have c5:=Hd hx
      have c6:Hid (jg0 S (jao h) none):=.inr ⟨h,d8.o,rfl,.inl ⟨hy,rfl⟩⟩;clear hx hy;go_wp2_with fail
      refine vH (jl2 W4 s bm room S d7.o c6.o) fun W8 hE=>?_;have b7:=Hd (c4.o.trans hE);unfold jad.V;go_wp2_with (refine jaj Tryz.allocNode rfl rfl ?_;intro W9 a4 a5;refine jah (vs:=jaH.cells) rfl rfl rfl rfl a4 rfl Tryz.szNode jaH.one ?_;intro a6 Q H)
      have J:=Hd (b7.o.trans (a5.trans' H (fun z hz e=>by have e:z=W8.heap.size:=e;omega)));clear a4 a5 Q H;refine (jkO a6).mono ?_;rintro e e9 ⟨rfl,rfl⟩;go_wp2_with fail
      go_roundw
      case rel=>exact RcR.pop A.o HN.o c5.o J.o
      case measure =>
       have e1:=A.o.set.len;have e2:=(A.o.set.keeps J.o (fun h=>h)).len;show (S.length - jiO a6 O) * 18+n < (S.length - jiO X O) * 18+(n+1);omega
     ·obtain⟨dg,hg⟩:=hn.2
      have a7:=hg.one (inlP dg);have c7:=a7.refs;have d9:=Hd c7;have a8:=Hd (nd.cells_len c7);have HG:=Hd hg;have c5:=Hd hx;have e0:=Hd hl1;have c6:=Hd (show jg0 S (jao h) (some nd)from .inr ⟨h,d8.o,rfl,.inr ⟨y,nd,hy,hn,rfl⟩⟩);clear hx hy hn a7 c7 hg hl1;go_wp2_with fail
      refine vH (joU W4 s bm room S d7.o c6.o) fun W8 hE=>?_;have b7:=Hd (c4.o.trans hE);unfold jad.V;go_wp2_with (refine jaj Tryz.allocNode rfl rfl ?_;intro W9 a4 a5;refine jah (vs:=nd.cells) rfl rfl rfl rfl a4 (by rw[a8.o];rfl) (by rw[a8.o];exact Tryz.szNode) nd.one ?_;intro a6 Q H)
      have a9:Ext W8 a6:=a5.trans' H (fun z hz e=>by have e:z=W8.heap.size:=e;omega);have J:=Hd (b7.o.trans a9);have b1:=Hd Q;clear a4 a5 Q H a9
      obtain⟨nb,e3⟩:=vE W8.heap.size
      have b2:=Hd (show X.heap.size<=nb by have:=b7.o.size;omega);rw[<-e3]at b1 ⊢;clear e3;refine (jhk a6).mono ?_;rintro e e9 ⟨rfl,rfl⟩;have a2:=A.o.set.keeps J.o (fun h=>h);have a0:=a2.look h;rw[if_neg d6.o]at a0
      obtain⟨c8,c9,a1,a3⟩:=a2.put d6.o
      have f5:O < X.heap.size:=by obtain⟨es,ck,hB,_⟩:=A.o.set;exact hB.lt
      have b3:=Hd a1;have b4:=Hd (b1.o.keeps a3 (fun e=>by have e:nb=O:=e;have:=b2.o;omega));have e4:SRow W X (.slice (some ⟨g,0,none⟩) n c) n hs.reverse:=by have:=SRow.pop A.o.tod;rw[<-HN.o]at this;exact this
      have f8:W.heap.size<=O:=A.o.mbn;have d0:=Hd ((ORow.mono e4 J.o).keeps a3 (fun b hb e=>A.o.ap (by rw[show (Value.slice (some ⟨g,0,none⟩) (h :: hs).length c).ownBlock=some b from hb];exact congrArg some e)) (fun b hb e=>by have e:b=O:=e;omega));clear a2 a1 a3 e4;go_wp2_with (refine jaf 103 (.tmp 10) rfl rfl _ _ rfl (jaq c8 nb nd d9.o b4.o) ?_)
      refine (jkM dg nd HG.o c8).mono ?_;rintro e f9 ⟨hv,rfl,hH,_⟩;have g0:=jqE d9.o
      obtain⟨q,hq⟩:=vE (n+(jaL nd).length)
      have HQ:=Hd hq;have HH:=Hd hH;have d1:=Hd (ORow.mono d0.o hH.ext);have d2:=Hd (b3.o.keeps hH.ext (fun h=>h));have f0:q<=100000000:=vO
      clear hH hq c9 a0;go_wp2_with (refine joz d1.o HH.o HQ.o.symm rfl rfl f0 ?_;intro g1 f1 r1 r2 r3;have f2:=Hd r1;have f3:=Hd r2;have f4:=Hd r3;obtain⟨g2,g3,rfl⟩:=r1.sl;clear r1 r2 r3)
      have b5:=Hd (d2.o.keeps f3.o (fun e=>A.o.ap e));go_roundw
      case rel =>
       have h1:=A.o.le;have h2:=HN.o;simp only[bF]at h1
       refine⟨L++[h],(jaL nd).reverse++hs,b5.o,?_,?_,c5.o,?_,by rw[bC];exact e0.o,A.o.mbn⟩
       ·rw[List.reverse_append,List.reverse_reverse,bC,fJ,gN, <-HN.o, <-HQ.o];exact f2.o
       ·intro e
        rcases f4.o with r3 | r3
        ·exact A.o.ap (r3 ▸ e)
        ·have:=r3 O e
         have h5:=HH.o.ext.size;have h6:c8.heap.size ≥ X.heap.size:=by obtain⟨es,ck,hB,_⟩:=b3.o;have:=b4.o.lt;have:=b2.o;omega
         omega
       ·rw[bC,bC,fJ];simp;omega
      case measure =>
       have e1:=A.o.set.len;have e2:=b5.o.len;rw[bC]at e2;have h3:=e0.o;have h4:=HQ.o;show (S.length - jiO f1 O) * 18+q < (S.length - jiO X O) * 18+(n+1);simp at e2;omega
end
section
open Go Go.RowKit
end
section
open Go Go.RowKit
attribute [local go_sem] Oper.semAt_some
theorem SetV.keysL{es:List EntK}{ck:Nat}{R:vM}(h:SetV es ck R):es.map (·.1)=R.map fun h=>h.data.toList:=by
 have:=congrArg (List.map Prod.fst) h.same
 rw[dN,dN]at this;exact this
def jrf(W:vW)(B:vM)(e:Ending)(w':vW):Prop:=∃ v,e=.returned (.tuple #[v,.int .i64 0])/\SRow W w' v B.length (baL (jdZ (B.map fun h=>h.data.toList)))
theorem jsj(W:vW)(s bm:Nat)(room:Int)(S:vT)(hs:jaT W s bm room S)(hsl:S.length<=100000)(a b:vB)(h:(jdB S a && jdB S b)=true){A B:vM}(hA:jb6 S [] [] [a] A)(hB:jb6 S A [] [b] B)(hbl:B.length<=100000) :
  vQ 7 #[.pointer (some ⟨s,0,none⟩),.string a,.string b] W (jrf W B):=by
 have hk:([a,b].all (jdB S))=true:=by simpa using h
 have HC:=Hd (fun(v:vV) (W1:vW) (e:Ext W W1) (hv:RdS W1 v [a,b])=>jiJ W1 s bm room S (hs.ext e) v [a,b] hv (show (2:Nat)<=1000 by decide));rw[hk]at HC;have HA:=Hd (fun(W1:vW) (e:Ext W W1)=>joX W1 s bm room S (hs.ext e) hsl a (.map none) [] (.inl ⟨rfl,rfl⟩) hA);have HB:=Hd (fun(W1:vW) (e:Ext W W1) (m:Nat) (hm:SetM W1 m A)=>joX W1 s bm room S (hs.ext e) hsl b (.map (some m)) A (.inr ⟨m,rfl,hm⟩) hB);clear hs h hk hA hB;go_enter Tryz.func7,Tryz.ntmps7;go_wp2_with fail
 refine vH (HC.o _ _ ((ExtR W).alloc _) (jb2 W [a,b] _)) fun W2 hE=>?_;have HE:=Hd (((ExtR W).alloc (.cells ([a,b].map Value.string).toArray 9)).trans hE);go_wp2_with fail
 refine (jhk W2).mono ?_;rintro e W3 ⟨rfl,rfl⟩;go_wp2_with fail
 refine (HA.o W2 HE.o).mono ?_;rintro e W4 ⟨ma,rfl,b0,b1⟩;have b2:=Hd b0;have b3:=Hd (HE.o.trans b1);clear b0 b1;go_wp2_with fail
 refine (HB.o W4 b3.o ma b2.o).mono ?_;rintro e w1 ⟨mb,rfl,c4,b4⟩;have b5:=Hd (b3.o.trans b4)
 obtain⟨es,ck,hm,hv⟩:=c4
 have c9:=jm7 Tryz.ES Tryz.uMapSI hm;have b6:es.length=B.length:=hv.len;have HM:=Hd hv;have b7:=Hd hm;clear b4 hm hv HA HB HC b2;go_wp2_with fail
 obtain⟨r,hr⟩:=vE w1.heap.size
 have HR:=Hd hr;rw[<-hr];clear hr;go_loopw [8] (fun v wr=>jAP w1 r mb ck es v wr) (fun v _=>B.length - slN v)
 case atStart =>
  refine⟨[],⟨ORow.nil _ _ ((ExtR w1).alloc _),?_,fun x hx=>(by cases hx),iP,fun b hb e=>(by cases hb)⟩⟩
  rw[HR.o];exact Blk.new w1 _
 case round =>
  obtain⟨E,J⟩:=hrel
  obtain⟨ad,cp,rfl⟩:=J.row.sl
  have Z:=(b7.o).keeps J.row.ext (fun g=>g);have a6:E.length<=es.length:=J.len;rcases jpS Tryz.ES Z J.it HM.o.lt 0 with⟨hl0,hnx⟩ |⟨x,hxl,w2,hnx,hr2,hk2⟩
  ·have hp:=J.done hl0 HM.o.born
   have a0:E.length=B.length:=by rw[hp.length_eq,b6]
   have b8:jdZ (E.map (·.1))=jdZ (B.map fun h=>h.data.toList):=by
    rw[jki (hp.map _),HM.o.keysL]
   have c5:=Hd b8;have K:=Hd (show ORow 9 1 w1 wr (.slice ad E.length cp) E.length ((E.map (·.1)).map encStr)from J.row);have a4:=Hd a0;clear J Z hp b8 a0 hl0;go_wp2_with fail
   refine vC (jwV K.o (by rw[a4.o];omega)) fun w3 a2=>?_;rw[c5.o]at a2;rw[a4.o]at a2 ⊢;have c6:=Hd a2;clear a2 K a4;go_wp2_with fail
   go_ret2
   refine⟨_,rfl,?_⟩
   unfold SRow;rw[jrA];have h3:=c6.o
   exact⟨h3.sl,h3.own,b5.o.trans h3.ext,fun b hb=>bJ b5.o.size (h3.new b hb)⟩
  ·have d0:w1.heap.size<=r:=by rw[HR.o];exact bL _
   have d1:=b7.o.lt;have b9:=Z.keeps hk2 (fun e=>by have e:mb=r:=e;omega);have a5:x∈es:=(cP.1 hxl).1;have c0:x.2.2 ∉ E.map (·.2.2):=by have:=(cP.1 hxl).2;simpa [jku]using this
   have c1:=jm6 Tryz.ES b9 a5 hr2 HM.o.born;have O:((E++[x]).map (·.2.2)).Nodup:=by
    rw[cB,fL]
    exact⟨J.nd,by simp,fun a ha b hb e=>by simp at hb;subst hb;subst e;exact c0 ha⟩
   have Q:∀ y∈E++[x],y∈es:=fun y hy=>by
    rcases bU.1 hy with hy | hy
    ·exact J.sub y hy
    ·simp at hy;exact hy ▸ a5
   have a7:E.length+1<=B.length:=by
    have:=iJ (jgH _ O) (fun y hy=>Q y hy)
    rw[b6]at this;simpa using this
   have H:ORow 9 1 w1 w2 (.slice ad E.length cp) E.length (keyS E):=J.row.keeps hk2 (fun b hb e=>J.ne b hb e) (fun b hb e=>by have e:b=r:=e;omega);have a1:Blk w2 r (.mapIter (some mb) ck (jku (E++[x])) ck):=by
    have e:jku (E++[x])=(jku E).push x.2.2:=by unfold jku;simp
    rw[e];exact hr2
   have X:=Hd (bB O (bB Q J.ne));have K:=Hd H;have c7:=Hd a1;have c2:E.length+1<=maxLen:=by unfold maxLen;omega
   have c3:(E.length+1) * 16<=140737488355328:=vO
   have d2:=hr2.lt
   obtain⟨kx,a3⟩:=vE x.1
   have c8:=Hd a3;have a8:(Instr.entry (.pointer (some ⟨r,0,none⟩))).run Tryz.prog w2=.ok (.tuple #[encStr kx,x.2.1]) w2:=by rw[a3];exact c1
   have a9:(Instr.next (.pointer (some ⟨r,0,none⟩)) false 0).run Tryz.prog wr=.ok (.tuple #[.bool true,encStr kx,x.2.1]) w2:=by rw[a3];exact hnx
   obtain⟨n,hn⟩:=vE E.length
   have HN:=Hd hn;rw[<-hn]at c2 c3 a7 H K X ⊢;clear J Z b9 hxl hr2 hk2 a5 c0 c1 O Q H a1 hnx a3 a6 hn;unfold encStr at a8 a9;go_wp2_with (at_builtin;refine jaO Tryz.sStrs (K.o.mono ((ExtR w2).alloc _)) (.tmp 28) (.tmp 30) rfl rfl rfl (jaJ (Blk.new w2 _)) (news:=[encStr kx]) (by intro u hu;simp at hu;rcases hu with rfl;rfl) rfl rfl c2 c3 ?_;intro v' w' r1 r2 r3)
   have HX:=Hd (bB r1 (bB r2 r3))
   obtain⟨d3,d4,rfl⟩:=r1.sl
   clear r1 r2 r3;go_wp2_with fail
   go_roundw
   case rel =>
    obtain⟨r1,r2,r3⟩:=HX.o
    have d5:=((ExtR w2).alloc (.cells #[.string ⟨kx.toArray⟩] 9)).size
    refine⟨E++[x],?_,?_,X.o.2.1,X.o.1,?_⟩
    ·have e:keyS (E++[x])=keyS E++[encStr kx]:=by unfold keyS;simp[c8.o]
     rw[e,bC, <-HN.o];exact r1
    ·refine (c7.o.alloc _).keeps r2 (fun e=>X.o.2.2 r e rfl)
    ·intro b hb e
     rcases r3 with r3 | r3
     ·exact X.o.2.2 b (r3 ▸ hb) e
     ·have:=r3 b hb;omega
   case measure=>simp[slN];omega
theorem jfP{S:vT}{l:vL}(h:HasM S l):jdB S (rootM l)=true:=by
 obtain⟨y,e,_⟩:=h.has _ (jbW _)
 unfold jdB rootM;rw[show (shaB (jaG l).text).data.toList=ky (jaG l).text from rfl,e];rfl
theorem jol{S:vT}{out R:vM}{r:vB}(h:jb6 S out [] [r] R):R.length<=S.length:=
 jhC.len ⟨ji1 h iP,fun x e=>by
  rcases jmT h (fun _=>True) (fun _ _ _ _ _ _ _ _=>trivial) (fun _ _=>trivial) x e with h | h
  ·exact (cM h).elim
  ·exact h.2.2⟩
def jw7(a b:vL)(B:vM):Prop:=B.Nodup/\∀ k,k∈B↔(∃ t∈jav (jaG b),k=shaB t)/\¬ ∃ t∈jav (jaG a),k=shaB t
theorem jmd(W:vW)(s bm:Nat)(room:Int)(S:vT)(hs:jaT W s bm room S)(hN:AllN S)(hsl:S.length<=100000){a b:vL}(ha:HasM S a)(hb:HasM S b){U:vM}(hU:InjL U)(h1:∀ x∈jav (jaG a),x∈U)(h2:∀ x∈jav (jaG b),x∈U) :
  ∃ B,jw7 a b B/\vQ 7 #[.pointer (some ⟨s,0,none⟩),.string (rootM a),.string (rootM b)] W (jrf W B):=by
 have E:jhC S []:=⟨iP,fun x K=>(cM K).elim⟩;have e:∀ l,∀ h∈[rootM l],h.size=32:=fun l h O=>by rw[bY.1 O];exact jbd _
 obtain⟨A,H⟩:=jpI hN [] S.length [] [rootM a] E (by simp) (e a)
 obtain⟨B,o⟩:=jpI hN A S.length [] [rootM b] E (by simp) (e b)
 have J:∀ k,k∈A↔∃ t∈jav (jaG a),k=shaB t:=fun k=>by
  have:=jmU W ha H (fun t _ h=>(cM h).elim) k
  rw[this]
  exact⟨fun h=>h.1,fun h=>⟨h,cM⟩⟩
 have Q:∀ k,k∈B↔(∃ t∈jav (jaG b),k=shaB t)/\¬ ∃ t∈jav (jaG a),k=shaB t:=fun k=>by
  have:=jmU W hb o (jvN W ha.ok hU h1 h2 J) k
  rw[this,J]
 refine⟨B,⟨ji1 o iP,Q⟩,jsj W s bm room S hs hsl _ _ (by rw[jfP ha,jfP hb];rfl) H o ?_⟩
 have:=jol o
 omega
noncomputable def makesN(l:vL)(cs:List Chg)(b:vB):Int:=if jbk l cs=0 then (if rootM (jbh l cs)=b then 0 else 9)else jbk l cs
theorem jmv(W:vW)(hc:jb0 W)(he:ErrT W)(s bm:Nat)(room:Int)(S:vT)(hs:jaT W s bm room S)(hN:AllN S){l:vL}(hl:HasM S l)(u:vV)(cs:List Chg)(hu:RdC W u cs)(hnc:cs.length<=9223372036854775807)(hsc:∀ c∈cs,c.key.size<=9223372036854775807/\c.value.size<=9223372036854775807)(b:vB) :
  vR 15 #[.pointer (some ⟨s,0,none⟩),.string (rootM l),u,.string b] W (.int .i64 (makesN l cs b)):=by
 obtain⟨a,ha⟩:=vE (rootM l)
 have hk:([a].all (jdB S))=true:=by rw[ha];simpa using jfP hl
 have HC:=Hd (fun(v:vV) (W1:vW) (e:Ext W W1) (hv:RdS W1 v [a])=>jiJ W1 s bm room S (hs.ext e) v [a] hv (show (1:Nat)<=1000 by decide));rw[hk]at HC;have HU:=Hd (fun(W1:vW) (e:Ext W W1)=>jAD W1 (hc.ext e) (he.ext e) s bm room S (hs.ext e) hN l hl u cs (hu.ext e) hnc hsc);rw[<-ha]at HU ⊢;have a1:=Hd hc;clear hs hk hu hc he ha;go_enter Tryz.func15,Tryz.ntmps15;go_wp2_with fail
 refine vH (HC.o _ _ ((ExtR W).alloc _) (jb2 W [a] _)) fun W2 hE=>?_;have HE:=Hd (((ExtR W).alloc (.cells ([a].map Value.string).toArray 9)).trans hE);go_wp2_with fail
 refine (jhk W2).mono ?_;rintro e W3 ⟨rfl,rfl⟩;go_wp2_with fail
 refine (HU.o W2 HE.o).mono ?_;intro e W4 Q;unfold UpdP at Q
 by_cases h0:jbk l cs=0
 ·rw[if_pos h0]at Q
  obtain⟨r,rfl,E⟩:=Q
  obtain⟨H,J⟩:=vE (newM S (jbh l cs))
  rw[<-J]at E;have K:∃ ts,H=(jaG (jbh l cs)).text :: ts:=⟨_,J⟩;clear J
  obtain⟨ts,rfl⟩:=K
  obtain⟨t,ht⟩:=vE (jaG (jbh l cs)).text
  rw[<-ht]at E
  obtain⟨ra,rc,rfl⟩:=E.sl
  obtain⟨g,rfl⟩:=jgS E (by simp)
  have q1:=jev E.own (j:=0) (u:=.string t) vF
  obtain⟨n,hn⟩:=vE ts.length
  rw[show (t :: ts).length=n+1 by rw[hn];rfl];have A:=Hd (HE.o.trans E.ext);have X:makesN l cs b=if shaB t=b then 0 else 9:=by unfold makesN rootM;rw[if_pos h0,ht]
  have O:=Hd X;clear E X hn ht h0;have c1:¬(n:Int)+1=0:=vO
  have c2:((n:Int)+1 == 0)=false:=by simpa using c1
  go_wp2_with fail
  refine vH (of_t _ _ [t] (by simp) (jb2 W4 [t] 9) ((a1.o.ext A.o).ext ((ExtR W4).alloc _))) fun W5 a2=>?_;rw[jdx];have Z:=Hd (A.o.trans (((ExtR W4).alloc (.cells ([t].map Value.string).toArray 9)).trans a2))
  by_cases hb:shaB t=b
  ·have hq:((shaB t).toList == b.toList)=true:=by rw[jeQ];exact decide_eq_true hb
   rw[if_pos hb]at O;clear hb;go_wp2_with fail
   go_ret
   exact⟨by rw[O.o];rfl,Z.o⟩
  ·have hq:((shaB t).toList == b.toList)=false:=by rw[jeQ];exact decide_eq_false hb
   rw[if_neg hb]at O;clear hb;go_wp2_with fail
   go_ret
   exact⟨by rw[O.o];rfl,Z.o⟩
 ·rw[if_neg h0]at Q
  obtain⟨rfl,a0⟩:=Q
  have A:=Hd (HE.o.trans a0);have X:makesN l cs b=jbk l cs:=by unfold makesN;rw[if_neg h0]
  have O:=Hd X
  obtain⟨x,hx⟩:=vE (jbk l cs)
  rw[<-hx]at O h0 ⊢;clear X a0 hx;have c1:(x != 0)=true:=by simpa using h0
  go_wp2_with fail
  go_ret
  exact⟨by rw[O.o];rfl,A.o⟩
def jut(W:vW)(l:vL)(cs:List Chg)(e:Ending)(w':vW):Prop:=
 if jbk l cs=0 then OfP W (jbh l cs) l e w' else e=.returned (.tuple #[.slice none 0 0,.int .i64 (jbk l cs)])/\Ext W w'
theorem jws(W:vW)(s bm:Nat)(room:Int)(S:vT)(hs:jaT W s bm room S)(hN:AllN S){l:vL}(hl:HasM S l)(u:vV)(cs:List Chg)(hu:RdC W u cs)(hnc:cs.length<=9223372036854775807)(hsc:∀ c∈cs,c.key.size<=9223372036854775807/\c.value.size<=9223372036854775807) :
  vQ 14 #[.pointer (some ⟨s,0,none⟩),.string (rootM l),u] W (jut W l cs):=by
 obtain⟨a,ha⟩:=vE (rootM l)
 have hk:([a].all (jdB S))=true:=by rw[ha];simpa using jfP hl
 have E:=jaD hl.ok;have A:l.length<=9223372036854775807/\∀ p∈l,p.1.size<=9223372036854775807/\p.2.size<=9223372036854775807:=⟨by have:=E.len;omega,fun p hp=>by have:=E.size p hp;omega⟩;have HC:=Hd (fun(v:vV) (W1:vW) (e:Ext W W1) (hv:RdS W1 v [a])=>jiJ W1 s bm room S (hs.ext e) v [a] hv (show (1:Nat)<=1000 by decide));rw[hk]at HC;have K:=Hd (fun(W1:vW) (e:Ext W W1)=>jAz W1 s bm room S (hs.ext e) hN l hl);rw[<-ha]at K ⊢;have Q:=Hd (fun(W1:vW) (v:vV) (hv:RdP W1 v l) (e:Ext W W1)=>jry W1 v u l cs hv (hu.ext e) A.1 hnc A.2 hsc);have X:=Hd (bB hl.ok A);clear hs hk hu ha E A;go_enter Tryz.func14,Tryz.ntmps14;go_wp2_with fail
 refine vH (HC.o _ _ ((ExtR W).alloc _) (jb2 W [a] _)) fun W2 hE=>?_;have HE:=Hd (((ExtR W).alloc (.cells ([a].map Value.string).toArray 9)).trans hE);go_wp2_with fail
 refine (jhk W2).mono ?_;rintro e W3 ⟨rfl,rfl⟩;go_wp2_with fail
 refine (K.o W2 HE.o).mono ?_;rintro e W4 ⟨v,rfl,hV⟩;have HV:=Hd hV;have O:=Hd (HE.o.trans hV.ext);clear hV;go_wp2_with fail
 refine (Q.o W4 v HV.o.rd O.o).mono ?_;intro e W5 Z;unfold jeY at Z
 by_cases h0:jbk l cs=0
 ·rw[if_pos h0]at Z
  have H0:=Hd h0
  obtain⟨r,rfl,hR⟩:=Z
  have HR:=Hd (show ERow W4 W5 r (jbh l cs).length (jbh l cs)from hR);have H:=Hd (O.o.trans hR.ext);have a0:jaz (jbh l cs)=0:=jdN h0;have E:=jaD a0;have A:(jbh l cs).length<=9223372036854775807/\∀ p∈jbh l cs,p.1.size<=9223372036854775807/\p.2.size<=9223372036854775807:=⟨by have:=E.len;omega,fun p hp=>by have:=E.size p hp;omega⟩;have a2:=Hd (jsa W5 r v (jbh l cs) l HR.o.rd (HV.o.rd.ext hR.ext) A.1 X.o.2.1 A.2 X.o.2.2);clear hR h0 a0 E A;go_wp2_with fail
  refine a2.o.mono ?_;rintro e W8 ⟨u2,rfl,hC⟩;have J:=Hd hC;clear hC;go_wp2_with fail
  go_ret2;unfold jut;rw[if_pos H0.o]
  exact⟨_,rfl,J.o.sl,J.o.own,H.o.trans J.o.ext,fun b hb=>bJ H.o.size (J.o.new b hb)⟩
 ·rw[if_neg h0]at Z
  have H0:=Hd h0
  obtain⟨rfl,a1⟩:=Z
  have H:=Hd (O.o.trans a1)
  obtain⟨x,hx⟩:=vE (jbk l cs)
  have HX:=Hd hx;rw[<-hx]at h0 ⊢;clear a1 hx;have c1:(x != 0)=true:=by simpa using h0
  go_wp2_with fail
  go_ret2;unfold jut;rw[if_neg H0.o, <-HX.o]
  exact⟨rfl,H.o⟩
def jxd(W:vW)(b c:Nat):Prop:=∃ rv,W.cell? ⟨b,1,none⟩=some rv/\rv.ownBlock=some c
def RK(w W:vW):Prop:=w.heap.size<=W.heap.size/\∀ b,b < w.heap.size->∀ c,jxd W b c->jxd w b c
theorem jlU{W W':vW}{b i:Nat}(h:W'.heap[b]?=W.heap[b]?):W'.cell? ⟨b,i,none⟩=W.cell? ⟨b,i,none⟩:=by unfold World.cell?;rw[h]
theorem RK.refl(w:vW):RK w w:=⟨bL _,fun _ _ _ h=>h⟩
theorem RK.trans{a b c:vW}(h:RK a b)(k:RK b c):RK a c:=⟨bJ h.1 k.1,fun x e y r=>h.2 x e y (k.2 x (bQ e h.1) y r)⟩
theorem RK.keeps{F:BSet}{w W W':vW}(h:RK w W)(k:jae F W W')(hF:∀ b,F b->w.heap.size<=b):RK w W':=⟨bJ h.1 k.size,fun b hb c r=>by
 obtain⟨o,e,A⟩:=r
 rw[jlU (k.block b (bQ hb h.1) (fun f=>by have:=hF b f;omega))]at e;exact h.2 b hb c ⟨o,e,A⟩⟩
theorem RK.ext{w W W':vW}(h:RK w W)(e:Ext W W'):RK w W':=h.keeps e (fun _ f=>f.elim)
theorem RK.put{w W W':vW}{bm:Nat}{es:Array MapEntry}{ck:Nat}(h:RK w W)(k:jae (fun z=>z=bm) W W')(hm:Blk W' bm (.map es ck)):RK w W':=⟨bJ h.1 k.size,fun b hb c r=>by
 obtain⟨A,o,E⟩:=r
 by_cases e:b=bm
 ·subst e
  unfold World.cell? at o;rw[show W'.heap[b]?=_ from hm]at o;cases o
 ·rw[jlU (k.block b (bQ hb h.1) e)]at o
  exact h.2 b hb c ⟨A,o,E⟩⟩
theorem RK.set{w W:vW}(h:RK w W)(zb:Nat){f:Nat}(hf:f=2\/f=3)(v:vV):RK w (W.setCell ⟨zb,f,none⟩ v):=⟨by rw[gM];exact h.1,fun b hb c r=>by
 obtain⟨A,o,E⟩:=r
 rw[World.cell?_setCell_other _ _ _ _ (fun e=>by have:=congrArg Addr.off e;rcases hf with rfl | rfl <;> cases this)]at o;exact h.2 b hb c ⟨A,o,E⟩⟩
def jns(w W:vW)(G:vT):Prop:=∀ x∈G,∀ c,jxd W x.2.1 c->w.heap.size<=c
theorem jns.rk{w W W':vW}{G:vT}(h:jns w W G)(hk:RK W W')(hl:∀ x∈G,x.2.1 < W.heap.size):jns w W' G:=fun x e c r=>h x e c (hk.2 _ (hl x e) c r)
def jzd(w:vW)(bg:Nat)(L:vM)(iv:vV)(W:vW):Prop:=∃ i:Nat,i<=L.length/\iv=.int .i64 i/\(∀ t∈L.take i,∃ n,jbs t n)/\∃ G,ReS w bg G (L.take i) W/\jns w W G
def AnyQ(Q:Prop)(L:vM):Prop:=∀ t∈L,(∃ n,jbs t n)\/(GetE t/\Q)
theorem jg3{L:vM}(h:∀ t∈L,∃ n,jbs t n):AnyQ False L:=fun t e=>.inl (h t e)
def RdA(Q:Prop)(w:vW)(L:vM)(e:Ending)(w':vW):Prop:=(e=.returned (.tuple #[.map none,.int .i64 2])/\Ext w w'/\Q)\/((∀ t∈L,∃ n,jbs t n)/\∃ bg G,e=.returned (.tuple #[.map (some bg),.int .i64 0])/\ReS w bg G L w'/\jns w w' G)
theorem jpY{L:vM}{i:Nat}{t:vB}{P:vB->Prop}(h:∀ x∈L.take i,P x)(ht:L[i]?=some t)(hp:P t):∀ x∈L.take (i+1),P x:=fun x e=>by
 rw[bW,ht]at e;rcases bU.1 e with e | e
 ·exact h x e
 ·have e:x∈[t]:=e
  rw[bY.1 e];exact hp
theorem jt3(w:vW)(hc:jb0 w)(hGE:ErrT w)(v:vV)(L:vM)(hv:RdS w v L)(hl:L.length<=1000)(h0:L≠[])(Q:Prop)(hN:AnyQ Q L) :
  vQ 40 #[v] w (RdA Q w L):=by
 have f9:0 < L.length:=gE.2 h0
 obtain⟨a,c,rfl,_⟩:=hv.slice
 have f1:=Hd hv;have HC:=Hd hc;have HN:=Hd hN;have f2:=Hd hGE;have f3:=Tryz.makeMapIt w;clear hv hc hN h0 hGE;have g0:((L.length:Int) == 0)=false:=by simpa using (by omega:L.length≠0)
 go_enter Tryz.func40,Tryz.ntmps40;go_wp2_with fail
 obtain⟨bg,c0⟩:=vE w.heap.size
 have d8:=Hd c0;rw[<-c0];clear c0 f3;go_loopw [16] (fun iv wr=>jzd w bg L iv wr) (fun iv _=>L.length - (intOf iv).toNat)
 case atStart =>
  refine⟨0,cD _,rfl,fun t ht=>(by cases ht),[],⟨(ExtR w).alloc _,⟨⟨[],0,?_,MapV.nil 0⟩,by simp,fun x A=>by cases A⟩,rfl,by rw[d8.o];exact bL _,fun x A=>by cases A⟩,fun x A=>by cases A⟩
  rw[d8.o];exact Blk.new w _
 case round =>
  obtain⟨i,hi,rfl,a9,G,hS,d9⟩:=hrel
  have c1:=Hd d9;clear d9;have b0:=Hd a9;have J:=Hd hS;clear hS a9
  by_cases hlt:i < L.length
  ·have b1:(i:Int) < (L.length:Int):=vO
   obtain⟨t,ht⟩:∃ t,L[i]?=some t:=⟨_,bA hlt⟩
   obtain⟨ax,cx,hh,O⟩:=f1.o.slice
   obtain⟨ba,oa,f4,c2⟩:=O i t ht
   subst f4;cases hh;have q1:=jaa c2 J.o.ext;rcases HN.o t (bI ht)with hnode |⟨hbad,hq⟩
   case inr =>
    have d3:=Hd hbad;have HQ:=Hd hq
    obtain⟨n,hn⟩:=vE jaH
    have a5:=Hd (show n.refs.length=16 by rw[hn];rfl);have hg:=d3.o wr (f2.o.ext J.o.ext);unfold jyY at hg;rw[<-hn]at hg;clear O c2 ht hbad hn hq;go_wp2_with fail
    refine hg.mono ?_;rintro e w4 ⟨rfl,hE⟩;have b6:=Hd (J.o.ext.trans hE);clear hE hg q1;unfold jad.V;go_wp2_with (refine jaj Tryz.allocNode rfl rfl ?_;intro W3 b7 b8;refine jah (vs:=n.cells) rfl rfl rfl rfl b7 (by rw[n.cells_len a5.o];rfl) (by rw[n.cells_len a5.o];exact Tryz.szNode) (jad.one _) ?_;intro W4 c3 b9;have X:Ext w4 W4:=b8.trans' b9 (fun x A e=>by have e:x=w4.heap.size:=e;omega))
    go_ret2;exact .inl ⟨rfl,b6.o.trans X,HQ.o⟩
   have a1:=Hd (jpY b0.o ht hnode)
   obtain⟨n0,e0⟩:=hnode
   have c4:=jdm e0;have e1:=Hd (jqV ht);have e2:=Hd (show itOf t=⟨t,jaL (nodeOf t),0,0⟩from rfl)
   obtain⟨n,e3⟩:=vE (nodeOf t)
   rw[<-e3]at c4 e2;have g1:=jiG c4
   obtain⟨e4,g,hg⟩:=c4
   have HG:=Hd hg;have a5:=Hd ((hg.one (inlP g)).refs);have e5:=Hd e4;clear O e0 e3 e4 hg c2 ht;go_wp2_with fail
   rw[e5.o];refine vH (jjT (inlP g) wr n HG.o) fun w4 b6=>?_;rw[<-e5.o];clear q1;unfold jad.V;go_wp2_with (refine jaj Tryz.allocNode rfl rfl ?_;intro W3 b7 b8;refine jah (vs:=n.cells) rfl rfl rfl rfl b7 (by rw[n.cells_len a5.o];rfl) (by rw[n.cells_len a5.o];exact Tryz.szNode) (jad.one _) ?_;intro W4 c3 b9;have X:Ext w4 W4:=b8.trans' b9 (fun x A e=>by have e:x=w4.heap.size:=e;omega))
   have c5:=Hd (b6.o.trans X);have e6:=Hd c3;clear b7 b8 c3 b9 X b6;refine vH (of_t _ _ [t] (by simp) (jb2 W4 [t] 9) (HC.o.ext ((J.o.ext.trans c5.o).alloc _))) fun w6 hE=>?_;rw[jdx];have c6:=((ExtR W4).alloc (.cells #[.string t] 9)).trans hE;have c7:=Hd (c5.o.trans c6);have f5:=Hd (e6.o.keeps c6 (fun h=>h));have E:=Hd (J.o.keeps c7.o);have H:=E.o.at'.look (shaB t) false;have c9:=Hd (jxi (L:=G) (k:=ky t));have a6:Hid ((shaB t).data.toList=ky t):=rfl;have d0:=Hd (show addG (G.map kvI) t=if (G.map kvI).any (fun x=>decide (ky t=x.1))then G.map kvI else G.map kvI++[(ky t,itOf t)]from rfl);rw[a6.o]at H;simp only[cR,if_false]at H
   obtain⟨sh,e7⟩:=vE (shaB t)
   rw[<-e7]at H a6 ⊢
   obtain⟨kt,e8⟩:=vE (ky t)
   rw[<-e8]at H a6 c9 d0;clear c6 c5 e6 e7 e8;cases ha:atL G kt with
   | some x =>
    rw[ha]at H;unfold ptrO at H;simp only at H;have hz:addG (G.map kvI) t=G.map kvI:=by rw[d0.o,c9.o,ha];rfl
    have HZ:=Hd hz;clear ha hz;go_wp2_with fail
    go_roundw
    case rel =>
     exact⟨i+1,by omega,by go_num,a1.o,G,⟨E.o.ext,E.o.at',by rw[e1.o, <-E.o.is,HZ.o],E.o.new,E.o.news⟩,c1.o.rk ((RK.refl _).ext c7.o) (fun x A=>(J.o.at'.items x A).lt)⟩
    case measure=>exact vJ
   | none =>
    rw[ha]at H;unfold ptrO at H;simp only at H;have hz:addG (G.map kvI) t=G.map kvI++[(kt,itOf t)]:=by rw[d0.o,c9.o,ha];rfl
    have HZ:=Hd hz;have HA:=Hd ha;have a4:=jaq w6 _ n a5.o f5.o;unfold jad.V at a4;clear ha hz;go_wp2_with (refine jaf 103 (.tmp 7) rfl rfl _ _ rfl a4 ?_)
    refine (jkM g n HG.o w6).mono ?_;rintro e K ⟨v8,rfl,a7,d4⟩;have d1:=a7.ext;have a2:=a7.new;have b2:=a7.own
    obtain⟨a8,c8,rfl⟩:=a7.sl
    have S8:=E.o.keeps d1;have e9:=S8.at'.ext ((ExtR K).alloc (.cells #[.string t,.slice a8 (jaL n).length c8,.int .i64 0,.int .i64 0] 90));have d2:=Blk.new K (.cells #[.string t,.slice a8 (jaL n).length c8,.int .i64 0,.int .i64 0] 90);have f0:jeZ (K.alloc (.cells #[.string t,.slice a8 (jaL n).length c8,.int .i64 0,.int .i64 0] 90)) K.heap.size (itOf t):=by
     rw[e2.o]
     exact⟨_,d2,jbq b2 ((ExtR K).alloc _)⟩
    obtain⟨ob,g2,Z⟩:=e9.put sh (by rw[a6.o];exact HA.o) f0 (fun x A e=>by have:=(S8.at'.items x A).lt;omega)
    rw[a6.o]at Z;have b3:Ext w ((K.alloc (.cells #[.string t,.slice a8 (jaL n).length c8,.int .i64 0,.int .i64 0] 90)).putObj bg ob):=(S8.ext.alloc _).putObj (.inr S8.new) _;have d5:=S8.ext.size;have b4:RK wr K:=((RK.refl _).ext c7.o).ext d1;have a0:∃ es ck,Blk ((K.alloc (.cells #[.string t,.slice a8 (jaL n).length c8,.int .i64 0,.int .i64 0] 90)).putObj bg ob) bg (.map es ck):=by
     obtain⟨es,ck,h1,_⟩:=Z.mp
     exact⟨_,ck,h1⟩
    obtain⟨g3,g4,a0⟩:=a0
    have a3:=(b4.ext ((ExtR K).alloc (.cells #[.string t,.slice a8 (jaL n).length c8,.int .i64 0,.int .i64 0] 90))).put (jae.onePut _ bg ob) a0;have b5:=Hd (show jns w ((K.alloc (.cells #[.string t,.slice a8 (jaL n).length c8,.int .i64 0,.int .i64 0] 90)).putObj bg ob) (G++[(kt,K.heap.size,itOf t)])from fun x A c r=>by
     rcases bU.1 A with A | A
     ·exact c1.o.rk a3 (fun x A=>(J.o.at'.items x A).lt) x A c r
     ·rw[bY.1 A]at r
      obtain⟨rv,r1,r2⟩:=r
      have f6:K.heap.size≠bg:=fun e=>by
       obtain⟨_,_,h1,_⟩:=S8.at'.mp
       have:=h1.lt;omega
      have hq:((K.alloc (.cells #[.string t,.slice a8 (jaL n).length c8,.int .i64 0,.int .i64 0] 90)).putObj bg ob).cell? ⟨K.heap.size,1,none⟩=some (.slice a8 (jaL n).length c8):=(d2.keeps (jae.onePut _ bg ob) f6).cell (i:=1) vF;have r1:_=some rv:=r1;rw[hq]at r1;have e:=bO r1;rw[<-e]at r2
      have:=a2 c r2
      have:=E.o.ext.size
      omega)
    have d6:=Hd b3;have d7:=Hd Z;have f7:Hid (w.heap.size<=K.heap.size):=S8.ext.size;clear b4 a0 a3 d5 b3 Z f0 d2 e9 S8 b2 a2 d1 a7 d4 a4 H;go_wp2_with fail
    go_roundw
    case rel =>
     refine⟨i+1,by omega,by go_num,a1.o,G++[(kt,K.heap.size,itOf t)],⟨d6.o,d7.o,?_,E.o.new,?_⟩,b5.o⟩
     ·rw[e1.o, <-E.o.is,HZ.o,cB];rfl
     ·intro x A
      rcases bU.1 A with A | A
      ·exact E.o.news x A
      ·simp only[bY]at A;subst A;exact f7.o
    case measure=>exact vJ
  ·have f8:i=L.length:=vO
   subst f8;have HS:=Hd (show ReS w bg G L wr by have:=J.o;rwa [cL]at this);clear J;go_wp2_with fail
   go_ret2;exact .inr ⟨by have h:=b0.o;rwa [cL]at h,bg,G,rfl,HS.o,c1.o⟩
def okM(S G:vT)(M:vM)(x:vB):Bool:=memB (ja9 M) x ||(atL S x.data.toList).isSome ||(atL G x.data.toList).isSome
theorem jpq(w0:vW)(s bm:Nat)(room:Int)(S G:vT)(bg b:Nat)(h:jaT w0 s bm room S)(hG:jdq w0 bg G)(W:vW)(M:vM)(hM:Meet w0 s S bg b M W)(x:vB)(hl:M.length<=1000000) :
  vQ 82 #[.string x,.pointer (some ⟨b+4,0,none⟩),.pointer (some ⟨b,0,none⟩),.pointer (some ⟨b+2,0,none⟩),.pointer (some ⟨b+1,0,none⟩)] W fun e w'=>e=.returned (.bool (okM S G M x))/\Meet w0 s S bg b (M++[x]) w':=by
 have HM:=Hd hM;have HS:=Hd h
 obtain⟨es,ck,h5,h6⟩:=hM.tab
 obtain⟨v,n,h1,h2,h3,h4⟩:=hM.var
 obtain⟨ad,cp,rfl⟩:=jaU h2
 obtain⟨cn,a7⟩:=vE (cntB M x)
 have f1:cn<=1000000:=by
  rw[a7];unfold cntB;refine bJ jG ?_;rw[cC];exact hl
 have e6:=h6 x;rw[<-a7]at e6;have d1:(Instr.lookup 60 (.map (some (b+3))) (.string x) false).run Tryz.prog W=.ok (.int .i64 (cn:Int)) W:=by
  have:=jcx Tryz.ES Tryz.uMapSI h5 (Tryz.zeroI W) x.data.toList false
  rw[e6]at this;unfold cntV at this
  by_cases h0:cn=0
  ·rw[if_pos h0]at this;rw[h0];exact this
  ·rw[if_neg h0]at this;exact this
 obtain⟨a8,a0⟩:=vE (jbt es x.data.toList (.int .i64 ((cn:Int)+1)) ck)
 obtain⟨b4,b0⟩:=vE (if (jaX es x.data.toList).isSome then ck else ck+1)
 obtain⟨E,b5⟩:=vE (W.putObj (b+3) (.map (Tryz.ES.arr a8) b4))
 have d2:(Instr.mapUpdate 60 (.map (some (b+3))) (.string x) (.int .i64 ((cn:Int)+1))).run Tryz.prog W=.ok () E:=by
  have:=jb4 Tryz.ES Tryz.uMapSI h5 x.data.toList (.int .i64 ((cn:Int)+1))
  rw[<-a0, <-b0, <-b5]at this;exact this
 have B2:Blk E (b+3) (.map (Tryz.ES.arr a8) b4):=by rw[b5];exact h5.put_same _
 have e7:∀ y:vB,jaX a8 y.data.toList=cntV (cntB (M++[x]) y):=fun y=>by
  rw[a0,jc3,h6 y,jrT]
  by_cases hxy:y.data.toList=x.data.toList
  ·have e2:y=x:=ByteArray.ext (Array.ext' hxy)
   subst e2;rw[if_pos rfl,if_pos rfl, <-a7];unfold cntV;rw[if_neg vO];simp
  ·rw[if_neg hxy,if_neg (fun e=>hxy e.symm)];rfl
 have b1:(Instr.lookup 60 (.map (some (b+3))) (.string x) false).run Tryz.prog E=.ok (.int .i64 ((cn:Int)+1)) E:=by
  have:=jcx Tryz.ES Tryz.uMapSI B2 (Tryz.zeroI E) x.data.toList false
  rw[a0,jc3,if_pos rfl]at this;exact this
 have K2:jae (fun z=>z=b+3) W E:=by rw[b5];exact jae.onePut _ _ _
 have q9:W.cell? ⟨b+4,0,none⟩=some (.map (some (b+3))):=hM.c9.cell (i:=0) vF;have E2:Ext w0 E:=hM.ext.trans' K2 (fun y hy e=>by have e:y=_:=e;have:=hM.lo;omega);have C9:=hM.c9.keeps K2 vO;have f2:E.cell? ⟨b+4,0,none⟩=some (.map (some (b+3))):=C9.cell (i:=0) vF;have C3:=hM.c3.keeps K2 vO;have f3:E.cell? ⟨b,0,none⟩=some (.pointer (some ⟨s,0,none⟩)):=C3.cell (i:=0) vF;have C5:=hM.c5.keeps K2 vO;have V2:=h1.keeps K2 vO;have O2:=ja8 h2 K2 (fun z O e=>by have:=h4 z O;have e:z=_:=e;omega);have f4:E.cell? ⟨b+2,0,none⟩=some (.slice ad n cp):=V2.cell (i:=0) vF;have e8:E.frozen? ⟨b+2,0,none⟩=false:=V2.frozen;have qs:=(h.st.keeps E2 (fun g=>g)).cell (i:=1) (v:=.map (some bm)) vF;have H:=(h.mp.ext E2).look x false;simp only[cR,if_false]at H;have a3:=Hd (show memB (ja9 M) x=true↔cn≠0 from by
  rw[jd6,jaV,a7];unfold cntB;rw[<-Nat.pos_iff_ne_zero,gZ,bK]
  exact⟨fun hm=>⟨x,hm,rfl⟩,fun ⟨y,hy,e⟩=>by rw[<-show y=x from ByteArray.ext (Array.ext' e)];exact hy⟩)
 have b8:=Hd (jo6 S M x);have b2:=Hd (show ∃ es ck,Blk E (b+3) (.map (Tryz.ES.arr es) ck)/\∀ y:vB,jaX es y.data.toList=cntV (cntB (M++[x]) y)from⟨a8,b4,B2,e7⟩);have d3:Hid (∀ W3:vW,Ext w0 W3->jdq W3 bg G):=fun _ e=>hG.ext e
 obtain⟨ok,A⟩:=vE (okM S G M x)
 rw[<-A];have a4:=Hd A;clear A;have f5:=Hd K2;have d4:=Hd C3;have d5:=Hd C5;have b6:=Hd C9;have b7:=Hd V2;have d6:=Hd O2;have d7:=Hd E2;have H4:=Hd h4;have H3:=Hd h3;have a5:=Hd hM.lo;have b3:Hid (frK S (M++[x])=frK S M->Meet w0 s S bg b (M++[x]) E):=(fun e=>⟨E2,hM.lo,C3,C5,C9,⟨a8,b4,B2,e7⟩,_,n,V2,by rw[e];exact O2,by rw[bC];omega,h4⟩);clear hM h h1 h2 h4 h5 h6 a7 e6 a0 b0 b5 B2 e7 K2 C3 C5 C9 V2 O2 E2 hG
 by_cases hc0:cn=0
 ·subst hc0
  have d8:memB (ja9 M) x=false:=by
   cases hm:memB (ja9 M) x with
   | false=>rfl
   | true=>exact absurd rfl (a3.o.1 hm)
  have b9:=Hd d8;have e9:(Instr.lookup 60 (.map (some (b+3))) (.string x) false).run Tryz.prog W=.ok (.int .i64 0) W:=d1;have f0:(Instr.mapUpdate 60 (.map (some (b+3))) (.string x) (.int .i64 1)).run Tryz.prog W=.ok () E:=d2;have e1:(Instr.lookup 60 (.map (some (b+3))) (.string x) false).run Tryz.prog E=.ok (.int .i64 1) E:=b1;clear d8 d1 d2 b1;cases hs:atL S x.data.toList with
  | some y =>
   rw[hs]at H;unfold ptrO at H;simp only at H;have a6:=Hd (show frK S (M++[x])=frK S M by rw[b8.o,b9.o,hs];rfl);have A:ok=true:=by rw[a4.o];unfold okM;rw[hs];simp
   subst A;clear hs a4;go_enter Tryz.func82,Tryz.ntmps82;go_wp2_with fail
   go_ret
   exact⟨rfl,b3.o a6.o⟩
  | none =>
   rw[hs]at H;unfold ptrO at H;simp only at H;have a6:=Hd (show frK S (M++[x])=frK S M++[x] by rw[b8.o,b9.o,hs];rfl);have A:ok=(atL G x.data.toList).isSome:=by rw[a4.o];unfold okM;rw[hs,b9.o];simp
   have a1:=Hd A;clear hs a4 A;have d9:n+1<=maxLen:=by have:=H3.o;unfold maxLen;omega
   have e0:(n+1) * 16<=140737488355328:=by have:=H3.o;omega
   cases hyg:atL G x.data.toList with
   | some yg =>
    have c0:=Hd hyg;have A:ok=true:=by rw[a1.o,hyg];rfl
    subst A;clear hyg a1;go_enter Tryz.func82,Tryz.ntmps82
    obtain⟨i0,hi,c1,c2,c4⟩:=info_parts Tryz.infoStr
    go_wp2_with (at_builtin;refine jbZ _ rfl (.tmp 24) (.tmp 26) 31 rfl 9 i0 _ 1 16 Tryz.uStrs hi c1 c2 c4 rfl vI (.slice ad n cp) n _ rfl (jbq d6.o ((ExtR E).alloc _)) ⟨E.heap.size,0,none⟩ 1 1 [.string x] rfl rfl (jaJ (Blk.new E _)) (by simp[Value.oneCell']) d9 e0 ?_;intro v' Q r1 r2 K;obtain⟨X,Z,rfl⟩:=jaU r1;have K6:jae (fun z=>(Value.slice ad n cp).ownBlock=some z) E Q:=((jae.refl _ E).alloc _).trans r2;have nO:∀ z,z < b+5->¬(Value.slice ad n cp).ownBlock=some z:=(fun z O e=>by have:=H4.o z e;omega);have a2:=b7.o.keeps K6 (nO _ vO);have e3:Q.cell? ⟨b+2,0,none⟩=some (.slice ad n cp):=a2.cell (i:=0) vF;have e4:Q.frozen? ⟨b+2,0,none⟩=false:=a2.frozen;have K7:jae (fun z=>z=b+2) Q (Q.setCell ⟨b+2,0,none⟩ (.slice X (n+1) Z)):=jae.oneSet Q ⟨b+2,0,none⟩ _;have a9:=(d5.o.keeps K6 (nO _ vO)).keeps K7 vO;have e5:=a9.cell (i:=0) (v:=.map (some bg)) vF;have E7:Ext w0 (Q.setCell ⟨b+2,0,none⟩ (.slice X (n+1) Z)):=(d7.o.trans' K6 (fun y hy e=>by have:=H4.o y e;have:=a5.o;omega)).trans' K7 (fun y hy e=>by have e:y=_:=e;have:=a5.o;omega);have J:=(d3.o _ E7).look x false;rw[c0.o]at J;unfold ptrO at J;simp only[cR,if_false]at J)
    go_ret
    refine⟨rfl,E7,a5.o,(d4.o.keeps K6 (nO _ vO)).keeps K7 vO,a9,(b6.o.keeps K6 (nO _ vO)).keeps K7 vO,?_,.slice X (n+1) Z,n+1,a2.set_same (i:=0) _,?_,?_,?_⟩
    ·obtain⟨c6,c7,c8,d0⟩:=b2.o
     exact⟨c6,c7,(c8.keeps K6 (nO _ vO)).keeps K7 vO,d0⟩
    ·rw[a6.o,cB]
     refine ja8 r1 K7 (fun z O e=>?_);have e:z=b+2:=e;rcases K with K | K
     ·have:=H4.o z (K ▸ O);omega
     ·have h9:=K z O;rw[bT]at h9;have:=b7.o.lt;omega
    ·have:=H3.o;rw[bC];exact Nat.succ_le_succ this
    ·intro z O
     rcases K with K | K
     ·exact H4.o z (K ▸ O)
     ·have h9:=K z O;rw[bT]at h9;have:=b6.o.lt;omega
   | none =>
    have c0:=Hd hyg;have A:ok=false:=by rw[a1.o,hyg];rfl
    subst A;clear hyg a1;go_enter Tryz.func82,Tryz.ntmps82
    obtain⟨i0,hi,c1,c2,c4⟩:=info_parts Tryz.infoStr
    go_wp2_with (at_builtin;refine jbZ _ rfl (.tmp 24) (.tmp 26) 31 rfl 9 i0 _ 1 16 Tryz.uStrs hi c1 c2 c4 rfl vI (.slice ad n cp) n _ rfl (jbq d6.o ((ExtR E).alloc _)) ⟨E.heap.size,0,none⟩ 1 1 [.string x] rfl rfl (jaJ (Blk.new E _)) (by simp[Value.oneCell']) d9 e0 ?_;intro v' Q r1 r2 K;obtain⟨X,Z,rfl⟩:=jaU r1;have K6:jae (fun z=>(Value.slice ad n cp).ownBlock=some z) E Q:=((jae.refl _ E).alloc _).trans r2;have nO:∀ z,z < b+5->¬(Value.slice ad n cp).ownBlock=some z:=(fun z O e=>by have:=H4.o z e;omega);have a2:=b7.o.keeps K6 (nO _ vO);have e3:Q.cell? ⟨b+2,0,none⟩=some (.slice ad n cp):=a2.cell (i:=0) vF;have e4:Q.frozen? ⟨b+2,0,none⟩=false:=a2.frozen;have K7:jae (fun z=>z=b+2) Q (Q.setCell ⟨b+2,0,none⟩ (.slice X (n+1) Z)):=jae.oneSet Q ⟨b+2,0,none⟩ _;have a9:=(d5.o.keeps K6 (nO _ vO)).keeps K7 vO;have e5:=a9.cell (i:=0) (v:=.map (some bg)) vF;have E7:Ext w0 (Q.setCell ⟨b+2,0,none⟩ (.slice X (n+1) Z)):=(d7.o.trans' K6 (fun y hy e=>by have:=H4.o y e;have:=a5.o;omega)).trans' K7 (fun y hy e=>by have e:y=_:=e;have:=a5.o;omega);have J:=(d3.o _ E7).look x false;rw[c0.o]at J;unfold ptrO at J;simp only[cR,if_false]at J)
    go_ret
    refine⟨rfl,E7,a5.o,(d4.o.keeps K6 (nO _ vO)).keeps K7 vO,a9,(b6.o.keeps K6 (nO _ vO)).keeps K7 vO,?_,.slice X (n+1) Z,n+1,a2.set_same (i:=0) _,?_,?_,?_⟩
    ·obtain⟨c6,c7,c8,d0⟩:=b2.o
     exact⟨c6,c7,(c8.keeps K6 (nO _ vO)).keeps K7 vO,d0⟩
    ·rw[a6.o,cB]
     refine ja8 r1 K7 (fun z O e=>?_);have e:z=b+2:=e;rcases K with K | K
     ·have:=H4.o z (K ▸ O);omega
     ·have h9:=K z O;rw[bT]at h9;have:=b7.o.lt;omega
    ·have:=H3.o;rw[bC];exact Nat.succ_le_succ this
    ·intro z O
     rcases K with K | K
     ·exact H4.o z (K ▸ O)
     ·have h9:=K z O;rw[bT]at h9;have:=b6.o.lt;omega
 ·have f6:¬((cn:Int)+1<=1):=vO
  have a6:=Hd (show frK S (M++[x])=frK S M by rw[b8.o,a3.o.2 hc0];rfl);have A:ok=true:=by rw[a4.o];unfold okM;rw[a3.o.2 hc0];simp
  subst A;clear a4;go_enter Tryz.func82,Tryz.ntmps82;go_wp2_with fail
  go_ret
  exact⟨rfl,b3.o a6.o⟩
structure Fair(G:vT):Prop where
 few:G.length<=1000
 refs:∀ y∈G,y.2.2.refs.length<=16
def has2(S G:vT)(x:vB):Prop:=(atL S x.data.toList).isSome=true\/(atL G x.data.toList).isSome=true
structure jfX(S G:vT)(root:vB)(M:vM)(i:Nat):Prop where
 is:M=root ::((frK S M).take i).flatMap (jce G)
 le:i<=(frK S M).length
 inG:∀ x∈M,has2 S G x
theorem jhf{G:vT}(h:Fair G):∀ l:vM,(l.flatMap (jce G)).length<=16 * l.length
 | []=>by simp
 | x :: r=>by
  have e:=jhf h r
  have:(jce G x).length<=16:=by
   unfold jce;split
   ·rename_i y hy;exact h.refs y (jba hy).1
   ·simp
  rw[cG,bC,bF];omega
theorem jfX.len{S G:vT}{root:vB}{M:vM}{i:Nat}(h:jfX S G root M i)(hs:Fair G):M.length<=1+16 * i:=by
 have:=jhf hs ((frK S M).take i)
 rw[cI]at this;have e:=congrArg List.length h.is;rw[bF]at e;omega
theorem jfX.at'{S G:vT}{root:vB}{M:vM}{i:Nat}(h:jfX S G root M i){x:vB}(hx:x∈frK S M):(atL G x.data.toList).isSome=true:=by
 have e:=jf9.1 hx;rcases h.inG x e.1 with h | h
 ·rw[e.2]at h;cases h
 ·exact h
theorem jhU{S G:vT}{M:vM}(h:∀ x∈frK S M,(atL G x.data.toList).isSome=true):(frK S M).length<=G.length:=by
 have A:((frK S M).map fun x=>x.data.toList).Nodup:=by
  have:=jmb S M
  generalize frK S M=l at this;induction l with
  | nil=>simp
  | cons z r ih =>
   rw[fF]at this;rw[bS,fF]
   exact⟨fun E=>by obtain⟨y,o,e⟩:=bK.1 E;exact this.1 (jnE e ▸ o),ih this.2⟩
 have:=iJ A (l₂:=G.map (·.1)) (fun k H=>by
  obtain⟨x,J,e⟩:=bK.1 H
  obtain⟨y,o⟩:=fG.1 (h x J)
  exact bK.2 ⟨y,(jba o).1,by rw[(jba o).2,e]⟩)
 simpa using this
theorem jfX.step{S G:vT}{root:vB}{M:vM}{i:Nat}(h:jfX S G root M i){x:vB}(hx:(frK S M)[i]?=some x)(hr:∀ r∈jce G x,has2 S G r):jfX S G root (M++jce G x) (i+1):=by
 obtain⟨X,A⟩:=jo5 S M (jce G x)
 have E:i < (frK S M).length:=(bP.1 hx).1
 refine⟨?_,?_,?_⟩
 ·have e:(frK S (M++jce G x)).take (i+1)=(frK S M).take i++[x]:=by
   rw[A,gL vO,bW,hx];rfl
  rw[e,dX]
  have:=h.is
  generalize frK S M=l at this;rw[this]
  simp
 ·rw[A,bC];omega
 ·intro y o
  rcases bU.1 o with o | o
  ·exact h.inG y o
  ·exact hr y o
theorem jz9{S G:vT}{M:vM}{x:vB}(h:okM S G M x=true)(hM:∀ y∈M,has2 S G y):has2 S G x:=by
 unfold okM at h;simp only[Bool.or_eq_true]at h;rcases h with (h | h) | h
 ·exact hM x ((jaV _ _).1 ((jd6 _ _).1 h))
 ·exact .inl h
 ·exact .inr h
theorem jx7{S G:vT}{M:vM}{x:vB}(h:okM S G M x=false):¬ has2 S G x:=by
 unfold okM at h;simp only[gU]at h;rintro (e | e)
 ·rw[h.1.2]at e;cases e
 ·rw[h.2]at e;cases e
def jzf(w0:vW)(s:Nat)(S G:vT)(bg b:Nat)(root:vB)(wv iv:vV)(W:vW):Prop:=wv=.bool true/\∃ (i:Nat) (M:vM),iv=.int .i64 i/\jfX S G root M i/\Meet w0 s S bg b M W
def jxb(w0:vW)(s:Nat)(S G:vT)(bg b:Nat)(M R:vM)(wv jv:vV)(W:vW):Prop:=wv=.bool true/\∃ j:Nat,jv=.int .i64 j/\j<=R.length/\Meet w0 s S bg b (M++R.take j) W/\∀ r∈R.take j,has2 S G r
def RhP(w0:vW)(S G:vT)(root:vB)(e:Ending)(w':vW):Prop:=(e=.returned (.tuple #[.slice none 0 0,.int .i64 2])/\Ext w0 w'/\∃ x r,r∈jce G x/\¬ has2 S G r)\/∃ v n M,e=.returned (.tuple #[v,.int .i64 0])/\jfX S G root M (frK S M).length/\SRow w0 w' v n (frK S M)
theorem jom(w0:vW)(s bm:Nat)(room:Int)(S G:vT)(bg:Nat)(h:jaT w0 s bm room S)(hG:jdq w0 bg G)(hs:Fair G)(root:vB)(hr:(atL G root.data.toList).isSome=true) :
  vQ 41 #[.pointer (some ⟨s,0,none⟩),.string root,.map (some bg)] w0 (RhP w0 S G root):=by
 have HS:=Hd h;have HG:=Hd hG;have a2:=Hd hs;have HR:=Hd hr;have c4:=Tryz.makeMapSI;clear h hG hs hr;go_enter Tryz.func41,Tryz.ntmps41;go_wp2_with fail
 go_step3;go_wp2_with fail
 refine vC (jpq w0 s bm room S G bg w0.heap.size HS.o HG.o _ [] (jsS w0 s S bg) root (by simp)) fun w5 J=>?_;rw[show okM S G [] root=true by unfold okM;rw[HR.o];simp];have HM:=Hd J;clear J c4
 obtain⟨b,hb⟩:=vE w0.heap.size
 rw[show w0.heap.size+1+1+1+1=w0.heap.size+4 from rfl,show w0.heap.size+1+1+1=w0.heap.size+3 from rfl,show w0.heap.size+1+1=w0.heap.size+2 from rfl];rw[<-hb]at HM ⊢;clear hb;go_wp2_with fail
 go_step3;go_wp2_with fail
 go_loopw [11,12] (fun wv iv wr=>jzf w0 s S G bg b root wv iv wr) (fun _ iv _=>1001 - (intOf iv).toNat)
 case atStart =>
  refine⟨rfl,0,[root],rfl,⟨by simp,cD _,fun x e=>by simp at e;subst e;exact .inr HR.o⟩,HM.o⟩
 case round =>
  obtain⟨rfl,i,M,rfl,X,J⟩:=hrel
  obtain⟨v,n,E,h2,h3,h4⟩:=J.var
  obtain⟨ad,cp,rfl⟩:=jaU h2
  have hn:(frK S M).length=n:=by have:=h2.1;simpa using this
  have b0:=jhU (S:=S) (M:=M) (fun x e=>X.at' e);have d7:=a2.o.few;have q8:=E.cell (i:=0) (v:=.slice ad n cp) vF;have a0:=X.le
  by_cases hlt:i < n
  ·have b1:(i:Int) < (n:Int):=vO
   obtain⟨x,e⟩:∃ x,(frK S M)[i]?=some x:=⟨_,bA vO⟩
   obtain⟨ax,cx,hh,K⟩:=(jj4 h2).slice
   obtain⟨ba,oa,c6,b3⟩:=K i x e
   subst c6;cases hh
   obtain⟨y,O⟩:=fG.1 (X.at' (bI e))
   have hI:=HG.o.items y (jba O).1;have a3:=jfO O;have c7:=a2.o.refs y (jba O).1
   obtain⟨rv,b4,a4⟩:=hI.cells
   obtain⟨ar,cr,rfl⟩:=jaU a4
   obtain⟨R,hR⟩:=vE y.2.2.refs
   have Q5:=Hd (J.c5.cell (i:=0) (v:=.map (some bg)) vF);have Q8:=Hd q8;have QA:=Hd b3;have QR:=Hd ((b4.keeps J.ext (fun g=>g)).cell (i:=1) (v:=.slice ar y.2.2.refs.length cr) vF);have b5:=Hd (HG.o.ext J.ext);have HY:=Hd O;have b6:=Hd (fun hr=>X.step e hr);have c8:=Hd X.inG;have c9:=Hd (X.len a2.o);have b7:=Hd (jj4 a4);have b8:=Hd J;rw[a3, <-hR]at b6;rw[<-hR]at QR b7 c7;have d0:=Hd (show R=jce G x by rw[hR,a3]);have a9:i<=1000:=vO
   obtain⟨yb,a5⟩:=vE y.2.1
   rw[<-a5]at QR;have d1:=Hd a5;clear a3 hR a5 a4 b4 hI O e K b3 E h2 X J hn b0 a0;go_wp2_with fail
   refine jag [0,1,2,3,4,5,6,7,8,9,10] Ext ExtR ExtT vY vY vY ?_;refine qKL ⟨b+1,0,none⟩ _ rfl (fun w1 E=>jab Tryz.underlying81 rfl (jaa Q5.o ((jai _).trans E))) ?_;refine vS ?_;refine qKL ⟨b+2,0,none⟩ _ rfl (fun w1 E=>jab Tryz.underlying31 rfl (jaa Q8.o ((jai _).trans E))) ?_;refine vS ?_;iterate 2 refine vK ?_
   refine qKL ⟨ba,oa+i,none⟩ _ rfl (fun w1 E=>jab Tryz.underlying9 rfl (jaa QA.o ((jai _).trans E))) ?_;refine vS ?_;refine jcv _ (.pointer (some ⟨yb,0,none⟩)) rfl vY rfl (fun w1 E=>by
    have e:=(b5.o.ext ((jai _).trans E)).look x false;rw[HY.o]at e;unfold ptrO at e;simp only[cR,if_false]at e;rw[<-d1.o]at e;simp[execOp,Act.eval,e,cA,Result.andThen,cO]) ?_
   refine vS ?_;refine jcv _ (.pointer (some ⟨yb,0,none⟩)) rfl vY rfl (fun w1 _=>by kernel_rfl) ?_;refine vS ?_
   refine vK ?_
   refine qKL ⟨yb,1,none⟩ _ rfl (fun w1 E=>jab Tryz.underlying31 rfl (jaa QR.o ((jai _).trans E))) ?_;refine vS ?_;iterate 2 refine vK ?_
   refine qKE (fun w3 he=>?_);have d2:=Hd (b8.o.keeps ((jai _).trans he));clear he b8 Q5 Q8 QA QR b5 HY q8;go_wp2_with fail
   go_loopw [11,36] (fun wv jv d3=>jxb w0 s S G bg b M R wv jv d3) (fun _ jv _=>R.length - (intOf jv).toNat)
   case atStart=>exact⟨rfl,0,rfl,cD _,by rw[jE,bZ];exact d2.o,fun r hr=>by cases hr⟩
   case round =>
    obtain⟨rfl,j,rfl,hj,H,b9⟩:=hrel
    have Q:=Hd b9;clear b9
    by_cases hlt2:j < R.length
    ·have b2:(j:Int) < (R.length:Int):=vO
     obtain⟨z,hz⟩:∃ z,R[j]?=some z:=⟨_,bA hlt2⟩
     obtain⟨d8,d9,d4,A⟩:=b7.o.slice
     obtain⟨e0,e1,a8,a1⟩:=A j z hz
     subst a8;cases d4;have q2:=jaa a1 H.ext;have c0:=Hd hz;have HT:=Hd (show M++R.take (j+1)=M++R.take j++[z] by rw[bW,hz, <-cE];rfl);have HL:=Hd (show (M++R.take j).length<=1000000 by have:=c9.o;rw[bC,cI];omega);have c1:=Hd H;clear A a1 H hz;go_wp2_with fail
     refine vC (jpq w0 s bm room S G bg b HS.o HG.o _ _ c1.o z HL.o) fun w9 a6=>?_;rw[<-HT.o]at a6;have Z:=Hd a6
     obtain⟨ok,a7⟩:=vE (okM S G (M++R.take j) z)
     rw[<-a7];have c2:=Hd a7;clear a6 c1 q2 a7;cases ok with
     | false =>
      go_wp2_with fail
      go_ret2;exact .inl ⟨rfl,Z.o.ext,x,z,by rw[<-d0.o];exact bI c0.o,jx7 c2.o.symm⟩
     | true =>
     go_wp2_with fail
     go_roundw
     case rel =>
      refine⟨rfl,j+1,by go_num,by omega,Z.o,jpY Q.o c0.o (jz9 c2.o.symm fun y O=>?_)⟩
      rcases bU.1 O with O | O
      ·exact c8.o y O
      ·exact Q.o y O
     case measure=>exact vJ
    ·have d5:j=R.length:=vO
     subst d5;rw[cL]at H;have Z:=Hd H;clear H;go_wp2_with fail
     go_roundw
     case rel=>exact⟨rfl,i+1,M++R,by go_num,b6.o (by have h:=Q.o;rwa [cL]at h),Z.o⟩
     case measure=>exact vJ
  ·have c3:i=(frK S M).length:=vO
   have HP:=Hd (show jfX S G root M (frK S M).length by rw[<-c3];exact X);have d6:=Hd (show SRow w0 wr (.slice ad n cp) n (frK S M)from⟨⟨_,_,rfl⟩,h2,J.ext,fun z hz=>by have:=h4 z hz;have:=J.lo;omega⟩);have b1:¬(i:Int) < (n:Int):=vO
   clear c3 X J E h2 h4 hn b0 a0;go_wp2_with fail
   go_ret2;exact .inr ⟨.slice ad n cp,n,M,rfl,HP.o,d6.o⟩
theorem jjU{L:vM}{G:vT}(h:G.map kvI=readG L)(hL:∀ t∈L,∃ n,jbs t n)(hl:L.length<=1000):Fair G:=by
 refine⟨?_,fun y o=>?_⟩
 ·have:=(jfr L).2.2
  rw[<-h,cC]at this;exact bJ this hl
 ·obtain⟨t,A,_,e⟩:=jc8 h o
  rw[e]
  obtain⟨n,E⟩:=hL t A
  exact jiG (jdm E)
theorem jjb{S G:vT}{root:vB}{M:vM}{i:Nat}(h:jfX S G root M i){r:vB}(hr:r∈M):(atL (S++jc0 G (frK S M)) r.data.toList).isSome=true:=by
 rw[jzq];cases hs:atL S r.data.toList with
 | some y=>rfl
 | none =>
  obtain⟨y,e⟩:=fG.1 (h.at' (jf9.2 ⟨hr,hs⟩))
  have o:y∈jc0 G (frK S M):=List.mem_filterMap.2 ⟨r,jf9.2 ⟨hr,hs⟩,e⟩;cases hp:atL (jc0 G (frK S M)) r.data.toList with
  | some z=>rfl
  | none=>exact absurd (jba e).2.symm (jkp.1 hp y o)
structure AddY(w:World)(s bm:Nat)(room:Int)(S:vT)(L:vM)(top:vB)(G:vT)(M:vM)(e:Ending)(w':World):Prop where
 given:G.map kvI=readG L
 nodes:∀ t∈L,∃ n,jbs t n
 news:∀ y∈G,w.heap.size<=y.2.1
 path:jfX S G (shaB top) M (frK S M).length
 fits:¬ room - S.length < (frK S M).length
 res:e=.returned (.tuple #[.string (shaB top),.int .i64 0])
 st:jaT w' s bm room (jkx (shaB top).data.toList (jeI ((frK S M).flatMap (jce G)) (S++jc0 G (frK S M))))
 kp:jae (fun z=>z=bm\/z∈S.map (·.2.1)) w w'
 rk:RK w w'
 rows:jns w w' G
def jwy(Q:Prop)(room:Int)(S:vT)(L:vM)(k:Int):Prop:=(k=2/\Q)\/(k=2/\∃ G,G.map kvI=readG L/\∃ x r,r∈jce G x/\¬ has2 S G r)\/(k=3/\∃ top G M,L[0]?=some top/\G.map kvI=readG L/\jfX S G (shaB top) M (frK S M).length/\room - S.length < (frK S M).length)
def jlw(Q:Prop)(w:vW)(s bm:Nat)(room:Int)(S:vT)(L:vM)(e:Ending)(w':vW):Prop:=(∃ k:Int,jwy Q room S L k/\k≠0/\e=.returned (.tuple #[.string ⟨#[]⟩,.int .i64 k])/\Ext w w')\/∃ top G M,L[0]?=some top/\AddY w s bm room S L top G M e w'
theorem jnv(w:vW)(hc:jb0 w)(hGE:ErrT w)(s bm:Nat)(room:Int)(S:vT)(h:jaT w s bm room S)(v:vV)(L:vM)(hv:RdS w v L)(Q:Prop)(hL:AnyQ Q L)(hll:L.length<=1000)(top:vB)(htop:L[0]?=some top)(hr0:0<=room)(hr1:room<=9223372036854775807)(hS:S.length<=100000)(hSu:∀ x∈S,0<=x.2.2.used/\x.2.2.used<=1000000000)(hSh:∀ x∈S,0<=x.2.2.held/\x.2.2.held<=1000000000) :
  vQ 19 #[.pointer (some ⟨s,0,none⟩),v] w (jlw Q w s bm room S L):=by
 have h0:L≠[]:=fun e=>by subst e;cases htop
 have k2:0 < L.length:=gE.2 h0
 obtain⟨a,c,rfl,_⟩:=hv.slice
 have HR:=Hd (jt3 w hc hGE _ L hv hll h0 Q hL);have HC:=Hd hc;have HV:=Hd hv;have HL:=Hd hL;have HS:=Hd h;have X:=Hd htop;have g8:=Hd hSu;have d3:=Hd hSh;clear hc h hv hL htop h0 hSu hSh;go_enter Tryz.func19,Tryz.ntmps19;go_wp2_with fail
 refine HR.o.mono ?_;rintro e w1 (⟨rfl,hE,hq⟩ |⟨a0,bg,G,rfl,hG,e2⟩)
 ·have HE:=Hd hE
  have HQ:=Hd hq;clear hE HR hq;go_wp2_with fail
  go_ret2;exact .inl ⟨2,.inl ⟨rfl,HQ.o⟩,by decide,rfl,HE.o⟩
 have b4:=Hd a0;have g9:=Hd e2;have h2:Hid (∀ x∈G,x.2.1 < w1.heap.size):=fun x A=>(hG.at'.items x A).lt;have h3:=Hd hG.ext;clear a0 e2
 obtain⟨ax,cx,hh,E⟩:=HV.o.slice
 obtain⟨ba,oa,a7,a8⟩:=E 0 top X.o
 subst a7;cases hh;have q1:=jaa a8 hG.ext;have HG:=Hd hG;rw[fN]at q1;clear E a8 hG HR;go_wp2_with fail
 refine vH (of_t _ _ [top] (by simp) (jb2 w1 [top] 9) (HC.o.ext (HG.o.ext.alloc _))) fun w2 hE=>?_;rw[jdx];have c8:=((ExtR w1).alloc (.cells #[.string top] 9)).trans hE;have H:=Hd (HG.o.keeps c8);have h4:=Hd c8
 obtain⟨rt,b9⟩:=vE (shaB top)
 have c0:=Hd b9;have h5:=Hd (show (atL G rt.data.toList).isSome=true by rw[b9];exact jmg HG.o.is (bI X.o));rw[<-b9];clear c8 b9 q1;go_wp2_with fail
 have c1:=Hd (jjU H.o.is b4.o hll);have e3:=Hd (HS.o.ext H.o.ext);refine (jom w2 s bm room S G bg e3.o H.o.at' c1.o rt h5.o).mono ?_;rintro e w3 (⟨rfl,hE,e4⟩ |⟨v3,n,M,rfl,hP,hF⟩)
 ·have HE:=Hd (H.o.ext.trans hE)
  have h6:=Hd e4;clear hE e4;go_wp2_with fail
  go_ret2;exact .inl ⟨2,.inr (.inl ⟨rfl,G,H.o.is,h6.o⟩),by decide,rfl,HE.o⟩
 have d4:=jhU (S:=S) (M:=M) (fun x A=>hP.at' A);have k3:=c1.o.few;have hn:(frK S M).length=n:=by have:=hF.len;simpa using this
 obtain⟨ad,cp,rfl⟩:=hF.sl
 have HP:=Hd hP;have HF:=Hd hF
 obtain⟨F,c9⟩:=vE (frK S M)
 rw[<-c9]at HF hn d4;have O:=Hd c9;have h7:=Hd (H.o.keeps hF.ext);have e5:=Hd (e3.o.ext hF.ext);clear hP hF c9;go_wp2_with fail
 refine vH (jyA w3 s bm room S e5.o hr0 hr1 vO) fun w4 a4=>?_
 obtain⟨m,hm⟩:=vE (room - (S.length:Int))
 rw[<-hm];have HM:=Hd hm;clear hm
 by_cases hfull:m < (n:Int)
 ·go_wp2_with fail
  go_ret2;exact .inl ⟨3,.inr (.inr ⟨rfl,top,G,M,X.o,H.o.is,by rw[<-c0.o];exact HP.o,by rw[<-O.o,hn, <-HM.o];exact hfull⟩),by decide,rfl,(H.o.ext.trans HF.o.ext).trans a4.o⟩
 ·have d5:=Hd (show RK w1 w4 from(((RK.refl w1).ext h4.o).ext HF.o.ext).ext a4.o)
  have e6:Ad1 w4 s bm bg room S G F (.slice ad n cp) 0 w4:=⟨jae.refl _ _,by rw[jE];show jaT w4 s bm room (S++[]);rw[bZ];exact e5.o.ext a4.o,h7.o.at'.ext a4.o,by rw[hn];exact jbq HF.o.own a4.o⟩;have e7:=Hd e6;have c2:=HS.o.mp.mp
  obtain⟨_,_,c2,_⟩:=c2
  have g7:=c2.lt;have h8:Hid (∀ z,(Value.slice ad n cp).ownBlock=some z->z≠bm):=(fun z hz e=>by have:=HF.o.new z hz;have:=H.o.ext.size;omega);have h9:Hid (bg≠bm):=(fun e=>by have:=H.o.new;omega);have i0:Hid (∀ x∈S,∀ y∈G,x.2.1≠y.2.1):=(fun x A y hy e=>by have:=(HS.o.mp.items x A).lt;have:=H.o.news y hy;omega);have i1:=Hd (show F.Nodup by rw[O.o];exact jmb S M);have i2:Hid (∀ x∈F,atL S x.data.toList=none):=(fun x A=>by rw[O.o]at A;exact (jf9.1 A).2);have e8:Hid (∀ x∈F,(atL G x.data.toList).isSome=true):=(fun x A=>by rw[O.o]at A;exact HP.o.at' A);have k5:=Hd (HS.o.st);subst hn;clear e6 c2;go_wp2_with fail
  rw[show decide (m < (F.length:Int))=false from decide_eq_false (Int.not_lt.2 hfull)];go_loopw [46] (fun iv wr=>AdR1 w4 s bm bg room S G F (.slice ad F.length cp) iv wr/\RK w1 wr) (fun iv _=>F.length - (intOf iv).toNat)
  case atStart=>exact⟨⟨0,cD _,rfl,e7.o⟩,d5.o⟩
  case round =>
   obtain⟨⟨i,hi,rfl,J⟩,e9⟩:=hrel
   have f0:=Hd e9;clear e9;have HA:=Hd J
   by_cases hlt:i < F.length
   ·have b1:(i:Int) < (F.length:Int):=vO
    obtain⟨x,A⟩:∃ x,F[i]?=some x:=⟨_,bA hlt⟩
    obtain⟨ax,cx,hh,E⟩:=(jj4 J.row).slice
    obtain⟨c3,c4,a7,a8⟩:=E i x A
    subst a7;cases hh
    obtain⟨y,hy⟩:=fG.1 (e8.o x (bI A))
    have Q1:=Hd (J.st.st.cell (i:=1) (v:=.map (some bm)) vF);have f1:=Hd J.gv;have HX:=Hd A;have HY:=Hd hy
    obtain⟨yb,a9⟩:=vE y.2.1
    have f2:=Hd a9;clear E A hy J a9;go_wp2_with fail
    refine jay [0,1,2,3,4,5,6,7,8] [8] Ext ExtR ExtT vY vY vY ?_
    refine vP ?_
    refine qA _ (.pointer (some ⟨s,0,none⟩)) rfl (fun w1=>by kernel_rfl) ?_;refine vS ?_
    refine vP ?_
    refine qL ⟨s,1,none⟩ _ rfl (fun w1 h1=>jab Tryz.underlying81 rfl (jaa Q1.o ((jai _).trans h1))) ?_;refine vS ?_;iterate 3 refine vP ?_
    refine jsU _ (.pointer (some ⟨yb,0,none⟩)) rfl vY rfl (fun w1 h1=>by
     have A:=(f1.o.ext ((jai _).trans h1)).look x false;rw[HY.o]at A;unfold ptrO at A;simp only[cR,if_false]at A;rw[<-f2.o]at A;simp[execOp,Act.eval,A,cA,Result.andThen,cO]) ?_
    refine vS ?_;refine qH _ rfl (fun w5 he K hK=>?_);have f3:=HA.o.ext ((jai _).trans he)
    obtain⟨ob,f4,d0⟩:=f3.put i0.o h9.o h8.o i1.o i2.o HX.o HY.o
    rw[<-f2.o]at f4;have f5:=Hd d0
    obtain⟨k6,k7,b5,_⟩:=d0.st.mp.mp
    have d6:=Hd ((f0.o.ext ((jai _).trans he)).put (jae.onePut _ bm ob) b5);clear b5;clear f3 d0 he HA Q1 f1 a8;go_simp;refine hK _ _ ?_;clear hK K;refine qE (fun w7 he=>?_);have i3:=Hd (f5.o.ext he);have d7:=Hd (d6.o.ext he);clear he f5 f4;go_wp2_with fail
    go_roundw
    case rel=>exact⟨⟨i+1,by omega,by go_num,i3.o⟩,d7.o⟩
    case measure=>exact vJ
   ·have i4:i=F.length:=vO
    subst i4
    obtain⟨S1,b0⟩:=vE (S++jc0 G F)
    have c5:=Hd b0;have b3:=Hd (show Ad2 wr s bm bg room S1 G F (.slice ad F.length cp) [] wr from⟨jae.refl _ _,by have:=J.st;rw[cL]at this;rw[b0];exact this,⟨G,J.gv,fun k=>rfl⟩,J.row⟩);have HU:=Hd (show ∀ x∈S1,0<=x.2.2.used/\x.2.2.used<=1000000000 from fun x A=>by
     rw[b0]at A;rcases bU.1 A with A | A
     ·exact g8.o x A
     ·obtain⟨t,ht,_,e⟩:=jc8 H.o.is (jb7 A).1
      rw[e];exact⟨Int.le_refl _,by show (0:Int)<=1000000000;decide⟩)
    have i5:=Hd (show ∀ r∈F.flatMap (jce G),(atL S1 r.data.toList).isSome=true from fun r hr=>by
     rw[b0,O.o];refine jjb HP.o ?_
     have:=HP.o.is
     rw[cL, <-O.o]at this;rw[this];exact bD _ hr)
    obtain⟨w5,a5⟩:=vE wr
    have i6:=Hd a5;have d8:=Hd (show RK w1 w5 by rw[a5];exact f0.o);rw[<-a5]at b3;have b3:=Hd (show Ad2 w5 s bm bg room S1 G F (.slice ad F.length cp) [] wr by rw[<-a5];exact b3.o);have f6:=Hd (show jae (fun z=>z=bm) w4 w5 by rw[a5];exact J.kp);clear e7 J HA b0 a5;go_wp2_with fail
    go_loopw [61] (fun iv wr=>AdR2 w5 s bm bg room S1 G F (.slice ad F.length cp) iv wr/\RK w1 wr) (fun iv _=>F.length - (intOf iv).toNat)
    case atStart=>exact⟨⟨0,cD _,rfl,b3.o⟩,by rw[<-i6.o];exact d8.o⟩
    case round =>
     obtain⟨⟨i,k8,rfl,J⟩,b6⟩:=hrel
     have a3:=Hd b6;clear b6
     by_cases hlt2:i < F.length
     ·have b1:(i:Int) < (F.length:Int):=vO
      obtain⟨x,A⟩:∃ x,F[i]?=some x:=⟨_,bA hlt2⟩
      obtain⟨ax,cx,hh,E⟩:=(jj4 J.row).slice
      obtain⟨c3,c4,a7,a8⟩:=E i x A
      subst a7;cases hh
      obtain⟨y,hy⟩:=fG.1 (e8.o x (bI A))
      obtain⟨G',d1,f7⟩:=J.gv
      have hk:=f7 x.data.toList;rw[hy]at hk
      obtain⟨y',d2,hk⟩:=fE.1 hk
      have a6:=d1.look x false;rw[d2]at a6;unfold ptrO at a6;simp only[cR,if_false]at a6
      obtain⟨rv,f8,c6⟩:=(d1.items y' (jba d2).1).cells
      have f9:y'.2.2.refs=jce G x:=by rw[jfO hy];exact congrArg (fun z=>z.2.2) hk
      obtain⟨R,hR⟩:=vE (jce G x)
      rw[f9, <-hR]at c6
      obtain⟨ar,cr,rfl⟩:=jaU c6
      have qr:=f8.cell (i:=1) (v:=.slice ar R.length cr) vF
      obtain⟨T,hT⟩:=vE ((F.take i).flatMap (jce G))
      have i7:=Hd (show (F.take (i+1)).flatMap (jce G)=T++R by rw[bW,A,dX,hT,hR];simp);have i8:=Hd (show T.length<=16000 by
       have:=jhf c1.o (F.take i)
       rw[hT];rw[cI]at this;omega)
      have g0:=Hd (show R.length<=16 by rw[hR,jfO hy];exact c1.o.refs y (jba hy).1);have i9:Hid (∀ r∈R,(atL S1 r.data.toList).isSome=true):=(fun r hr=>i5.o r (cU.2 ⟨x,bI A,by rw[<-hR];exact hr⟩));rw[<-hT]at J;have g1:=Hd (show AdR3 w5 s bm bg room S1 G F (.slice (some ⟨c3,c4,none⟩) F.length cp) T R (.slice ar R.length cr) (.int .i64 0) wr from⟨0,cD _,rfl,by rw[jE,bZ];exact J,c6⟩)
      obtain⟨yb,a9⟩:=vE y'.2.1
      rw[<-a9]at a6 qr;clear E A hy d1 f7 hk d2 f8 c6 f9 hR hT J a9;go_wp2_with fail
      go_loopw [72] (fun jv g2=>AdR3 w5 s bm bg room S1 G F (.slice (some ⟨c3,c4,none⟩) F.length cp) T R (.slice ar R.length cr) jv g2/\RK w1 g2) (fun jv _=>R.length - (intOf jv).toNat)
      case atStart=>exact⟨g1.o,a3.o⟩
      case round =>
       obtain⟨⟨j,hj,rfl,hB,c7⟩,b7⟩:=hrel
       have b8:=Hd b7;clear b7
       by_cases hlt3:j < R.length
       ·have b2:(j:Int) < (R.length:Int):=vO
        obtain⟨z,hz⟩:∃ z,R[j]?=some z:=⟨_,bA hlt3⟩
        obtain⟨k9,l0,j0,Z⟩:=(jj4 c7).slice
        obtain⟨l1,l2,d9,k4⟩:=Z j z hz
        subst d9;cases j0;have qs:=hB.st.st.cell (i:=1) (v:=.map (some bm)) vF
        obtain⟨zb,u,e0,qu,fu,j1,j2,g3,a1⟩:=hB.bump HU.o (by have:=i8.o;have:=g0.o;rw[bC,cI];omega) z (i9.o z (bI hz))
        have l3:=g0.o;have j3 : -9223372036854775808<=u+1:=vO
        have j4:u+1<=9223372036854775807:=vO
        have g4:=Hd (bB (show Ad2 w5 s bm bg room S1 G F (.slice (some ⟨c3,c4,none⟩) F.length cp) (T++R.take (j+1)) _ by rw[bW,hz, <-cE];exact g3) (a1 _ _ _ c7));clear Z hz hB c7 g3 a1 a6 qr;go_wp2_with fail
        go_roundw
        case rel=>exact⟨⟨j+1,by omega,by go_num,g4.o.1,g4.o.2⟩,b8.o.set zb (.inl rfl) _⟩
        case measure=>exact vJ
       ·have j5:j=R.length:=vO
        subst j5;rw[cL, <-i7.o]at hB;have j6:=Hd hB;clear hB c7 g1 a6 qr;go_wp2_with fail
        go_roundw
        case rel=>exact⟨⟨i+1,by omega,by go_num,j6.o⟩,b8.o⟩
        case measure=>exact vJ
     ·have e1:i=F.length:=vO
      subst e1;rw[cL]at J;have l4:=Hd J;have a2:(atL S1 rt.data.toList).isSome=true:=by
       rw[c5.o,O.o];exact jjb HP.o (by rw[HP.o.is];exact bG)
      have j7:=Hd (show ∀ x∈S1,0<=x.2.2.held/\x.2.2.held<=1000000000 from fun x A=>by
       rw[c5.o]at A;rcases bU.1 A with A | A
       ·exact d3.o x A
       ·obtain⟨t,ht,_,e⟩:=jc8 H.o.is (jb7 A).1
        rw[e];exact⟨Int.le_refl _,by show (0:Int)<=1000000000;decide⟩)
      have qs:=J.st.st.cell (i:=1) (v:=.map (some bm)) vF
      obtain⟨zb,u,e0,qu,fu,j1,j2,g5,g6⟩:=J.hold j7.o rt a2
      have j3 : -9223372036854775808<=u+1:=vO
      have j4:u+1<=9223372036854775807:=vO
      have j8:=Hd g5;have j9:=Hd (((H.o.ext.trans HF.o.ext).trans a4.o).mono (G:=fun z=>z=bm\/z∈S.map (·.2.1)) (fun _ _ g=>g.elim));have k0:=Hd g6;have k1:=Hd f6.o;clear J b3 f6 g5 g6 a2;go_wp2_with fail
      go_ret2;refine .inr ⟨top,G,M,X.o,H.o.is,b4.o,H.o.news,by rw[<-c0.o];exact HP.o,by rw[<-O.o, <-HM.o];exact Int.not_lt.2 hfull,by rw[c0.o];rfl,?_,?_,((RK.refl w).ext h3.o).trans (a3.o.set zb (.inr rfl) _),g9.o.rk (a3.o.set zb (.inr rfl) _) h2.o⟩
      ·rw[<-O.o, <-c5.o, <-c0.o];exact j8.o
      ·refine (jae.trans' (F:=fun z=>z=bm\/z∈S.map (·.2.1)) j9.o k1.o (fun z hz e=>.inl e)).trans' k0.o (fun z hz e=>?_)
       rw[c5.o,cB]at e;rcases bU.1 e with e | e
       ·exact .inr e
       ·obtain⟨y,hy,rfl⟩:=bK.1 e
        have:=H.o.news y (jb7 hy).1
        omega
def ComP(w:vW)(s bm:Nat)(room:Int)(S:vT)(l:vL)(cs:List Chg)(e:Ending)(w':vW):Prop:=
 (jbk l cs≠0/\e=.returned (.tuple #[.string ⟨#[]⟩,.int .i64 (jbk l cs)])/\Ext w w')\/(jbk l cs=0/\∃ w1,Ext w w1/\jlw False w1 s bm room S (newM S (jbh l cs)) e w')
theorem ComP.bad{w w':vW}{s bm:Nat}{room:Int}{S:vT}{l:vL}{cs:List Chg}{x:Int}(h:jbk l cs=x)(h0:x≠0)(hE:Ext w w'):ComP w s bm room S l cs (.returned (.tuple #[.string ⟨#[]⟩,.int .i64 x])) w':=by
 subst h;exact .inl ⟨h0,rfl,hE⟩
theorem ComP.go{w w1 w':vW}{s bm:Nat}{room:Int}{S:vT}{l:vL}{cs:List Chg}{L:vM}{e:Ending}(h:jbk l cs=0)(hL:L=newM S (jbh l cs))(hE:Ext w w1)(hA:jlw False w1 s bm room S L e w'):ComP w s bm room S l cs e w':=by
 subst hL;exact .inr ⟨h,w1,hE,hA⟩
theorem js4{S:vT}{m:vL}(h:jaz m=0):(newM S m).length<=119:=by
 unfold newM;rw[bF];have e:=jmc S (belowM m);have o:=jlN h;omega
theorem js5{S:vT}{m:vL}(h:jaz m=0){t:vB}(ht:t∈newM S m):t∈jav (jaG m):=by
 unfold newM at ht;have e:jav (jaG m)=(jaG m).text :: belowM m:=by rw[jks h];show jav (.mk _ _)=_;rw[jav];rfl
 rw[e];rcases bM.1 ht with rfl | ht
 ·exact bG
 ·unfold freshU at ht
  exact bD _ ((jaV _ _).1 (cP.1 ht).1)
theorem js6{S:vT}{m:vL}(h:jaz m=0):∀ t∈newM S m,∃ n,jbs t n:=fun t e=>by
 obtain⟨n,o,_⟩:=(jhN h).node t ((jaV _ _).2 (js5 h e))
 exact⟨n,o⟩
theorem juS(w:vW)(hc:jb0 w)(he:ErrT w)(s bm:Nat)(room:Int)(S:vT)(hs:jaT w s bm room S)(hN:jic S)(l:vL)(h:HasM S l)(u:vV)(cs:List Chg)(hu:RdC w u cs)(hnc:cs.length<=9223372036854775807)(hsc:∀ c∈cs,c.key.size<=9223372036854775807/\c.value.size<=9223372036854775807)(hr0:0<=room)(hr1:room<=9223372036854775807)(hS:S.length<=100000)(hSu:∀ x∈S,0<=x.2.2.used/\x.2.2.used<=1000000000)(hSh:∀ x∈S,0<=x.2.2.held/\x.2.2.held<=1000000000) :
  vQ 13 #[.pointer (some ⟨s,0,none⟩),.string (rootM l),u] w (ComP w s bm room S l cs):=by
 have HU:=Hd (jAD w hc he s bm room S hs hN l h u cs hu hnc hsc);have Q:=Hd (bB hc he);have a4:=Hd hs;have HB:=Hd (bB hS (bB hSu hSh));have HR:=Hd (bB hr0 hr1)
 obtain⟨a,c,a5⟩:=hu.sl
 subst a5
 obtain⟨rt,X⟩:=vE (rootM l)
 rw[<-X]at HU ⊢;clear X hs hN h hc he hu hnc hsc hS hSu hSh hr0 hr1;go_enter Tryz.func13,Tryz.ntmps13;go_wp2_with fail
 refine HU.o.mono ?_;rintro e w1 Z;unfold UpdP at Z
 by_cases h0:jbk l cs=0
 case neg =>
  rw[if_neg h0]at Z
  obtain⟨rfl,hE⟩:=Z
  have J:=Hd hE
  obtain⟨x0,K⟩:=vE (jbk l cs)
  have a6:=Hd K.symm;rw[<-K]at h0 ⊢;have H0:=Hd h0;have a9:(x0 != 0)=true:=by simpa using h0
  have b0:(x0 == 0)=false:=by simpa using h0
  clear hE K h0;go_wp2_with fail
  go_ret2;exact ComP.bad a6.o H0.o J.o
 rw[if_pos h0]at Z
 obtain⟨r,rfl,hR⟩:=Z
 have H0:=Hd h0;have A:=jdN h0;have A:jaz (jbh l cs)=0:=A;have O:=js4 (S:=S) A;have a0:=Hd hR.rd;have J:=Hd hR.ext;have a1:=Hd (jg3 (js6 (S:=S) A));have E:Hid ((newM S (jbh l cs))[0]?=some (jaG (jbh l cs)).text):=rfl
 obtain⟨L,hL⟩:=vE (newM S (jbh l cs))
 rw[<-hL]at a0 a1 E O hR;have a2:=Hd hL;have a7:=Hd O
 obtain⟨a3,c3,e3⟩:=hR.sl
 subst e3
 obtain⟨top,H⟩:=vE (jaG (jbh l cs)).text
 rw[<-H]at E;clear hR hL h0 A O H;go_wp2_with fail
 refine (jnv w1 (Q.o.1.ext J.o) (Q.o.2.ext J.o) s bm room S (a4.o.ext J.o) _ L a0.o False a1.o (by have:=a7.o;omega) top E.o HR.o.1 HR.o.2 HB.o.1 HB.o.2.1 HB.o.2.2).mono ?_;intro e w2 hA;have HA:=Hd hA;rcases hA with⟨k,_,_,rfl,_⟩ |⟨_,_,_,_,hY⟩
 ·go_wp2_with fail
  go_ret2;exact ComP.go H0.o a2.o J.o HA.o
 ·have a8:=hY.res
  subst a8;clear hY;go_wp2_with fail
  go_ret2;exact ComP.go H0.o a2.o J.o HA.o
def jgP(S:vT):vM:=S.flatMap fun y=>y.2.2.refs
structure Cnt(S:vT):Prop where
 used:∀ x∈S,x.2.2.used=(cK (jgP S) x.1:Int)
 shut:∀ r∈jgP S,r.data.toList∈S.map (·.1)
 held:∀ x∈S,0<=x.2.2.held
 r16:∀ x∈S,x.2.2.refs.length<=16
def je9(S:vT):Int:=(S.map fun x=>x.2.2.held).sum
theorem Cnt.none:Cnt []:=⟨by simp,by simp[jgP],by simp,by simp⟩
theorem jtF{S:vT}(h:∀ x∈S,x.2.2.refs.length<=16):(jgP S).length<=16 * S.length:=by
 induction S with
 | nil=>simp[jgP]
 | cons x r ih =>
  have A:=ih fun y o=>h y (bD _ o);have E:=h x bG;have e:jgP (x :: r)=x.2.2.refs++jgP r:=by simp[jgP]
  rw[e,bC,bF];omega
theorem jzy(T:vM)(k:Key):cK T k<=T.length:=by
 unfold cK;have:=jG (a:=k) (l:=T.map (·.data.toList));rwa [cC]at this
def jw2(S:vT):Prop:=∀ x∈S,0 < x.2.2.used+x.2.2.held
end
section
open Go Go.RowKit
theorem jlE{S G:vT}{M:vM}{top:vB}:jgP (addS S G M top)=jgP S++(frK S M).flatMap (jce G):=by
 rw[jdr];have h:=jrH ((frK S M).flatMap (jce G)) (shaB top) (S++jc0 G (frK S M));unfold jgP;rw[h,dX, <-jj6]
theorem jel{S G:vT}{M:vM}{top:vB}:(addS S G M top).map (·.1)=(S++jc0 G (frK S M)).map (·.1):=by rw[jdr,jrG]
theorem jxt{S G:vT}{L M:vM}{top:vB}(hc:Cnt S)(hG:G.map kvI=readG L)(hf:Fair G)(hP:jfX S G (shaB top) M (frK S M).length):Cnt (addS S G M top):=by
 have H:∀ r∈(frK S M).flatMap (jce G),r∈M:=fun r A=>by
  have:=hP.is
  rw[cL]at this;rw[this];exact bD _ A
 refine⟨fun x E=>?_,fun r A=>?_,fun x E=>?_,fun x E=>?_⟩
 ·rw[jlE,jzx]
  rw[jdr]at E
  obtain⟨z,o,rfl⟩:=bK.1 E
  show z.2.2.used+((cK ((frK S M).flatMap (jce G)) z.1:Nat):Int)=((cK (jgP S) z.1+cK ((frK S M).flatMap (jce G)) z.1:Nat):Int);rcases bU.1 o with o | o
  ·have:=hc.used z o;omega
  ·obtain⟨J,f,K,O⟩:=jb7 o
   obtain⟨t,Q,_,e⟩:=jc8 hG J
   have h0:cK (jgP S) z.1=0:=jxr fun r A X=>by
    have:=hc.shut r A
    rw[X,O, <-jeN,(jf9.1 K).2]at this;cases this
   have Z:z.2.2.used=0:=by rw[e];rfl
   omega
 ·rw[jel]
  rw[jlE]at A;rcases bU.1 A with A | A
  ·rw[cB];exact dH _ (hc.shut r A)
  ·exact jeN.1 (jjb hP (H r A))
 ·rw[jdr]at E
  obtain⟨z,o,rfl⟩:=bK.1 E
  show 0<=z.2.2.held+((cK [shaB top] z.1:Nat):Int);rcases bU.1 o with o | o
  ·have:=hc.held z o;omega
  ·obtain⟨t,Q,_,e⟩:=jc8 hG (jb7 o).1
   have Z:z.2.2.held=0:=by rw[e];rfl
   omega
 ·rw[jdr]at E
  obtain⟨z,o,rfl⟩:=bK.1 E
  show z.2.2.refs.length<=16;rcases bU.1 o with o | o
  ·exact hc.r16 z o
  ·exact hf.refs z (jb7 o).1
theorem jvk{S G:vT}{L M:vM}{top:vB}(hc:Cnt S)(hfl:jw2 S)(hG:G.map kvI=readG L)(hP:jfX S G (shaB top) M (frK S M).length):jw2 (addS S G M top):=fun x H=>by
 rw[jdr]at H
 obtain⟨z,o,rfl⟩:=bK.1 H
 show 0 < z.2.2.used+((cK ((frK S M).flatMap (jce G)) z.1:Nat):Int)+(z.2.2.held+((cK [shaB top] z.1:Nat):Int));rcases bU.1 o with o | o
 ·have:=hfl z o;omega
 ·obtain⟨A,f,E,J⟩:=jb7 o
  obtain⟨t,O,_,e⟩:=jc8 hG A
  have Q:z.2.2.used=0:=by rw[e];rfl
  have X:z.2.2.held=0:=by rw[e];rfl
  have K:=(jf9.1 E).1
  have:=hP.is
  rw[cL]at this;rw[this]at K;rcases bM.1 K with h | h
  ·have:1<=cK [shaB top] z.1:=by rw[J,h];exact jwE (by simp)
   omega
  ·have:1<=cK ((frK S M).flatMap (jce G)) z.1:=by rw[J];exact jwE h
   omega
theorem jwn(T:vM)(r:vB)(S:vT):je9 (S.map (jlO T r))=je9 S+((S.map (·.1)).count r.data.toList:Int):=by
 induction S with
 | nil=>simp[je9]
 | cons x l ih =>
  have e:∀ (a:Nd5) b,je9 (a :: b)=a.2.2.held+je9 b:=fun a b=>by unfold je9;rw[bS,iS]
  rw[bS,e,e,ih,bS,List.count_cons];have o:(jlO T r x).2.2.held=x.2.2.held+((cK [r] x.1:Nat):Int):=rfl;have A:cK [r] x.1=if x.1=r.data.toList then 1 else 0:=by
   have:=jky r [] x.1
   rw[this];simp[cK]
  rw[o,A]
  by_cases hx:x.1=r.data.toList
  ·rw[if_pos hx,if_pos (by simp[hx])];push_cast;omega
  ·rw[if_neg hx,if_neg (by simpa using hx)];push_cast;omega
theorem jyC(A B:vT):je9 (A++B)=je9 A+je9 B:=by unfold je9;rw[cB,List.sum_append]
theorem jpX:∀ {B:vT},(∀ x∈B,x.2.2.held=0)->je9 B=0
 | [],_=>rfl
 | x :: r,h=>by
  have e:je9 (x :: r)=x.2.2.held+je9 r:=by unfold je9;rw[bS,iS]
  rw[e,h x bG,jpX fun y o=>h y (bD _ o)];rfl
theorem jlX:∀ {l:List Key},l.Nodup->∀ {k:Key},k∈l->l.count k=1
 | [],_,_,o=>by cases o
 | x :: r,h,k,o=>by
  rw[fF]at h;rw[List.count_cons]
  by_cases e:x=k
  ·subst e
   rw[List.count_eq_zero_of_not_mem h.1];simp
  ·have o:k∈r:=(bM.1 o).resolve_left fun A=>e A.symm
   rw[jlX h.2 o];simp[e]
theorem jyB{S G:vT}{L M:vM}{top:vB}(hn:((addS S G M top).map (·.1)).Nodup)(hG:G.map kvI=readG L)(hP:jfX S G (shaB top) M (frK S M).length):je9 (addS S G M top)=je9 S+1:=by
 have o:(shaB top).data.toList∈(S++jc0 G (frK S M)).map (·.1):=jeN.1 (jjb hP (by rw[hP.is];exact bG));rw[jel]at hn;rw[jdr,jwn,jyC,jpX (B:=jc0 G (frK S M)) (fun x A=>by
  obtain⟨t,E,_,e⟩:=jc8 hG (jb7 A).1
  rw[e];rfl),jlX hn o]
 omega
theorem jsH{S G:vT}{M:vM}{top:vB}:(addS S G M top).length<=S.length+(frK S M).length:=by
 rw[jdr,cC,bC]
 have:(jc0 G (frK S M)).length<=(frK S M).length:=iT _ _
 omega
theorem jvp{S G:vT}{L M:vM}{top:vB}{n:Int}(h:∀ x∈S,x.2.2.held<=n)(h0:0<=n)(hG:G.map kvI=readG L):∀ x∈addS S G M top,x.2.2.held<=n+1:=fun x A=>by
 rw[jdr]at A
 obtain⟨z,o,rfl⟩:=bK.1 A
 show z.2.2.held+((cK [shaB top] z.1:Nat):Int)<=n+1;have E:=jzy [shaB top] z.1;rw[iH]at E;rcases bU.1 o with o | o
 ·have:=h z o;omega
 ·obtain⟨t,H,_,e⟩:=jc8 hG (jb7 o).1
  have J:z.2.2.held=0:=by rw[e];rfl
  omega
structure Kp(U:vM)(S:vT):Prop where
 is:∀ x∈S,∃ t∈U,x.1=ky t/\x.2.2.text=t/\x.2.2.refs=jaL (nodeOf t)
 cnt:Cnt S
 full:jw2 S
theorem Kp.none(U:vM):Kp U []:=⟨by simp,Cnt.none,fun x e=>by cases e⟩
theorem Kp.mono{U V:vM}{S:vT}(h:Kp U S)(hs:∀ t∈U,t∈V):Kp V S:=
 ⟨fun x o=>by obtain⟨t,A,e⟩:=h.is x o;exact⟨t,hs t A,e⟩,h.cnt,h.full⟩
theorem Kp.text{U:vM}{S:vT}(hU:InjL U)(h:Kp U S){t:vB}(ht:t∈U)(hk:ky t∈S.map (·.1)):∃ x,atL S (ky t)=some x/\x∈S/\x.2.2.text=t/\x.2.2.refs=jaL (nodeOf t):=by
 obtain⟨x,o⟩:=fG.1 (jeN.2 hk)
 obtain⟨A,E⟩:=jba o
 obtain⟨H,e,J,K,O⟩:=h.is x A
 have:H=t:=jz0 hU e ht (J.symm.trans E)
 subst this
 exact⟨x,o,A,K,O⟩
theorem Kp.shut{U:vM}{S:vT}(hU:InjL U)(h:Kp U S){t:vB}(ht:t∈U)(hk:ky t∈S.map (·.1)){r:vB}(hr:r∈jaL (nodeOf t)):r.data.toList∈S.map (·.1):=by
 obtain⟨x,_,e,_,o⟩:=h.text hU ht hk
 exact h.cnt.shut r (cU.2 ⟨x,e,by rw[o];exact hr⟩)
def jw6(U:vM):Prop:=∀ t∈U,∃ n,jbs t n
theorem Kp.bd{U:vM}{S:vT}(h:Kp U S)(hl:S.length<=5000):∀ x∈S,0<=x.2.2.used/\x.2.2.used<=1000000000:=fun x e=>by
 have o:=h.cnt.used x e;have A:=jzy (jgP S) x.1;have E:=jtF h.cnt.r16;omega
theorem jpO(w:vW){U:vM}(hU:InjL U){S:vT}(h:Kp U S){m:vL}(hm:jaz m=0)(hs:∀ t∈jaM m,t∈U)(e:ky (jaG m).text∈S.map (·.1)):∀ t∈jaM m,ky t∈S.map (·.1):=
 jv9 w hm (fun k=>k.data.toList∈S.map (fun x:Nd5=>x.1)) (fun t o A r e=>h.shut hU (hs t o) A e) e
theorem Kp.has(w:vW){U:vM}(hU:InjL U){S:vT}(h:Kp U S){m:vL}(hm:jaz m=0)(hs:∀ t∈jaM m,t∈U)(hr:ky (jaG m).text∈S.map (·.1)):HasM S m:=
 ⟨hm,fun t e=>by
  have e:=(jaV (jav (jaG m)) t).2 e
  obtain⟨x,o,_,A,_⟩:=h.text hU (hs t e) (jpO w hU h hm hs hr t e)
  exact⟨x,o,A⟩⟩
theorem Kp.nodes{U:vM}{S:vT}(h:Kp U S)(hN:∀ t∈U,∃ n,jbs t n):∀ x∈S,∃ n,jbs x.2.2.text n:=fun x o=>by
 obtain⟨t,A,_,e,_⟩:=h.is x o
 rw[e];exact hN t A
theorem jc6{m:vL}(hm:jaz m=0):jw6 (jaM m):=fun t e=>by
 obtain⟨n,o,_⟩:=(jhN hm).node t e
 exact⟨n,o⟩
structure Part(S:vT)(m:vL)(L:vM):Prop where
 ok:jaz m=0
 head:L[0]?=some (jaG m).text
 sub:∀ t∈L,t∈jaM m
 all:∀ t∈jaM m,t∈L\/ky t∈S.map (·.1)
theorem jpz(S:vT){m:vL}(hm:jaz m=0):Part S m (jaM m):=⟨hm,(jhN hm).head,fun _ h=>h,fun _ h=>.inl h⟩
theorem Part.refs(w:vW){S:vT}{m:vL}{L:vM}(h:Part S m L){G:vT}(hG:G.map kvI=readG L){x r:vB}(o:r∈jce G x):has2 S G r:=by
 unfold jce at o;cases ha:atL G x.data.toList with
 | none=>rw[ha]at o;cases o
 | some y =>
  rw[ha]at o
  obtain⟨t,J,_,e⟩:=jc8 hG (jba ha).1
  have o:r∈y.2.2.refs:=o;rw[e]at o
  obtain⟨n,H,A⟩:=(jhN h.ok).node t (h.sub t J)
  have o:r∈jaL (nodeOf t):=o;rw[jes w (jdm H) H]at o
  obtain⟨K,E,e⟩:=A r o
  subst e;rcases h.all K E with h1 | h1
  ·exact .inr (jmg hG h1)
  ·exact .inl (jeN.2 h1)
theorem Part.why(w:vW){S:vT}{m:vL}{L:vM}(h:Part S m L){room k:Int}(hk:jwy False room S L k):k=3/\room < (S.length:Int)+(L.length:Int):=by
 rcases hk with⟨_,e⟩ |⟨_,G,hG,x,r,hr,hno⟩ |⟨rfl,top,G,M,_,hG,hP,hroom⟩
 ·exact e.elim
 ·exact absurd (h.refs w hG hr) hno
 ·have e:=jhU (S:=S) (M:=M) (fun x o=>hP.at' o)
  have A:=(jfr L).2.2;rw[<-hG,cC]at A
  exact⟨rfl,by omega⟩
theorem jmk(f:Nd5->Nd5)(hf:∀ x,(f x).1=x.1):∀ (L:vT) (k:Key),atL (L.map f) k=(atL L k).map f
 | [],k=>rfl
 | x :: L,k=>by
  unfold atL;rw[bS,fY,fY,hf];cases e:decide (k=x.1)with
  | true=>rfl
  | false=>exact jmk f hf L k
theorem jlT(r:vB)(k:Key):cK [r] k=if k=r.data.toList then 1 else 0:=by
 have:=jky r [] k
 rw[this];unfold cK;simp
structure AddK(w:World)(U:vM)(S:vT)(m:vL)(L:vM)(S':vT):Prop where
 kp:Kp U S'
 key:∀ k,k∈S'.map (·.1)↔k∈S.map (·.1)\/∃ t∈jaM m,k=ky t
 held:∀ k,jvo (atL S' k)=jvo (atL S k)+if k=ky (jaG m).text then 1 else 0
 sum:je9 S'=je9 S+1
 len:S'.length<=S.length+L.length
 blk:∀ x∈S',x.2.1∈S.map (·.2.1)\/w.heap.size<=x.2.1
 bd:∀ n:Int,0<=n->(∀ x∈S,x.2.2.held<=n)->∀ x∈S',x.2.2.held<=n+1
theorem Part.add(w:vW){U:vM}(hU:InjL U){S:vT}(hK:Kp U S){m:vL}{L:vM}(h:Part S m L)(hs:∀ t∈jaM m,t∈U)(hl:L.length<=1000){s bm:Nat}{room:Int}{G:vT}{M:vM}{e:Ending}{w':vW}(hA:AddY w s bm room S L (jaG m).text G M e w') :
  AddK w U S m L (addS S G M (jaG m).text):=by
 have O:=hA.path;have K:=hA.given;have hF:=jjU K hA.nodes hl;have a3:((addS S G M (jaG m).text).map (·.1)).Nodup:=hA.st.nd;have o:∀ x∈jc0 G (frK S M),x∈G/\(∃ t∈L,x.1=ky t/\x.2.2=itOf t)/\atL S x.1=none:=fun x A=>by
  obtain⟨Z,z,H,e⟩:=jb7 A
  exact⟨Z,jc8 K Z,by rw[e];exact (jf9.1 H).2⟩
 have a4:∀ x∈S++jc0 G (frK S M),∃ t∈U,x.1=ky t/\x.2.2.text=t/\x.2.2.refs=jaL (nodeOf t):=fun x A=>by
  rcases bU.1 A with A | A
  ·exact hK.is x A
  ·obtain⟨t,Q,e1,e2⟩:=(o x A).2.1
   exact⟨t,hs t (h.sub t Q),e1,by rw[e2];rfl,by rw[e2];rfl⟩
 have a0:Kp U (addS S G M (jaG m).text):=by
  refine⟨fun x' a1=>?_,jxt hK.cnt K hF O,jvk hK.cnt hK.full K O⟩
  rw[jdr]at a1
  obtain⟨x,A,rfl⟩:=bK.1 a1
  exact a4 x A
 have E:ky (jaG m).text∈(addS S G M (jaG m).text).map (·.1):=by
  rw[jel];exact jeN.1 (jjb O (by rw[O.is];exact bG))
 have a2:∀ k,atL (addS S G M (jaG m).text) k=(atL (S++jc0 G (frK S M)) k).map (jlO ((frK S M).flatMap (jce G)) (shaB (jaG m).text)):=fun k=>by
  rw[jdr];exact jmk (jlO ((frK S M).flatMap (jce G)) (shaB (jaG m).text)) (fun _=>rfl) _ k
 refine⟨a0,fun k=>?_,fun k=>?_,jyB a3 K O,?_,fun x A=>?_,fun n hn hb=>jvp hb hn K⟩
 ·constructor
  ·intro J
   rw[jel,cB,bU]at J;rcases J with J | J
   ·exact .inl J
   ·obtain⟨x,A,rfl⟩:=bK.1 J
    obtain⟨t,Q,e1,_⟩:=(o x A).2.1
    exact .inr ⟨t,h.sub t Q,e1⟩
  ·rintro (J |⟨t,Q,rfl⟩)
   ·rw[jel,cB,bU];exact .inl J
   ·exact jpO w hU a0 h.ok hs E t Q
 ·rw[a2]
  have H:(if k=ky (jaG m).text then (1:Int)else 0)=((cK [shaB (jaG m).text] k:Nat):Int):=by
   rw[jlT];unfold ky;split <;> rfl
  rw[H];unfold atL;rw[List.find?_append];cases hS:List.find? (fun x=>decide (k=x.1)) S with
  | some y =>
   have a5:=(jba (L:=S) (k:=k) hS).2;show y.2.2.held+((cK [shaB (jaG m).text] y.1:Nat):Int)=y.2.2.held+_;rw[a5]
  | none =>
   cases hP2:List.find? (fun x=>decide (k=x.1)) (jc0 G (frK S M))with
   | some y =>
    have hy:=jba (L:=jc0 G (frK S M)) (k:=k) hP2
    obtain⟨t,Q,e1,e2⟩:=(o y hy.1).2.1
    show y.2.2.held+((cK [shaB (jaG m).text] y.1:Nat):Int)=0+_;rw[hy.2,e2];rfl
   | none =>
    show (0:Int)=0+_;rw[jlT]
    have:k≠(shaB (jaG m).text).data.toList:=fun e=>by
     have Z:=a2 k;have X:=jeN.2 E;unfold ky at X;rw[<-e,Z]at X;unfold atL at X;rw[List.find?_append,hS,hP2]at X;cases X
    rw[if_neg this];rfl
 ·have Z:=jsH (S:=S) (G:=G) (M:=M) (top:=(jaG m).text)
  have X:=jhU (S:=S) (M:=M) (fun x A=>O.at' A);have h3:=(jfr L).2.2;rw[<-K,cC]at h3;omega
 ·rw[jdr]at A
  obtain⟨z,H,rfl⟩:=bK.1 A
  rcases bU.1 H with H | H
  ·exact .inl (bK.2 ⟨z,H,rfl⟩)
  ·exact .inr (hA.news z (o z H).1)
theorem jqB{m:vL}(h:jaz m=0):jav (jaG m)=(jaG m).text :: belowM m:=by
 rw[jks h];show jav (.mk _ _)=_;rw[jav];rfl
theorem jvP(S:vT){m:vL}(h:jaz m=0):Part S m (newM S m):=
 ⟨h,rfl,fun t e=>(jaV _ _).2 (js5 h e),fun t e=>by
  have e:=(jaV (jav (jaG m)) t).1 e;rw[jqB h]at e;unfold newM;rcases bM.1 e with rfl | e
  ·exact .inl bG
  ·cases hl:lackB S t with
   | true=>exact .inl (bD _ (cP.2 ⟨(jaV _ _).2 e,hl⟩))
   | false =>
    refine .inr (jeN.1 ?_);unfold lackB at hl;unfold ky;cases ha:atL S (shaB t).data.toList with
    | none=>rw[ha]at hl;cases hl
    | some x=>rfl⟩
theorem AddK.ahead{w w1:vW}{U:vM}{S:vT}{m:vL}{L:vM}{S':vT}(h:AddK w1 U S m L S')(hw:w.heap.size<=w1.heap.size):AddK w U S m L S':=
 ⟨h.kp,h.key,h.held,h.sum,h.len,fun x o=>(h.blk x o).imp id (fun e=>bJ hw e),h.bd⟩
structure ComY(w:World)(s bm:Nat)(room:Int)(U:vM)(S:vT)(m:vL)(L:vM)(e:Ending)(w':World)(S':vT):Prop where
 res:e=.returned (.tuple #[.string (rootM m),.int .i64 0])
 st:jaT w' s bm room S'
 add:AddK w U S m L S'
 kp:jae (fun z=>z=bm\/z∈S.map (·.2.1)) w w'
 fits:(S'.length:Int)<=room\/room < S.length
def ComF(w:vW)(room:Int)(S:vT)(L:vM)(e:Ending)(w':vW):Prop:=e=.returned (.tuple #[.string ⟨#[]⟩,.int .i64 3])/\Ext w w'/\room < (S.length:Int)+(L.length:Int)
theorem joB(w0 w:vW){U:vM}(hU:InjL U){S:vT}(hK:Kp U S){m:vL}{L:vM}(hp:Part S m L)(hs:∀ t∈jaM m,t∈U)(hl:L.length<=1000){s bm:Nat}{room:Int}{e:Ending}{w':vW}(hE:Ext w0 w)(h:jlw False w s bm room S L e w') :
  ComF w0 room S L e w'\/∃ S',ComY w0 s bm room U S m L e w' S':=by
 rcases h with⟨k,hwhy,_,rfl,hE2⟩ |⟨top,G,M,htop,hY⟩
 ·obtain⟨rfl,E⟩:=hp.why w hwhy
  exact .inl ⟨rfl,hE.trans hE2,E⟩
 ·have o:top=(jaG m).text:=by have:=hp.head;rw[htop]at this;exact bO this
  subst o;refine .inr ⟨_,hY.res,hY.st,(hp.add w hU hK hs hl hY).ahead hE.size,(hE.mono (fun _ _ e=>e.elim)).trans hY.kp,?_⟩;have H:=hY.fits;have A:=jsH (S:=S) (G:=G) (M:=M) (top:=(jaG m).text);have A:(jkx (shaB (jaG m).text).data.toList (jeI ((frK S M).flatMap (jce G)) (S++jc0 G (frK S M)))).length<=S.length+(frK S M).length:=A;omega
theorem jBf(w:vW){U:vM}(hU:InjL U){S:vT}(hK:Kp U S){l:vL}{cs:List Chg}(h0:jbk l cs=0)(hs:∀ t∈jaM (jbh l cs),t∈U){s bm:Nat}{room:Int}{e:Ending}{w':vW}(h:ComP w s bm room S l cs e w') :
  ComF w room S (newM S (jbh l cs)) e w'\/∃ S',ComY w s bm room U S (jbh l cs) (newM S (jbh l cs)) e w' S':=by
 rcases h with⟨h1,_⟩ |⟨_,w1,hE,h⟩
 ·exact absurd h0 h1
 ·have o:jaz (jbh l cs)=0:=jdN h0
  exact joB w w1 hU hK (jvP S o) hs (by have:=js4 (S:=S) o;omega) hE h
theorem juR(w:vW){U:vM}(hU:InjL U){S:vT}(hK:Kp U S){l:vL}{cs:List Chg}(h0:jbk l cs=0)(hs:∀ t∈jaM (jbh l cs),t∈U){s bm:Nat}{room:Int}{e:Ending}{w':vW}(h:ComP w s bm room S l cs e w')(hr:(S.length:Int)+((newM S (jbh l cs)).length:Int)<=room) :
  ∃ S',ComY w s bm room U S (jbh l cs) (newM S (jbh l cs)) e w' S':=by
 rcases jBf w hU hK h0 hs h with⟨_,_,h3⟩ | h3
 ·omega
 ·exact h3
theorem AddK.more{w:vW}{U:vM}(hU:InjL U){S:vT}{m:vL}{L:vM}{S':vT}(h:AddK w U S m L S'){l:vL}(hl:∀ t∈jaM l,t∈U)(hM:HasM S l):HasM S' l:=
 h.kp.has w hU hM.ok hl ((h.key _).2 (.inl (by
  obtain⟨x,e,_⟩:=hM.has _ (jbW _)
  exact jeN.1 (by rw[e];rfl))))
theorem AddK.has{w:vW}{U:vM}(hU:InjL U){S:vT}{m:vL}{L:vM}{S':vT}(h:AddK w U S m L S')(hm:jaz m=0)(hl:∀ t∈jaM m,t∈U):HasM S' m:=
 h.kp.has w hU hm hl ((h.key _).2 (.inr ⟨_,bI (jhN hm).head,rfl⟩))
end
section
open Go Go.RowKit
attribute [local go_sem] Oper.semAt_some
end
section
open Go Go.RowKit
end
section
open Go Go.RowKit
attribute [local go_sem] Oper.semAt_some
theorem ORow.since{T:TypeId}{sz:Nat}{w0 w1 w:vW}{v:vV}{n:Nat}{xs:List vV}(h:ORow T sz w1 w v n xs)(e:Ext w0 w1):ORow T sz w0 w v n xs:=⟨h.sl,h.own,e.trans h.ext,fun b hb=>bJ e.size (h.new b hb)⟩
def twP:vL:=[(⟨#[97]⟩,⟨#[49]⟩),(⟨#[98]⟩,⟨#[50]⟩)]
theorem tw_p:jaz twP=0:=by decide +kernel
theorem jnc{m:vL}(h:jaz m=0):jc1 m=m:=ji6 (jjd (jgs h).2.nodup) (jgs h).2 (jsM m)
theorem jyG:jaM twP=[(jaG twP).text]:=by decide +kernel
theorem jx3{S:vT}{m:vL}(h:belowM m=[]):newM S m=[(jaG m).text]:=by unfold newM;rw[h];rfl
theorem jvX(w:vW)(xs:List Chg)(T:TypeId):RdC (w.alloc (.cells (jd1 xs).toArray T)) (.slice (some ⟨w.heap.size,0,none⟩) xs.length xs.length) xs:=
 .inr ⟨w.heap.size,0,xs.length,rfl,by simp,bL _,fun j x e=>by
  obtain⟨o,A,E⟩:=jeK xs j x e
  exact⟨by rw[cH];exact (Blk.new w _).cellL o,by rw[cH];exact (Blk.new w _).cellL A,by rw[cH];exact (Blk.new w _).cellL E⟩⟩
theorem jvY(w:vW)(xs:vL)(T:TypeId):RdP (w.alloc (.cells (jca xs).toArray T)) (.slice (some ⟨w.heap.size,0,none⟩) xs.length xs.length) xs:=by
 refine .inr ⟨_,0,_,rfl,(Blk.new w _).lt,bL _,fun j x e=>?_⟩
 obtain⟨o,A⟩:=jdE xs j x e
 exact⟨by rw[cH];exact (Blk.new w _).cellL o,by rw[cH];exact (Blk.new w _).cellL A⟩
theorem jBs{U:vM}{S:vT}(h:Kp U S){k:vB}(hk:k.size≠32):atL S k.data.toList=none:=by
 cases ha:atL S k.data.toList with
 | none=>rfl
 | some y =>
  obtain⟨A,E⟩:=jba ha
  obtain⟨t,_,e,_⟩:=h.is y A
  have o:=congrArg List.length (E.symm.trans e);have H:(ky t).length=32:=jbd t;rw[H,jaS]at o;exact absurd o hk
structure jfW(l:vL)(w:World)(s bm:Nat)(S:vT)(w':World):Prop where
 ext:Ext w w'
 st:jaT w' s bm 2000 S
 add:∃ W,AddK W (jaM l) [] l (jaM l) S
 few:fewB l=true
 inj:InjL (jaM l)
 ok:jaz l=0
 bnew:w.heap.size<=bm
 snew:w.heap.size<=s
 ne:s≠bm
 new:∀ x∈S,w.heap.size<=x.2.1
def juq(l:vL)(w:vW)(e:Ending)(w':vW):Prop:=∃ s bm S,e=.returned (.tuple #[.pointer (some ⟨s,0,none⟩),.string (shaB (jaG l).text)])/\jfW l w s bm S w'
def jy1(l:vL)(w:vW)(e:Ending)(w':vW):Prop:=jy0 l w e w'\/juq l w e w'
theorem jfW.key{l:vL}{w w':vW}{s bm:Nat}{S:vT}(h:jfW l w s bm S w')(k:Key):k∈S.map (·.1)↔∃ t∈jaM l,k=ky t:=by
 obtain⟨W,e⟩:=h.add
 rw[e.key];simp
theorem jfW.kp{l:vL}{w w':vW}{s bm:Nat}{S:vT}(h:jfW l w s bm S w'):Kp (jaM l) S:=by
 obtain⟨W,e⟩:=h.add
 exact e.kp
theorem jfW.has{l:vL}{w w':vW}{s bm:Nat}{S:vT}(h:jfW l w s bm S w'):HasM S l:=
 h.kp.has w h.inj h.ok (fun _ h=>h) ((h.key _).2 ⟨_,bI (jhN h.ok).head,rfl⟩)
theorem jfW.held{l:vL}{w w':vW}{s bm:Nat}{S:vT}(h:jfW l w s bm S w')(k:Key):jvo (atL S k)=if k=ky (jaG l).text then 1 else 0:=by
 obtain⟨W,e⟩:=h.add
 rw[e.held];show (0:Int)+_=_;omega
theorem jfW.len{l:vL}{w w':vW}{s bm:Nat}{S:vT}(h:jfW l w s bm S w'):S.length<=121:=by
 obtain⟨W,e⟩:=h.add
 have o:=e.len;have A:=jcy h.ok;simp at o;omega
theorem jfW.hb{l:vL}{w w':vW}{s bm:Nat}{S:vT}(h:jfW l w s bm S w'):∀ x∈S,x.2.2.held<=1:=by
 obtain⟨W,e⟩:=h.add
 exact e.bd 0 vO (fun x o=>by cases o)
theorem jpe(w:vW)(hc:jb0 w)(he:ErrT w)(v:vV)(l:vL)(hv:RdP w v l)(hn:l.length<=9223372036854775807)(hs:je0 l) :
  vQ 12 #[v] w (jy1 l w):=by
 have HC:=Hd hc;have b7:=Hd he;have HV:=Hd hv;have HS:=Hd hs;have HN:=Hd hn
 obtain⟨a,c,rfl⟩:=hv.sl;clear hc hv hs hn he;go_enter Tryz.func12,Tryz.ntmps12;go_wp2_with fail
 refine vH (jwJ w _ l HV.o HN.o HS.o) fun w2 K=>?_
 obtain⟨fw,a0⟩:=vE (fewB l)
 have a7:=Hd a0;rw[<-a0];clear a0
 by_cases hcl:jaz l=0
 case neg =>
  go_wp2_with fail
  refine vH (jmC w2 _ l (HV.o.ext K.o) HN.o HS.o hcl) fun w3 J=>?_;have Q:=Hd (K.o.trans J);have a8:=Hd hcl
  obtain⟨x,Z⟩:=vE (jaz l)
  rw[<-Z]at hcl ⊢;have c8:(x == 0)=false:=by simpa using hcl
  have c7:(x != 0)=true:=by simpa using hcl
  clear hcl Z K;go_wp2_with fail
  refine (jwU w3 2000).mono ?_;rintro e w4 ⟨s,bm,rfl,J,_,_,_,_⟩;have O:=Hd (Q.o.trans J);clear J Q;go_wp2_with fail
  refine (jnz w4 (HC.o.ext O.o) _ [] (.inl ⟨none,0,rfl,rfl⟩) (by simp)).mono ?_;rintro e w5 ⟨b,rfl,_,J⟩;have E:=Hd (O.o.trans J);clear J O;cases fw with
  | false =>
   go_wp2_with fail
   go_ret2;exact .inl ⟨rfl,E.o,fun h=>a8.o h.2.1⟩
  | true =>
   go_wp2_with fail
   go_ret2;exact .inl ⟨rfl,E.o,fun h=>a8.o h.2.1⟩
 have A:=Hd hcl;clear hcl;go_wp2_with fail
 refine (jpv w2 _ l (HC.o.ext K.o) (HV.o.ext K.o) A.o).mono ?_;rintro e w3 ⟨u3,n3,rfl,hR⟩;have hR:SRow w2 w3 u3 n3 (jaM l):=hR
 obtain⟨L,hL⟩:=vE (jaM l)
 have a5:=jcy A.o;have X:=Hd hL;rw[<-hL]at hR a5;have b8:L.length=n3:=by have:=hR.len;simpa using this
 have a9:=hR.rd
 obtain⟨a3,c3,e3⟩:=hR.sl
 have Q:=Hd (K.o.trans hR.ext);subst e3;have b0:=Hd a9;subst b8;clear hR a9 K hL;go_wp2_with fail
 refine (jwU w3 2000).mono ?_;rintro e w4 ⟨s,bm,rfl,J,hS,b1,b2,b3⟩;have O:=Hd (Q.o.trans J);have HZ:=Hd (bB Q.o.size b1);have b4:=Hd (bB b2 b3);have b5:=Hd (show jaT w4 s bm 2000 []from hS);have a1:=Hd (b0.o.ext J);clear J hS Q b0 b1 b2 b3;go_wp2_with fail
 refine (jnz w4 (HC.o.ext O.o) _ L a1.o vO).mono ?_;rintro e w5 ⟨b,rfl,hb,J⟩;have E:=Hd (O.o.trans J);have b9:=Hd (b5.o.ext J);have c0:=Hd (a1.o.ext J);have HB:=Hd hb;clear J O b5 a1 hb;cases fw with
 | false =>
  go_wp2_with fail
  go_ret2;exact .inl ⟨rfl,E.o,fun h=>by have:=a7.o;rw[h.1]at this;cases this⟩
 | true =>
  cases b with
  | false =>
   go_wp2_with fail
   go_ret2;refine .inl ⟨rfl,E.o,fun h=>?_⟩
   have:=HB.o.2 (by rw[X.o];exact h.2.2)
   cases this
  | true =>
   have HI:=Hd (show InjL (jaM l) by rw[<-X.o];exact HB.o.1 rfl);have c1:=Hd (show jzi L by rw[X.o];exact jq7 w A.o (by have:=jcy A.o;exact bJ this vI));have b6:=Hd (show L[0]?=some (jaG l).text by rw[X.o];exact (jhN A.o).head)
   obtain⟨tp,a2⟩:=vE (jaG l).text
   rw[<-a2]at b6;have c9:=Hd a2;clear a2;go_wp2_with fail
   have c2:=Hd (jg3 c1.o.node);refine (jnv w5 (HC.o.ext E.o) (b7.o.ext E.o) s bm 2000 [] b9.o _ L c0.o False c2.o (by have:=jcy A.o;rw[X.o];omega) tp b6.o vI vI (by simp) (fun x Z=>by cases Z) (fun x Z=>by cases Z)).mono ?_;rintro e w6 hP;rw[X.o]at hP;have H:=jpz [] A.o;rcases hP with⟨k,hwhy,_,_,_⟩ |⟨top,G,M,htop,hY⟩
   ·have h1:=(H.why w hwhy).2
    have h2:=jcy A.o;simp at h1;omega
   have a6:top=(jaG l).text:=by have:=H.head;rw[htop]at this;exact bO this
   subst a6;have hK:=H.add w5 HI.o (Kp.none _) (fun _ h=>h) (by have:=jcy A.o;omega) hY;have c4:=hY.res;subst c4;have HF:=Hd (bB hY.st hK);have a4:=hY.kp;have c5:=Hd (E.o.trans' a4 (fun z hz e=>by
    rcases e with e | e
    ·have:=HZ.o;omega
    ·simp at e))
   have c6:=Hd (bB E.o.size a4.size);clear hY hK a4 htop H;go_wp2_with fail
   go_ret2;exact .inr ⟨s,bm,_,rfl,⟨c5.o,HF.o.1,⟨w5,HF.o.2⟩,a7.o.symm,HI.o,A.o,by have:=HZ.o;omega,by have:=HZ.o;have:=b4.o;omega,b4.o.2,fun x Z=>by
    rcases HF.o.2.blk x Z with h | h
    ·simp at h
    ·have:=c6.o;omega⟩⟩
structure Tst(W0 W:World)(s bm:Nat)(room:Int)(U:vM)(S:vT)(n:Nat):Prop where
 ext:Ext W0 W
 st:jaT W s bm room S
 kp:Kp U S
 len:S.length<=n
 bnew:W0.heap.size<=bm
 new:∀ x∈S,W0.heap.size<=x.2.1
 hb:∀ x∈S,x.2.2.held<=n
theorem Tst.grow{W0 W W':vW}{s bm:Nat}{room:Int}{U:vM}{S:vT}{n:Nat}(h:Tst W0 W s bm room U S n)(k:Ext W W'):Tst W0 W' s bm room U S n:=
 ⟨h.ext.trans k,h.st.ext k,h.kp,h.len,h.bnew,h.new,h.hb⟩
theorem Tst.more{W0 W:vW}{s bm:Nat}{room:Int}{U V:vM}{S:vT}{n:Nat}(h:Tst W0 W s bm room U S n)(hs:∀ t∈U,t∈V):Tst W0 W s bm room V S n:=
 ⟨h.ext,h.st,h.kp.mono hs,h.len,h.bnew,h.new,h.hb⟩
theorem Tst.bds{W0 W:vW}{s bm:Nat}{room:Int}{U:vM}{S:vT}{n:Nat}(h:Tst W0 W s bm room U S n)(hn:n<=5000):S.length<=100000/\(∀ x∈S,0<=x.2.2.used/\x.2.2.used<=1000000000)/\(∀ x∈S,0<=x.2.2.held/\x.2.2.held<=1000000000):=
 ⟨by have:=h.len;omega,h.kp.bd (by have:=h.len;omega),fun x e=>⟨h.kp.cnt.held x e,by have:=h.hb x e;omega⟩⟩
theorem Tst.add{W0 W W':vW}{s bm:Nat}{room:Int}{U:vM}{S S':vT}{n k:Nat}{m:vL}{L:vM}{e:Ending}(h:Tst W0 W s bm room U S n)(hL:L.length<=k)(h1:1<=k)(hY:ComY W s bm room U S m L e W' S'):Tst W0 W' s bm room U S' (n+k):=
 ⟨h.ext.trans' hY.kp (fun z E e=>by
  rcases e with e | e
  ·have:=h.bnew;omega
  ·obtain⟨y,o,e⟩:=bK.1 e
   have:=h.new y o;omega),hY.st,hY.add.kp,by have:=hY.add.len;have:=h.len;omega,h.bnew,fun x A=>by
  rcases hY.add.blk x A with e | e
  ·obtain⟨y,o,e⟩:=bK.1 e
   have:=h.new y o;omega
  ·have:=h.ext.size;omega,fun x A=>by
   have:=hY.add.bd n vO h.hb x A
   omega⟩
theorem jfW.tst{l:vL}{w w':vW}{s bm:Nat}{S:vT}(h:jfW l w s bm S w'):Tst w w' s bm 2000 (jaM l) S 121:=
 ⟨h.ext,h.st,h.kp,h.len,h.bnew,h.new,fun x e=>by have:=h.hb x e;omega⟩
end
section
open Go Go.RowKit
def dwQ:vL:=[(⟨#[98]⟩,⟨#[50]⟩),(⟨#[99]⟩,⟨#[51]⟩)]
def dwC:List Chg:=[⟨⟨#[97]⟩,⟨#[]⟩,true⟩,⟨⟨#[99]⟩,⟨#[51]⟩,false⟩]
theorem dw_q:jaz dwQ=0:=by decide +kernel
theorem dw_e:jbk twP dwC=0:=by decide +kernel
theorem dw_a:jbh twP dwC=dwQ:=by unfold jbh;rw[show je1 twP dwC=dwQ by decide +kernel,jnc dw_q]
theorem jBk:jbk twP []=0:=by decide +kernel
theorem jBg:jbh twP []=twP:=by unfold jbh;rw[show je1 twP []=twP by decide +kernel,jnc tw_p]
def dwU:vM:=[(jaG twP).text,(jaG dwQ).text]
theorem dw_t:jaM dwQ=[(jaG dwQ).text]:=by decide +kernel
theorem jsd:∀ t∈jaM twP,t∈dwU:=by rw[jyG];intro t e;rw[bY.1 e];simp[dwU]
theorem jzG:∀ t∈jaM dwQ,t∈dwU:=by rw[dw_t];intro t e;rw[bY.1 e];simp[dwU]
theorem jjO:InjL dwU:=by unfold InjL;decide +kernel
theorem joZ:jw6 dwU:=fun t e=>by
 rcases bM.1 e with rfl | e
 ·exact jc6 tw_p _ (by rw[jyG];exact bG)
 ·rw[bY.1 e]
  exact jc6 dw_q _ (by rw[dw_t];exact bG)
theorem dw_b:belowM dwQ=[]:=by rw[jks dw_q];decide +kernel
theorem jzF:fewB twP=true:=by decide +kernel
theorem jxz:InjL (jaM twP):=fun x o y A e=>jjO x (jsd x o) y (jsd y A) e
theorem jzJ:rootM dwQ≠rootM twP:=by unfold rootM;decide +kernel
theorem jzH:jbc ⟨#[97]⟩ ⟨#[98]⟩=true:=by decide +kernel
theorem jqw:jbc ⟨#[98]⟩ ⟨#[98]⟩=false:=by decide +kernel
theorem jBl:jbc ⟨#[98]⟩ ⟨#[97]⟩=false:=by decide +kernel
theorem jzI:jbc ⟨#[97]⟩ ⟨#[97]⟩=false:=by decide +kernel
theorem jxA:((⟨#[50]⟩:vB).toList ==(⟨#[50]⟩:vB).toList)=true:=by decide +kernel
theorem jBo:((⟨#[49]⟩:vB).toList ==(⟨#[49]⟩:vB).toList)=true:=by decide +kernel
theorem jBh:jcs twP dwQ=dwC:=by
 unfold jcs;rw[if_pos ⟨tw_p,dw_q⟩];unfold twP dwQ dwC;rw[ja0,if_pos jzH,ja0,if_neg (by rw[jqw];simp),if_neg (by rw[jqw];simp),if_pos jxA];simp[ja0]
theorem jBi:jcs dwQ twP=[⟨⟨#[97]⟩,⟨#[49]⟩,false⟩,⟨⟨#[99]⟩,⟨#[]⟩,true⟩]:=by
 unfold jcs;rw[if_pos ⟨dw_q,tw_p⟩];unfold twP dwQ;rw[ja0,if_neg (by rw[jBl];simp),if_pos jzH,ja0,if_neg (by rw[jqw];simp),if_neg (by rw[jqw];simp),if_pos jxA];simp[ja0]
theorem jBj:jcs twP twP=[]:=by
 unfold jcs;rw[if_pos ⟨tw_p,tw_p⟩];unfold twP;rw[ja0,if_neg (by rw[jzI];simp),if_neg (by rw[jzI];simp),if_pos jBo,ja0,if_neg (by rw[jqw];simp),if_neg (by rw[jqw];simp),if_pos jxA];simp[ja0]
theorem jbX{l:vL}{t:vB}:t∈jav (jaG l)↔t∈jaM l:=(jaV _ _).symm
theorem dw_f{B:vM}(h:jw7 twP dwQ B):B=[rootM dwQ]:=by
 have e:∀ k,k∈B↔k=rootM dwQ:=fun k=>by
  rw[h.2];constructor
  ·rintro⟨⟨t,o,rfl⟩,_⟩
   rw[jbX,dw_t]at o;rw[bY.1 o];rfl
  ·rintro rfl
   refine⟨⟨_,jbW _,rfl⟩,?_⟩
   rintro⟨t,o,e⟩
   rw[jbX,jyG]at o;rw[bY.1 o]at e;exact jzJ e
 have A:=h.1
 match B,A,e with
 | [],_,e=>exact absurd ((e (rootM dwQ)).2 rfl) cM
 | [x],_,e=>rw[(e x).1 bG]
 | x :: y :: r,A,e =>
  have E:=(e x).1 bG;have H:=(e y).1 (bD _ bG);rw[fF]at A;exact absurd (by rw[E, <-H];exact bG:x∈y :: r) A.1
theorem dw_s:baL (jdZ ([rootM dwQ].map fun h=>h.data.toList))=[rootM dwQ]:=by
 unfold baL jdZ
 simp
theorem jsc:∀ c∈dwC,c.key.size<=9223372036854775807/\c.value.size<=9223372036854775807:=by unfold dwC;simp;decide
theorem jzK:je0 twP:=fun p e=>by have:=(jaD tw_p).size p e;omega
theorem jiL:∀ (i:Nat) (a b:vN),a.take i=b.take i->i<=a.length->i<=b.length->Op.bytesLess a b=Op.bytesLess (a.drop i) (b.drop i)
 | 0,_,_,_,_,_=>rfl
 | i+1,[],_,_,h,_=>by simp at h
 | i+1,_ :: _,[],_,_,h=>by simp at h
 | i+1,x :: a,y :: b,h,h1,h2=>by
  simp only[dV,List.cons.injEq]at h
  obtain⟨rfl,h⟩:=h
  rw[Op.bytesLess,iO,iO, <-jiL i a b h (by simpa using h1) (by simpa using h2)]
  simp
theorem jxV{i:Nat}{a b:vN}{x y:vU}(h:a.take i=b.take i)(hx:a[i]?=some x)(hy:b[i]?=some y)(hne:x≠y):Op.bytesLess a b=decide (x < y):=by
 obtain⟨e,o⟩:=bP.1 hx
 obtain⟨A,E⟩:=bP.1 hy
 rw[jiL i a b h vO vO,fZ e,fZ A,o,E,Op.bytesLess]
 by_cases hl:x < y
 ·simp[hl]
 ·simp[hl,hne]
theorem jpm{i:Nat}{a b:vN}(h:a.take i=b.take i)(h1:i<=a.length)(h2:i<=b.length)(he:i=a.length\/i=b.length):Op.bytesLess a b=decide (a.length < b.length):=by
 rw[jiL i a b h h1 h2];rcases he with he | he
 ·rw[he,gK]
  cases hb:b.drop a.length with
  | nil =>
   have:=congrArg List.length hb
   rw[dQ,cF]at this;simp[Op.bytesLess];omega
  | cons y r =>
   have:=congrArg List.length hb
   rw[dQ,bF]at this;simp[Op.bytesLess];omega
 ·rw[he,gK]
  cases ha:a.drop b.length with
  | nil =>
   have:=congrArg List.length ha
   rw[dQ,cF]at this;simp[Op.bytesLess];omega
  | cons y r =>
   have:=congrArg List.length ha
   rw[dQ,bF]at this;simp[Op.bytesLess];omega
def jAH(w:vW)(a b:vB)(iv:vV)(wr:vW):Prop:=∃ i:Nat,i<=a.size/\i<=b.size/\iv=.int .i64 i/\Ext w wr/\a.data.toList.take i=b.data.toList.take i
theorem jnw(w:vW)(a b:vB)(ha:a.size<=9223372036854775807)(hb:b.size<=9223372036854775807):vR 27 #[.string a,.string b] w (.bool (jbc a b)):=by
 obtain⟨R,Z⟩:=vE (jbc a b)
 have HR:=Hd (show R=Op.bytesLess a.data.toList b.data.toList by rw[Z];unfold jbc;rw[bR,bR]);rw[<-Z];clear Z;unfold vR vQ;go_in;go_wp2_with fail
 go_loopw [5] (fun iv wr=>jAH w a b iv wr) (fun iv _=>a.size - (intOf iv).toNat)
 case atStart=>exact⟨0,by omega,by omega,rfl,ExtR w,rfl⟩
 case round =>
  obtain⟨i,a4,a5,rfl,hE,X⟩:=hrel
  have Q:=Hd hE;have H:=Hd X;clear hE X;have a0:a.data.toList.length=a.size:=rfl;have a1:b.data.toList.length=b.size:=rfl
  by_cases h1:i < a.size
  ·have b1:(i:Int) < (a.size:Int):=vO
   by_cases h2:i < b.size
   ·have b2:(i:Int) < (b.size:Int):=vO
    obtain⟨x,hx⟩:=vE (a[i])
    obtain⟨y,hy⟩:=vE (b[i])
    have HX:=Hd (show a.data.toList[i]?=some x by rw[hx,bA vO];rfl);have HY:=Hd (show b.data.toList[i]?=some y by rw[hy,bA vO];rfl);have a6:a[i].toNat=x.toNat:=by rw[hx]
    have a7:b[i].toNat=y.toNat:=by rw[hy]
    clear a0 a1
    by_cases hxy:x=y
    ·have hn:((x.toNat:Int) !=(y.toNat:Int))=false:=by rw[hxy];simp
     have a2:=Hd (show a.data.toList.take (i+1)=b.data.toList.take (i+1) by rw[bW,bW,HX.o,HY.o,H.o,hxy]);clear hxy;go_wp2_with fail
     refine jag [0,1,2,3,4,5,6] Ext ExtR ExtT vY vY vY ?_;iterate 7 refine vK ?_
     refine qKE (fun w3 K=>?_);have A:=Hd (Q.o.trans ((jai _).trans K));clear K;go_wp2_with fail
     go_roundw
     case rel=>exact⟨i+1,by omega,by omega,by go_num,A.o,a2.o⟩
     case measure=>exact vJ
    ·have hn:((x.toNat:Int) !=(y.toNat:Int))=true:=by
      simp only[bne_iff_ne,ne_eq];intro e;exact hxy (dS.1 vO)
     have O:=Hd (show R=decide (x < y) by rw[HR.o];exact jxV H.o HX.o HY.o hxy)
     by_cases hl:x < y
     ·have a3:(x.toNat:Int) < (y.toNat:Int):=by have:=dE.1 hl;omega
      have J:=Hd (show R=true by rw[O.o];exact decide_eq_true hl);clear hl hxy;go_wp2_with fail
      refine jag [0,1,2,3,4,5,6] Ext ExtR ExtT vY vY vY ?_;iterate 7 refine vK ?_
      refine qKE (fun w3 K=>?_);go_wp2_with fail
      refine jag [0,1,2,3,4,5,6,7] Ext ExtR ExtT vY vY vY ?_;iterate 8 refine vK ?_
      refine qKE (fun w4 E=>?_);have A:=Hd ((Q.o.trans ((jai _).trans K)).trans ((jai _).trans E));clear K E;go_wp2_with fail
      go_ret
      exact⟨by rw[J.o];rfl,A.o⟩
     ·have a3:¬(x.toNat:Int) < (y.toNat:Int):=by
       intro e;exact hl (dE.2 vO)
      have J:=Hd (show R=decide (x.toNat < y.toNat) by rw[O.o,decide_eq_false hl,decide_eq_false (fun e=>hl (dE.2 e))]);clear hl hxy;go_wp2_with fail
      refine jag [0,1,2,3,4,5,6] Ext ExtR ExtT vY vY vY ?_;iterate 7 refine vK ?_
      refine qKE (fun w3 K=>?_);go_wp2_with fail
      refine jag [0,1,2,3,4,5,6,7] Ext ExtR ExtT vY vY vY ?_;iterate 8 refine vK ?_
      refine qKE (fun w4 E=>?_);have A:=Hd ((Q.o.trans ((jai _).trans K)).trans ((jai _).trans E));clear K E;go_wp2_with fail
      go_ret
      exact⟨by rw[J.o];rfl,A.o⟩
   ·have b2:¬(i:Int) < (b.size:Int):=vO
    have O:=Hd (show R=decide (a.size < b.size) by rw[HR.o];exact jpm H.o vO vO (.inr vO));have b3:¬(a.size:Int) < (b.size:Int):=vO
    have J:=Hd (show R=false by rw[O.o];exact decide_eq_false vO);go_wp2_with fail
    go_ret
    exact⟨by rw[J.o];rfl,Q.o⟩
  ·have b1:¬(i:Int) < (a.size:Int):=vO
   have O:=Hd (show R=decide (a.size < b.size) by rw[HR.o];exact jpm H.o vO vO (.inl vO))
   by_cases hl:a.size < b.size
   ·have b3:(a.size:Int) < (b.size:Int):=vO
    have J:=Hd (show R=true by rw[O.o];exact decide_eq_true hl);clear hl;go_wp2_with fail
    go_ret
    exact⟨by rw[J.o];rfl,Q.o⟩
   ·have b3:¬(a.size:Int) < (b.size:Int):=vO
    have J:=Hd (show R=false by rw[O.o];exact decide_eq_false hl);clear hl;go_wp2_with fail
    go_ret
    exact⟨by rw[J.o];rfl,Q.o⟩
theorem jAt(w:vW)(k:vB)(hs:k.size<=9223372036854775807):vR 54 #[.string k] w (.bool (jcB k)):=by
 by_cases h0:1<=k.size
 ·have e:(1:Int)<=(k.size:Int):=vO
  by_cases h6:k.size<=6
  ·have c:(k.size:Int)<=6:=vO
   have E:=Hd (show jcB k=true by unfold jcB;simp;omega);unfold vR vQ;go_in;go_wp2_with fail
   go_ret
   exact⟨by rw[E.o];rfl,ExtR w⟩
  ·have c:¬(k.size:Int)<=6:=vO
   have E:=Hd (show jcB k=false by unfold jcB;simp;omega);unfold vR vQ;go_in;go_wp2_with fail
   go_ret
   exact⟨by rw[E.o];rfl,ExtR w⟩
 ·have e:¬(1:Int)<=(k.size:Int):=vO
  have E:=Hd (show jcB k=false by unfold jcB;simp;omega);unfold vR vQ;go_in;go_wp2_with fail
  go_ret
  exact⟨by rw[E.o];rfl,ExtR w⟩
theorem jwd(w:vW)(k:vB)(hs:k.size<=9223372036854775807):vR 55 #[.string k] w (.bool (jbY k)):=by
 by_cases h0:1<=k.size
 ·have e:(1:Int)<=(k.size:Int):=vO
  by_cases h6:k.size<=80
  ·have c:(k.size:Int)<=80:=vO
   have E:=Hd (show jbY k=true by unfold jbY;simp;omega);unfold vR vQ;go_in;go_wp2_with fail
   go_ret
   exact⟨by rw[E.o];rfl,ExtR w⟩
  ·have c:¬(k.size:Int)<=80:=vO
   have E:=Hd (show jbY k=false by unfold jbY;simp;omega);unfold vR vQ;go_in;go_wp2_with fail
   go_ret
   exact⟨by rw[E.o];rfl,ExtR w⟩
 ·have e:¬(1:Int)<=(k.size:Int):=vO
  have E:=Hd (show jbY k=false by unfold jbY;simp;omega);unfold vR vQ;go_in;go_wp2_with fail
  go_ret
  exact⟨by rw[E.o];rfl,ExtR w⟩
def jA1(w:vW)(l:vL)(i:vV)(wr:vW):Prop:=∃ k:Nat,k<=l.length/\i=.int .i64 k/\Ext w wr/\(List.range k).any (badN l)=false
theorem jpH(w:vW)(v:vV)(l:vL)(hv:RdP w v l)(hn:l.length<=9223372036854775807)(hs:je0 l):vR 26 #[v] w (.int .i64 (jaz l)):=by
 have HV:=Hd hv;have HS:=Hd hs
 obtain⟨a,c,rfl⟩:=hv.sl;clear hv hs
 obtain⟨R,hR⟩:=vE (jaz l)
 rw[<-hR];have HR:=Hd hR;clear hR;unfold vR vQ;go_in;go_wp2_with fail
 go_loopw [3] (fun i wr=>jA1 w l i wr) (fun i _=>l.length - (intOf i).toNat)
 case atStart=>exact⟨0,by omega,rfl,ExtR w,rfl⟩
 case round =>
  obtain⟨k,hk,rfl,hE,a2⟩:=hrel
  have HE:=Hd hE;have a3:=Hd a2;clear hE a2
  by_cases hlt:k < l.length
  ·have b1:(k:Int) < (l.length:Int):=vO
   rcases HV.o with⟨_,_,_,h0⟩ |⟨b,o,c1,hh,hb,hc,hcell⟩
   ·rw[h0]at hlt;cases hlt
   cases hh
   obtain⟨p,hp⟩:∃ p,l[k]?=some p:=⟨_,bA hlt⟩
   obtain⟨J,X⟩:=hcell k p hp
   have J:=jaa J HE.o;have X:=jaa X HE.o;have E:=HS.o p (bI hp);have A:l.getD k (⟨#[]⟩,⟨#[]⟩)=p:=by rw[bH,hp];rfl
   obtain⟨x,y⟩:=p
   simp only at J X E;have K:=Hd (fun w1=>jAt w1 x E.1);have Q:=Hd (fun w1=>jwd w1 y E.2);have Z:=Hd (fun(h:badN l k=true)=>(show R=1 by
    rw[HR.o];unfold jaz;rw[if_pos (fP.2 ⟨k,fA.2 hlt,h⟩)]))
   have a9:=Hd (fun(h:badN l k=false)=>(show (List.range (k+1)).any (badN l)=false by rw[fR,List.any_append,a3.o];simp[h]));cases hk1:jcB x with
   | false =>
    rw[hk1]at K;have HB:=Hd (Z.o (by unfold badN;rw[A,hk1];rfl));clear hcell hp hb hc hk1 A E;go_wp2_with fail
    refine jag [0,1,2,3,4,5,6,7,8,9,10,11,12,13,14,15,16,17,18,19,20,21,22,23,24,25,26,27,28,29,30,31,32,33,34] Ext ExtR ExtT vY vY vY ?_;iterate 4 refine vK ?_
    refine qKL ⟨b,o+k * 2,none⟩ _ rfl (fun w1 e=>jab Tryz.uStr rfl (jaa J ((jai _).trans e))) ?_;refine vS ?_;refine qKC _ 54 #[.string x] (.bool false) rfl (fun w1=>jat (vX 54) vY) (fun w1 e=>K.o w1) ?_;refine vS ?_;iterate 2 refine vK ?_
    iterate 7 (refine qKS _ rfl ?_;refine vS ?_)
    iterate 2 refine vK ?_
    iterate 17 (refine qKS _ rfl ?_;refine vS ?_)
    refine vK ?_
    refine qKE (fun w3 O=>?_);have H:=Hd (HE.o.trans ((jai _).trans O));clear O J X;go_wp2_with fail
    go_ret
    exact⟨by rw[HB.o];rfl,H.o⟩
   | true =>
    rw[hk1]at K;cases hv1:jbY y with
    | false =>
     rw[hv1]at Q;have HB:=Hd (Z.o (by unfold badN;rw[A,hk1,hv1];rfl));clear hcell hp hb hc hk1 hv1 A E;go_wp2_with fail
     refine jag [0,1,2,3,4,5,6,7,8,9,10,11,12,13,14,15,16,17,18,19,20,21,22,23,24,25,26,27,28,29,30,31,32,33,34] Ext ExtR ExtT vY vY vY ?_;iterate 4 refine vK ?_
     refine qKL ⟨b,o+k * 2,none⟩ _ rfl (fun w1 e=>jab Tryz.uStr rfl (jaa J ((jai _).trans e))) ?_;refine vS ?_;refine qKC _ 54 #[.string x] (.bool true) rfl (fun w1=>jat (vX 54) vY) (fun w1 e=>K.o w1) ?_;refine vS ?_;iterate 6 refine vK ?_
     refine qKL ⟨b,o+k * 2+1,none⟩ _ rfl (fun w1 e=>jab Tryz.uStr rfl (jaa X ((jai _).trans e))) ?_;refine vS ?_;refine qKC _ 55 #[.string y] (.bool false) rfl (fun w1=>jat (vX 55) vY) (fun w1 e=>Q.o w1) ?_;refine vS ?_;iterate 3 refine vK ?_
     iterate 17 (refine qKS _ rfl ?_;refine vS ?_)
     refine vK ?_
     refine qKE (fun w3 O=>?_);have H:=Hd (HE.o.trans ((jai _).trans O));clear O J X;go_wp2_with fail
     go_ret
     exact⟨by rw[HB.o];rfl,H.o⟩
    | true =>
     rw[hv1]at Q
     by_cases hk0:k=0
     ·have d0:¬(0:Int) < (k:Int):=vO
      have d1:decide ((0:Int) < (k:Int))=false:=decide_eq_false d0;have d2:¬ 0 < k:=vO
      have d3:decide (0 < k)=false:=decide_eq_false d2;have a7:=Hd (a9.o (by unfold badN;rw[A,hk1,hv1,hk0];rfl));clear hcell hp hb hc hk1 hv1 A E hk0;go_wp2_with fail
      refine jag [0,1,2,3,4,5,6,7,8,9,10,11,12,13,14,15,16,17,18,19,20,21,22,23,24,25,26,27,28,29,30,31,32,33,34] Ext ExtR ExtT vY vY vY ?_;iterate 4 refine vK ?_
      refine qKL ⟨b,o+k * 2,none⟩ _ rfl (fun w1 e=>jab Tryz.uStr rfl (jaa J ((jai _).trans e))) ?_;refine vS ?_;refine qKC _ 54 #[.string x] (.bool true) rfl (fun w1=>jat (vX 54) vY) (fun w1 e=>K.o w1) ?_;refine vS ?_;iterate 6 refine vK ?_
      refine qKL ⟨b,o+k * 2+1,none⟩ _ rfl (fun w1 e=>jab Tryz.uStr rfl (jaa X ((jai _).trans e))) ?_;refine vS ?_;refine qKC _ 55 #[.string y] (.bool true) rfl (fun w1=>jat (vX 55) vY) (fun w1 e=>Q.o w1) ?_;refine vS ?_;iterate 6 refine vK ?_
      iterate 13 (refine qKS _ rfl ?_;refine vS ?_)
      iterate 2 refine vK ?_
      refine qKE (fun w3 O=>?_);have H:=Hd (HE.o.trans ((jai _).trans O));clear O J X;go_wp2_with fail
      go_roundw
      case rel=>exact⟨k+1,by omega,by go_num,H.o,a7.o⟩
      case measure=>exact vJ
     ·obtain⟨pp,a1⟩:∃ p,l[k - 1]?=some p:=⟨_,bA vO⟩
      have a4:=(HS.o pp (bI a1)).1
      obtain⟨z,zy⟩:=pp
      have qp:=jaa (hcell (k - 1) (z,zy) a1).1 HE.o;have a5:l.getD (k - 1) (⟨#[]⟩,⟨#[]⟩)=(z,zy):=by rw[bH,a1];rfl
      simp only at a4 qp;have c0:(0:Int) < (k:Int):=vO
      have d0:0 < k:=vO
      have c1:(0:Int)<=(k:Int) - 1:=vO
      have c2:(k:Int) - 1 < (l.length:Int):=vO
      have c3:((k:Int) - 1).toNat=k - 1:=vO
      have a6:=Hd (fun w1=>jnw w1 z x a4 E.1);cases hls:jbc z x with
      | false =>
       rw[hls]at a6;have HB:=Hd (Z.o (by unfold badN;rw[A,hk1,hv1,a5];simp only;rw[hls];simp;omega));clear hcell hp hb hc hk1 hv1 A E a1 a5 hls hk0 a4;go_wp2_with fail
       refine jag [0,1,2,3,4,5,6,7,8,9,10,11,12,13,14,15,16,17,18,19,20,21,22,23,24,25,26,27,28,29,30,31,32,33,34] Ext ExtR ExtT vY vY vY ?_;iterate 4 refine vK ?_
       refine qKL ⟨b,o+k * 2,none⟩ _ rfl (fun w1 e=>jab Tryz.uStr rfl (jaa J ((jai _).trans e))) ?_;refine vS ?_;refine qKC _ 54 #[.string x] (.bool true) rfl (fun w1=>jat (vX 54) vY) (fun w1 e=>K.o w1) ?_;refine vS ?_;iterate 6 refine vK ?_
       refine qKL ⟨b,o+k * 2+1,none⟩ _ rfl (fun w1 e=>jab Tryz.uStr rfl (jaa X ((jai _).trans e))) ?_;refine vS ?_;refine qKC _ 55 #[.string y] (.bool true) rfl (fun w1=>jat (vX 55) vY) (fun w1 e=>Q.o w1) ?_;refine vS ?_;iterate 11 refine vK ?_
       refine qKL ⟨b,o+(k - 1) * 2,none⟩ _ rfl (fun w1 e=>jab Tryz.uStr rfl (jaa qp ((jai _).trans e))) ?_;refine vS ?_;iterate 4 refine vK ?_
       refine qKL ⟨b,o+k * 2,none⟩ _ rfl (fun w1 e=>jab Tryz.uStr rfl (jaa J ((jai _).trans e))) ?_;refine vS ?_;refine qKC _ 27 #[.string z,.string x] (.bool false) rfl (fun w1=>jat (vX 27) vY) (fun w1 e=>a6.o w1) ?_;refine vS ?_;iterate 3 refine vK ?_
       refine qKE (fun w3 O=>?_);have H:=Hd (HE.o.trans ((jai _).trans O));clear O J X qp;go_wp2_with fail
       go_ret
       exact⟨by rw[HB.o];rfl,H.o⟩
      | true =>
       rw[hls]at a6;have a7:=Hd (a9.o (by unfold badN;rw[A,hk1,hv1,a5];simp only;rw[hls];simp));clear hcell hp hb hc hk1 hv1 A E a1 a5 hls hk0 a4;go_wp2_with fail
       refine jag [0,1,2,3,4,5,6,7,8,9,10,11,12,13,14,15,16,17,18,19,20,21,22,23,24,25,26,27,28,29,30,31,32,33,34] Ext ExtR ExtT vY vY vY ?_;iterate 4 refine vK ?_
       refine qKL ⟨b,o+k * 2,none⟩ _ rfl (fun w1 e=>jab Tryz.uStr rfl (jaa J ((jai _).trans e))) ?_;refine vS ?_;refine qKC _ 54 #[.string x] (.bool true) rfl (fun w1=>jat (vX 54) vY) (fun w1 e=>K.o w1) ?_;refine vS ?_;iterate 6 refine vK ?_
       refine qKL ⟨b,o+k * 2+1,none⟩ _ rfl (fun w1 e=>jab Tryz.uStr rfl (jaa X ((jai _).trans e))) ?_;refine vS ?_;refine qKC _ 55 #[.string y] (.bool true) rfl (fun w1=>jat (vX 55) vY) (fun w1 e=>Q.o w1) ?_;refine vS ?_;iterate 11 refine vK ?_
       refine qKL ⟨b,o+(k - 1) * 2,none⟩ _ rfl (fun w1 e=>jab Tryz.uStr rfl (jaa qp ((jai _).trans e))) ?_;refine vS ?_;iterate 4 refine vK ?_
       refine qKL ⟨b,o+k * 2,none⟩ _ rfl (fun w1 e=>jab Tryz.uStr rfl (jaa J ((jai _).trans e))) ?_;refine vS ?_;refine qKC _ 27 #[.string z,.string x] (.bool true) rfl (fun w1=>jat (vX 27) vY) (fun w1 e=>a6.o w1) ?_;refine vS ?_;iterate 3 refine vK ?_
       refine qKE (fun w3 O=>?_);have H:=Hd (HE.o.trans ((jai _).trans O));clear O J X qp;go_wp2_with fail
       go_roundw
       case rel=>exact⟨k+1,by omega,by go_num,H.o,a7.o⟩
       case measure=>exact vJ
  ·have a8:k=l.length:=vO
   have a0:=Hd (show (List.range l.length).any (badN l)=false by have:=a3.o;rwa [a8]at this);have b1:¬(k:Int) < (l.length:Int):=vO
   by_cases h40:40 < l.length
   ·have c4:(40:Int) < (l.length:Int):=vO
    have HB:=Hd (show R=12 by rw[HR.o];unfold jaz;rw[if_neg (by rw[a0.o];simp),if_pos h40]);clear a8 h40;go_wp2_with fail
    go_ret
    exact⟨by rw[HB.o];rfl,HE.o⟩
   ·have c4:¬(40:Int) < (l.length:Int):=vO
    have HB:=Hd (show R=0 by rw[HR.o];unfold jaz;rw[if_neg (by rw[a0.o];simp),if_neg h40]);clear a8 h40;go_wp2_with fail
    go_ret
    exact⟨by rw[HB.o];rfl,HE.o⟩
theorem jxG{d:Option TypeDesc}(h:jhd d [(false,9,0),(false,9,1),(false,4,2)]=true):∃ f g e:Field,d=some (.struct #[f,g,e])/\(f.name ≠ "_"/\f.type=9/\f.offset=0)/\(g.name ≠ "_"/\g.type=9/\g.offset=1)/\e.name ≠ "_"/\e.type=4/\e.offset=2:=by
 cases d with
 | none=>cases h
 | some d =>
  cases d <;> try (cases h;done)
  rename_i fs
  obtain⟨l⟩:=fs
  rcases l with _ |⟨f,_ |⟨g,_ |⟨e,_ |⟨z,r⟩⟩⟩⟩ <;> simp[jhd]at h
  obtain⟨o,A,E⟩:=h
  exact⟨f,g,e,rfl,o,A,E⟩
theorem Tryz.chgFields:jhd (Tryz.prog.underlying 44) [(false,9,0),(false,9,1),(false,4,2)]=true:=vY
theorem Tryz.chgHeld:Tryz.prog.stoodInHeld 44=false:=vY
theorem Tryz.boolAgg(w:vW):(isAgg 4).run Tryz.prog w=.ok false w:=vY
theorem jzN(d:Nat)(a b:Bool)(w:vW):(Op.equalIn (d+1) 4 (.bool a) (.bool b)).run Tryz.prog w=.ok (a == b) w:=by
 simp[Op.equalIn,cA,run_underlying Tryz.underlying4,Result.andThen,cO]
theorem jwe(x:vB):(x == x)=true:=by rw[jen];simp
theorem jx2(x y:vB)(g:Bool)(w:vW):(binOp .neq 44 (.agg #[.string x,.string y,.bool g]) (.agg #[.string x,.string y,.bool g])).run Tryz.prog w=.ok (.bool false) w:=by
 obtain⟨f,k,e,J,⟨K,O,Q⟩,⟨X,Z,h6⟩,h7,h8,h9⟩:=jxG Tryz.chgFields
 have o:∀ (u v z:vV) w,(part 9 #[u,v,z] 0).run Tryz.prog w=.ok u w:=fun u v z w=>by
  simp[part,cA,Tryz.strAgg,Result.andThen,cO]
 have A:∀ (u v z:vV) w,(part 9 #[u,v,z] 1).run Tryz.prog w=.ok v w:=fun u v z w=>by
  simp[part,cA,Tryz.strAgg,Result.andThen,cO]
 have E:∀ (u v z:vV) w,(part 4 #[u,v,z] 2).run Tryz.prog w=.ok z w:=fun u v z w=>by
  simp[part,cA,Tryz.boolAgg,Result.andThen,cO]
 have he:∀ d,(Op.equalIn (d+2) 44 (.agg #[.string x,.string y,.bool g]) (.agg #[.string x,.string y,.bool g])).run Tryz.prog w=.ok true w:=fun d=>by
  rw[Op.equalIn];simp only[cA,run_underlying J,Result.andThen];simp[cA,Result.andThen,Sem.run,Tryz.chgHeld,K,O,Q,X,Z,h6,h7,h8,h9,o,A,E,jxE,jzN,jwe]
 have H:(Op.equal 44 (.agg #[.string x,.string y,.bool g]) (.agg #[.string x,.string y,.bool g])).run Tryz.prog w=.ok true w:=he 9998;simp only[binOp,cA,H,Result.andThen,cO];rfl
theorem Tryz.isChange:jgB (Tryz.prog.underlying 44)=true:=vY
theorem Tryz.szChange:(Tryz.prog.info? 44).map (·.size)=some 3:=vY
theorem jpn{w:vW}{b o:Nat}{x y:vB}{g:Bool}(h1:w.cell? ⟨b,o,none⟩=some (.string x))(h2:w.cell? ⟨b,o+1,none⟩=some (.string y))(h3:w.cell? ⟨b,o+2,none⟩=some (.bool g)):(Instr.loadAt 44 (.pointer (some ⟨b,o,none⟩))).run Tryz.prog w=.ok (.agg #[.string x,.string y,.bool g]) w:=by
 obtain⟨E,A⟩:=jfS Tryz.isChange
 refine jd9 (xs:=[.string x,.string y,.bool g]) A Tryz.szChange (fun j v e=>?_);rw[Addr.add_lit]
 match j,e with
 | 0,e=>simp at e;subst e;exact h1
 | 1,e=>simp at e;subst e;exact h2
 | 2,e=>simp at e;subst e;exact h3
 | j+3,e=>simp at e
def jA3(w:vW)(l:List Chg)(v:vV)(wr:vW):Prop:=∃ i:Nat,i<=l.length/\v=.int .i64 i/\Ext w wr
theorem jtV(w:vW)(v u:vV)(l:List Chg)(hv:RdC w v l)(hu:RdC w u l)(hn:l.length<=1000000):vR 8 #[v,u] w (.bool true):=by
 obtain⟨a,c,H⟩:=hv.sl
 obtain⟨a',c',E⟩:=hu.sl
 have HV:=Hd hv;have HU:=Hd hu;subst H;subst E;clear hv hu;unfold vR vQ;go_in;go_wp2_with fail
 go_loopw [5] (fun i wr=>jA3 w l i wr) (fun i _=>l.length - (intOf i).toNat)
 case atStart=>exact⟨0,by omega,rfl,ExtR w⟩
 case round =>
  obtain⟨i,hi,rfl,Z⟩:=hrel
  have A:=Hd Z;clear Z
  by_cases hlt:i < l.length
  ·rcases HV.o with⟨_,_,_,h0⟩ |⟨b,o,c1,hh,hb,hc,hcell⟩
   ·rw[h0]at hlt;cases hlt
   rcases HU.o with⟨_,_,_,h0⟩ |⟨b',o',c2,hh',hb',hc',hcell'⟩
   ·rw[h0]at hlt;cases hlt
   cases hh;cases hh'
   obtain⟨p,J⟩:∃ p,l[i]?=some p:=⟨_,bA hlt⟩
   obtain⟨q1,q2,q3⟩:=hcell i p J
   obtain⟨q4,q5,q6⟩:=hcell' i p J
   have K:Hid (∀ w1,Ext wr w1->(Instr.loadAt 44 (.pointer (some ⟨b,o+i * 3,none⟩))).run Tryz.prog w1=.ok (.agg #[.string p.key,.string p.value,.bool p.gone]) w1):=fun w1 e=>jpn (jaa q1 (A.o.trans e)) (jaa q2 (A.o.trans e)) (jaa q3 (A.o.trans e));have O:Hid (∀ w1,Ext wr w1->(Instr.loadAt 44 (.pointer (some ⟨b',o'+i * 3,none⟩))).run Tryz.prog w1=.ok (.agg #[.string p.key,.string p.value,.bool p.gone]) w1):=fun w1 e=>jpn (jaa q4 (A.o.trans e)) (jaa q5 (A.o.trans e)) (jaa q6 (A.o.trans e));have Q:=Hd (fun w=>jx2 p.key p.value p.gone w);have b1:(i:Int) < (l.length:Int):=vO
   clear hcell hcell' J q1 q2 q3 q4 q5 q6 hc hc' hb hb';go_wp2_with fail
   refine jag [0,1,2,3,4,5,6,7,8] Ext ExtR ExtT vY vY vY ?_;iterate 3 refine vK ?_
   refine qKL ⟨b,o+i * 3,none⟩ _ rfl (fun w1 e=>K.o w1 ((jai wr).trans e)) ?_;refine vS ?_;iterate 3 refine vK ?_
   refine qKL ⟨b',o'+i * 3,none⟩ _ rfl (fun w1 e=>O.o w1 ((jai wr).trans e)) ?_;refine vS ?_;refine jcv _ (.bool false) rfl vY rfl (fun w1 e=>jvd rfl rfl vY (Q.o w1)) ?_;refine vS ?_;refine qKE (fun w3 he=>?_);have X:=Hd ((A.o.trans (jai wr)).trans he);clear he;go_wp2_with fail
   go_roundw
   case rel=>exact⟨i+1,by omega,by go_num,X.o⟩
   case measure=>exact vJ
  ·have b1:¬(i:Int) < (l.length:Int):=vO
   go_wp2_with fail
   go_ret
   exact⟨rfl,A.o⟩
end
section
open Go Go.RowKit
attribute [local go_sem] Oper.semAt_some
theorem juT{W0 W:vW}(hc:jb0 W)(he:ErrT W){s bm:Nat}{room:Int}{U:vM}{S:vT}{n:Nat}(h:Tst W0 W s bm room U S n)(hn:n<=5000)(hU:InjL U)(hN:jw6 U){l:vL}(hM:HasM S l)(u:vV)(cs:List Chg)(hu:RdC W u cs)(hnc:cs.length<=9223372036854775807)(hsc:∀ c∈cs,c.key.size<=9223372036854775807/\c.value.size<=9223372036854775807)(hr0:0<=room)(hr1:room<=9223372036854775807)(h0:jbk l cs=0)(hs:∀ t∈jaM (jbh l cs),t∈U){k:Nat}(hk:(newM S (jbh l cs)).length<=k)(hroom:(n:Int)+k<=room)(hk1:1<=k) :
  vQ 13 #[.pointer (some ⟨s,0,none⟩),.string (rootM l),u] W fun e E=>e=.returned (.tuple #[.string (rootM (jbh l cs)),.int .i64 0])/\∃ o,Tst W0 E s bm room U o (n+k)/\HasM o (jbh l cs)/\AddK W U S (jbh l cs) (newM S (jbh l cs)) o/\jae (fun z=>z=bm\/z∈S.map (·.2.1)) W E:=by
 have hb:=h.bds hn;refine (juS W hc he s bm room S h.st (h.kp.nodes hN) l hM u cs hu hnc hsc hr0 hr1 hb.1 hb.2.1 hb.2.2).mono ?_;intro e E H
 obtain⟨o,A⟩:=juR W hU h.kp h0 hs H (by have:=h.len;omega)
 exact⟨A.res,o,h.add hk hk1 A,A.add.has hU (jdN h0) hs,A.add,A.kp⟩
theorem Tst.o{W0 W:vW}{s bm:Nat}{room:Int}{U:vM}{S:vT}{n:Nat}(h:Tst W0 W s bm room U S n){z:Nat}(hz:W.heap.size<=z):¬(z=bm\/z∈S.map (·.2.1)):=by
 rintro (rfl | e)
 ·obtain⟨E,H,hb,_⟩:=h.st.mp.mp
  have:=hb.lt;omega
 ·obtain⟨x,A,rfl⟩:=bK.1 e
  obtain⟨J,hb,_⟩:=(h.st.mp.items x A).cells
  have:=hb.lt;omega
theorem jok{W:vW}{b:Nat}(xs:List Chg){T:TypeId}(hB:Blk W b (.cells (jd1 xs).toArray T)):RdC W (.slice (some ⟨b,0,none⟩) xs.length xs.length) xs:=
 .inr ⟨b,0,xs.length,rfl,hB.lt,bL _,fun j x e=>by
  obtain⟨o,A,E⟩:=jeK xs j x e
  exact⟨by rw[cH];exact hB.cellL o,by rw[cH];exact hB.cellL A,by rw[cH];exact hB.cellL E⟩⟩
theorem jBm:makesN twP dwC (rootM dwQ)=0:=by unfold makesN;rw[if_pos dw_e,dw_a,if_pos rfl]
theorem jBn:makesN twP [] (rootM dwQ)=9:=by unfold makesN;rw[if_pos jBk,jBg,if_neg (fun e=>jzJ e.symm)]
theorem jAy(x:vB):(x.toList == x.toList)=true:=by rw[jeQ];exact decide_eq_true rfl
theorem jui(w:vW)(hc:jb0 w)(he:ErrT w):vR 4 #[] w (.bool true):=by
 have HC:=Hd hc;have a2:=Hd he;clear hc he;unfold vR vQ;go_in;go_wp2_with fail
 have a3:=(ExtR w).alloc (.cells (jca twP).toArray 42);refine (jpe _ (HC.o.ext a3) (a2.o.ext a3) _ twP (jvY w twP 42) (by show 2<=9223372036854775807;omega) jzK).mono ?_;rintro e w2 (⟨rfl,hE,e0⟩ |⟨s,bm,S,rfl,hH⟩)
 ·exact absurd ⟨jzF,tw_p,jxz⟩ e0
 rw[show shaB (jaG twP).text=rootM twP from rfl];have b3:=Hd a3;have b4:=Hd (hH.tst.more jsd);have HM:=Hd hH.has;clear hH a3;go_wp2_with fail
 have c4:=(ExtR w2).alloc (.cells (jd1 dwC).toArray 44);have b5:=Hd (b4.o.grow c4);have c5:=Hd (jvX w2 dwC 44);have b6:Ext w (w2.alloc (.cells (jd1 dwC).toArray 44)):=b3.o.trans b5.o.ext;have hn:(newM S (jbh twP dwC)).length<=1:=by rw[dw_a,jx3 dw_b];exact bL _
 have b7:=juT (HC.o.ext b6) (a2.o.ext b6) b5.o vI jjO joZ HM.o _ dwC c5.o (by show 2<=9223372036854775807;omega) jsc vI vI dw_e (by rw[dw_a];exact jzG) hn vI (bL _);rw[dw_a]at b7;clear c4 hn;refine b7.mono ?_;rintro e w4 ⟨rfl,S4,a4,c9,d0,d1⟩;have a5:=Hd ((Blk.new w2 (.cells (jd1 dwC).toArray 44)).keeps d1 (b4.o.o (bL _)));have E:=Hd a4;have d2:=Hd c9;have J:=Hd (d0.more jjO jsd HM.o);have hK:jdB S4 ⟨#[63]⟩=false:=by unfold jdB;rw[jBs E.o.kp vI];rfl
 have HK:=Hd hK;have a9:Hid (AllN S4):=a4.kp.nodes joZ;have b0:Hid (∀ x∈jav (jaG twP),x∈dwU):=fun x hx=>jsd x (jbX.1 hx);have d3:Hid (∀ x∈jav (jaG dwQ),x∈dwU):=fun x hx=>jzG x (jbX.1 hx);have X:Hid (Ext w w4):=b3.o.trans a4.ext;clear a4 c9 d0 d1 b7 hK b5 b4 HM c5 b6 b3
 obtain⟨cb,d4⟩:=vE w2.heap.size
 rw[<-d4]at a5 ⊢;clear d4;go_wp2_with fail
 have hO:=jth w4 s bm 2000 S4 E.o.st J.o d2.o jjO b0.o d3.o;unfold OfP at hO;rw[jBh]at hO;refine hO.mono ?_;rintro e w5 ⟨v5,rfl,b8⟩;have d5:=Hd b8.rdT;have b9:=Hd b8.ext;clear b8 hO;go_wp2_with fail
 have hO:=jth w5 s bm 2000 S4 (E.o.st.ext b9.o) J.o J.o jjO b0.o b0.o;unfold OfP at hO;rw[jBj]at hO;refine hO.mono ?_;rintro e w6 ⟨v6,rfl,b1⟩;have c0:=Hd (b9.o.trans b1.ext);have d6:=Hd (d5.o.ext b1.ext)
 obtain⟨a6,c6,rfl⟩:=b1.sl
 clear b1 hO b9 d5;go_wp2_with fail
 obtain⟨B,hB,hF⟩:=jmd w6 s bm 2000 S4 (E.o.st.ext c0.o) a9.o (by have:=E.o.len;omega) J.o d2.o jjO b0.o d3.o
 obtain rfl:=dw_f hB;unfold jrf at hF;rw[dw_s]at hF;refine hF.mono ?_;rintro e w7 ⟨v7,rfl,Q⟩;have b2:=Hd (c0.o.trans Q.ext);have d7:=Hd (d6.o.ext Q.ext)
 obtain⟨a7,c7,rfl⟩:=Q.sl
 obtain⟨g7,rfl⟩:=jgS Q vI
 have q7:=jev Q.own (j:=0) (u:=.string (rootM dwQ)) vF;have Q7:=Hd q7;clear Q hF hB c0 d6 q7;go_wp2_with fail
 have d8:=jws w7 s bm 2000 S4 (E.o.st.ext b2.o) a9.o J.o (.slice (some ⟨cb,0,none⟩) 2 2) dwC (jok dwC (a5.o.keeps b2.o (fun h=>h))) (by show 2<=9223372036854775807;omega) jsc;refine d8.mono ?_;intro e w8 hU;unfold jut at hU;rw[if_pos dw_e]at hU;unfold OfP at hU;rw[dw_a,jBi]at hU
 obtain⟨v8,rfl,K⟩:=hU
 have c1:=Hd (b2.o.trans K.ext);have d9:=Hd (d7.o.ext K.ext);have Q8:=Hd (jaa Q7.o K.ext)
 obtain⟨a8,c8,rfl⟩:=K.sl
 obtain⟨g8,rfl⟩:=jgS K vI
 have q9:=K.own.cellAt 5 vI;have Q9:=Hd (show w8.cell? ⟨g8,5,none⟩=some (.bool true)from q9);clear K d8 b2 d7 Q7 q9;go_wp2_with fail
 refine vC (jBz w8 s bm 2000 S4 (E.o.st.ext c1.o) (rootM twP) ⟨#[63]⟩ (by rw[HK.o,Bool.and_false])) fun w9 Z=>?_;have c2:=Hd (c1.o.trans Z);have e1:=Hd (d9.o.ext Z);have Q8:=Hd (jaa Q8.o Z);have Q9:=Hd (jaa Q9.o Z);clear Z c1 d9;go_wp2_with fail
 refine vC (jtV w9 v5 (.slice (some ⟨cb,0,none⟩) 2 2) dwC e1.o (jok dwC (a5.o.keeps c2.o (fun h=>h))) (by show 2<=1000000;omega)) fun e2 O=>?_;have A:=Hd (c2.o.trans O);have q8:=jaa Q8.o O;have q9:=jaa Q9.o O;have hq:=jAy (rootM dwQ);clear O c2;go_wp2_with fail
 have hM:=jmv e2 (HC.o.ext (X.o.trans A.o)) (a2.o.ext (X.o.trans A.o)) s bm 2000 S4 (E.o.st.ext A.o) a9.o J.o (.slice (some ⟨cb,0,none⟩) 2 2) dwC (jok dwC (a5.o.keeps A.o (fun h=>h))) (by show 2<=9223372036854775807;omega) jsc (rootM dwQ);rw[jBm]at hM;refine hM.mono ?_;rintro e e3 ⟨rfl,a0⟩;have H:=Hd (A.o.trans a0);clear a0 hM A q8 q9 hq;go_wp2_with fail
 have hM:=jmv e3 (HC.o.ext (X.o.trans H.o)) (a2.o.ext (X.o.trans H.o)) s bm 2000 S4 (E.o.st.ext H.o) a9.o J.o (.slice none 0 0) [] (.inl ⟨_,_,rfl,rfl⟩) (cD _) (fun c hc=>(cM hc).elim) (rootM dwQ);rw[jBn]at hM;refine hM.mono ?_;rintro e e4 ⟨rfl,a1⟩;have c3:=Hd (H.o.trans a1);clear a1 hM H;go_wp2_with fail
 go_ret
 exact⟨rfl,X.o.trans c3.o⟩
def jy9(l:vL)(w:vW)(e:Ending)(w':vW):Prop:=∃ a n c k L,e=.returned (.tuple #[.slice a n c,.int .i64 k])/\SRow w w' (.slice a n c) n L/\n=L.length/\n<=121/\k=jaz l/\(jaz l=0->L=jaM l)
theorem jmD(w:vW)(hc:jb0 w)(v:vV)(l:vL)(hv:RdP w v l)(hn:l.length<=9223372036854775807)(hs:je0 l) :
  vQ 17 #[v] w (jy9 l w):=by
 by_cases h:jaz l=0
 ·refine (jpv w v l hc hv h).mono ?_
  rintro e w' ⟨u,n,rfl,o⟩;have o:SRow w w' u n (jaM l):=o;have A:(jaM l).length=n:=by have:=o.len;simpa using this
  obtain⟨a,c,rfl⟩:=o.sl
  exact⟨a,n,c,0,_,rfl,o,A.symm,by rw[<-A];exact jcy h,h.symm,fun _=>rfl⟩
 ·refine (jmC w v l hv hn hs h).mono ?_
  rintro e w' ⟨rfl,E⟩
  exact⟨none,0,0,jaz l,[],rfl,ORow.nil _ _ E,rfl,by omega,rfl,fun H=>absurd H h⟩
theorem jgj{ops:Array Oper}{rest:List Oper}{d:Option Tmp}{ty:TypeId}{pos:String}{af:Array Edge}{a:Act}{w0 w1 w:vW}{Q:Exit->Act->vW->Prop}{s x:Operand}{v pv:vV}{n m N:Nat}{xs:List vV}{ys:vM}
  (hR:ORow 9 1 w0 w v n xs) (hP:SRow w1 w pv m ys) (hN:n+m=N) (hs:a.eval s=v) (hx:a.eval x=pv) (h63:N<=1000000)
  (h:∀ o w',ORow 9 1 w0 w' o N (xs++ys.map Value.string)->wpList Tryz.prog ops Q rest (a.put d o) w') :
  wpList Tryz.prog ops Q (⟨d,.call { callee:=.builtin .append,args:=#[s,x],argTypes:=#[31,31] },ty,pos,af,none⟩ :: rest) a w:=by
 subst hN
 obtain⟨h1,⟨rfl,A⟩ |⟨g,E,H,rfl,A,h4,h5,h6,h7⟩⟩:=hP.own
 ·have J:ys=[]:=by
   have:=hP.len
   rw[A]at this;exact bE (by simpa using this)
  subst J
  obtain⟨ad,c,rfl⟩:=hR.sl
  have K:n<=c:=by
   obtain⟨_,⟨e,e2⟩ |⟨g,E,H,e,_,_,k5,_⟩⟩:=hR.own
   ·omega
   ·obtain⟨_,_,e⟩:=cN e;omega
  refine jeX Tryz.sStrs hs hx K (h _ _ ?_);subst A;simpa using hR
 ·exact jaO Tryz.sStrs hR s x rfl hs hx (fun j u O=>hP.own.cells (g:=g) rfl j u O) (fun u X=>by obtain⟨y,_,rfl⟩:=bK.1 X;rfl) (by have:=hP.len;simpa using this) rfl (by unfold maxLen;omega) vO (fun o w' Z _ _=>h o w' Z)
def jyS(w:vW)(e:Ending)(w':vW):Prop:=e=.returned (.tuple #[.pointer none,.string ⟨#[]⟩,.string ⟨#[]⟩])/\Ext w w'
structure jjl(a b:vL)(more:vM)(w:World)(s bm:Nat)(S:vT)(w':World):Prop where
 fa:fewB a=true
 fb:fewB b=true
 ha:HasM S a
 hb:HasM S b
 inj:InjL (jaM a++jaM b++more)
 tst:Tst w w' s bm 2000 (jaM a++jaM b) S 250
 key:∀ k,k∈S.map (·.1)↔(∃ t∈jaM a,k=ky t)\/∃ t∈jaM b,k=ky t
 held:∀ k,jvo (atL S k)=(if k=ky (jaG a).text then 1 else 0)+(if k=ky (jaG b).text then 1 else 0)
def jAK(a b:vL)(more:vM)(w:vW)(e:Ending)(w':vW):Prop:=jyS w e w'\/∃ s bm S,e=.returned (.tuple #[.pointer (some ⟨s,0,none⟩),.string (rootM a),.string (rootM b)])/\jjl a b more w s bm S w'
theorem jjl.nodes{a b:vL}{more:vM}{w w':vW}{s bm:Nat}{S:vT}(h:jjl a b more w s bm S w'):jic S:=h.tst.kp.nodes fun t e=>(bU.1 e).elim (jc6 h.ha.ok t) (jc6 h.hb.ok t)
theorem jzw(w:vW)(hc:jb0 w)(he:ErrT w)(u v mv:vV)(a b:vL)(mo:vM)(ha:RdP w u a)(hb:RdP w v b)(hna:a.length<=9223372036854775807)(hnb:b.length<=9223372036854775807)(hsa:je0 a)(hsb:je0 b){mn:Nat}(hm:w.ownsRow 0 9 1 mv mn (mo.map Value.string))(hmn:mn<=100000) :
  vQ 5 #[u,v,mv] w (jAK a b mo w):=by
 have HC:=Hd hc;have c5:=Hd he;have HA:=Hd ha;have HB:=Hd hb;have HN:=Hd (bB (bB hna hnb) (bB hsa hsb));have e9:=Hd hm
 obtain⟨ua,uc,rfl⟩:=ha.sl
 obtain⟨va,vc,rfl⟩:=hb.sl
 clear hc he ha hb hna hnb hsa hsb hm;go_enter Tryz.func5,Tryz.ntmps5;go_wp2_with fail
 refine vH (jwJ w _ b HB.o HN.o.1.2 HN.o.2.2) fun w1 E=>?_
 obtain⟨fb,b0⟩:=vE (fewB b)
 have f0:=Hd b0;rw[<-b0];clear b0;go_wp2_with fail
 have H:vQ 12 #[.slice ua a.length uc] w1 fun e w2=>∃ sp xr,e=.returned (.tuple #[.pointer sp,.string xr])/\Ext w1 w2/\(sp=none\/∃ s bm S,sp=some ⟨s,0,none⟩/\xr=rootM a/\jfW a w1 s bm S w2):=by
  refine (jpe w1 (HC.o.ext E.o) (c5.o.ext E.o) _ a (HA.o.ext E.o) HN.o.1.1 HN.o.2.1).mono ?_;rintro e w2 (⟨rfl,hE,_⟩ |⟨s,bm,S,rfl,H⟩)
  ·exact⟨none,_,rfl,hE,.inl rfl⟩
  ·exact⟨_,_,rfl,H.ext,.inr ⟨s,bm,S,rfl,rfl,H⟩⟩
 refine H.mono ?_;rintro e w2 ⟨sp,xr,rfl,b1,c6⟩;have f1:=Hd c6;have f7:=Hd b1;have b2:=Hd (E.o.trans b1);clear H c6 b1;go_wp2_with fail
 refine (jmD w2 (HC.o.ext b2.o) _ b (HB.o.ext b2.o) HN.o.1.2 HN.o.2.2).mono ?_;rintro e w6 ⟨ya,yn,yc,k1,Y,rfl,O,c7,e7,c8,c9⟩;have d0:=Hd O;have b3:=Hd (b2.o.trans O.ext);have b4:=Hd (bB c7 (bB c8 c9));have a0:=Hd O.ext;clear O c7 c9 c8;go_wp2_with fail
 refine (jmD w6 (HC.o.ext b3.o) _ a (HA.o.ext b3.o) HN.o.1.1 HN.o.2.1).mono ?_;rintro e w7 ⟨xa,xn,xc,k2,X,rfl,hX,d1,e8,d2,d3⟩;have d4:=Hd hX;have b5:=Hd (d0.o.mono hX.ext);have b6:=Hd (b3.o.trans hX.ext);have a1:=Hd (a0.o.trans hX.ext);have f2:=Hd (bB d1 (bB d2 d3));have Q:Hid (SRow (bare w7) w7 mv mn mo):=ORow.any (jbq e9.o b6.o);clear hX d1 d3 d2 a0 d0
 obtain⟨N,hN⟩:∃ N,xn+yn=N:=⟨_,rfl⟩
 obtain⟨N2,d5⟩:∃ N2,N+mn=N2:=⟨_,rfl⟩
 have b9:N<=1000000:=vO
 have c0:xn<=1000000:=vO
 have a2:N2<=1000000:=vO
 have d6:=Hd (bB hN d5);have d7:=Hd (show ORow 9 1 w7 (w7.alloc (.cells #[] 9)) (.slice (some ⟨w7.heap.size,0,none⟩) 0 0) 0 []from ORow.lit #[] (ExtR w7) vI rfl);have d8:=Hd (d4.o.mono ((ExtR w7).alloc (.cells #[] 9)));have f3:=Hd (Q.o.mono ((ExtR w7).alloc (.cells #[] 9)));clear hN d5;go_wp2_with (first
  |(at_builtin;(refine jgj d7.o d8.o (cH xn) rfl rfl c0 ?_;intro v8 w8 r1;have d9:=Hd r1;have e0:=Hd (b5.o.mono r1.ext);have f4:=Hd (Q.o.mono r1.ext);clear r1))
  |(at_builtin;(refine jgj d9.o e0.o d6.o.1 rfl rfl b9 ?_;intro v9 w9 r2;have e1:=Hd r2;have e2:=Hd (Q.o.mono r2.ext);clear r2))
  |(at_builtin;(refine jgj e1.o e2.o d6.o.2 rfl rfl a2 ?_;intro f8 e3 r3;have e4:=Hd r3;obtain⟨aa,ac,c2⟩:=r3.sl;subst c2;clear r3)))
 have J:=Hd (show SRow w7 e3 (.slice aa N2 ac) N2 (X++Y++mo)from by have h:=e4.o;rw[cT, <-cB, <-cB]at h;exact h);have b7:=Hd (b6.o.trans J.o.ext);have a3:=Hd (a1.o.trans J.o.ext);have e5:=Hd (b5.o.mono J.o.ext);have c3:=Hd (show (X++Y++mo).length=N2 from by have:=J.o.len;simpa using this);clear d9 e1 e4 e0 f4 e2 f3 d7 d8 b6 d4 b5 a1;refine (jnz e3 (HC.o.ext b7.o) _ (X++Y++mo) (SRow.rd J.o) (by rw[c3.o];exact a2)).mono ?_;rintro e Z ⟨q,rfl,hb,hE⟩;have A:=Hd (b7.o.trans hE);have a4:=Hd (a3.o.trans hE);have c4:=Hd (e5.o.mono hE);have f5:=Hd hb;clear hE hb a3 e5 b7 J;cases fb with
 | false =>
  go_wp2_with fail
  refine bodyPost_ret (results_tmp3 rfl _ _ _) rfl ?_;exact .inl ⟨rfl,A.o⟩
 | true =>
 rcases f1.o with rfl |⟨s,bm,S,rfl,rfl,H⟩
 ·go_wp2_with fail
  refine bodyPost_ret (results_tmp3 rfl _ _ _) rfl ?_;exact .inl ⟨rfl,A.o⟩
 by_cases hk:k1=0
 case neg =>
  have c1:(k1 != 0)=true:=by simpa using hk
  go_wp2_with fail
  refine bodyPost_ret (results_tmp3 rfl _ _ _) rfl ?_;exact .inl ⟨rfl,A.o⟩
 subst hk;cases q with
 | false =>
  go_wp2_with fail
  refine bodyPost_ret (results_tmp3 rfl _ _ _) rfl ?_;exact .inl ⟨rfl,A.o⟩
 | true =>
 have K:jaz b=0:=b4.o.2.1.symm;have e6:=f2.o.2.2 H.ok;have a8:=b4.o.2.2 K;have HI:=Hd (show InjL (jaM a++jaM b++mo) by have:=f5.o.1 rfl;rw[e6,a8]at this;exact this);have hU:InjL (jaM a++jaM b):=fun x hx y hy e=>HI.o x (dH _ hx) y (dH _ hy) e;have b8:=c4.o;rw[a8]at b8;have a5:=b4.o.1;rw[a8]at a5;have f9:=Hd (H.tst.grow a4.o);have hT:=(H.tst.grow a4.o).more (V:=jaM a++jaM b) (fun t h=>dH _ h);have a9:=hT.bds vI;have a6:=jnv Z (HC.o.ext A.o) (c5.o.ext A.o) s bm 2000 S hT.st _ (jaM b) (SRow.rd b8) False (jg3 (jc6 K)) vO (jaG b).text (jhN K).head vI vI a9.1 a9.2.1 a9.2.2;have a7:=Hd (fun(e:Ending) (W':vW) (hA:jlw False Z s bm 2000 S (jaM b) e W')=>(show e=.returned (.tuple #[.string (rootM b),.int .i64 0])/\∃ S',jjl a b mo w s bm S' W' from by
  rcases joB Z Z hU hT.kp (jpz S K) (fun t h=>gA _ h) vO (ExtR Z) hA with⟨_,_,h3⟩ |⟨S',O⟩
  ·have:=H.len
   omega
  ·refine⟨O.res,S',H.few,f0.o.symm,O.add.more hU (fun t h=>dH _ h) H.has,O.add.has hU K (fun t h=>gA _ h),HI.o,?_,fun k=>?_,fun k=>?_⟩
   ·have h1:=hT.add (k:=121) vO vI O
    refine⟨E.o.trans h1.ext,h1.st,h1.kp,by have:=h1.len;omega,bJ E.o.size h1.bnew,fun x hx=>bJ E.o.size (h1.new x hx),fun x hx=>by have:=h1.hb x hx;omega⟩
   ·rw[O.add.key,H.key]
   ·rw[O.add.held,H.held]))
 clear hT a9 b8 a8 e6 H hU a5 K;go_wp2_with fail
 refine a6.mono ?_;intro e W' hA
 obtain⟨rfl,S',hB⟩:=a7.o e W' hA
 have f6:=Hd hB;clear hA hB a6;go_wp2_with fail
 refine bodyPost_ret (results_tmp3 rfl _ _ _) rfl ?_;exact .inr ⟨s,bm,S',rfl,f6.o⟩
end
section
open Go Go.RowKit
section
variable {w:vW} {s bm:Nat} {room:Int} {S:vT} {L:vM} {top:vB} {G:vT} {M:vM} {e:Ending} {w':vW}
end
end
section
open Go Go.RowKit
end
section
open Go Go.RowKit
attribute [local go_sem] Oper.semAt_some
theorem jjl.flatA{a b:vL}{more:vM}{w w':vW}{s bm:Nat}{S:vT}(h:jjl a b more w s bm S w'):∀ x∈jav (jaG a),x∈jaM a++jaM b:=fun x e=>dH _ (jbX.1 e)
theorem jjl.flatB{a b:vL}{more:vM}{w w':vW}{s bm:Nat}{S:vT}(h:jjl a b more w s bm S w'):∀ x∈jav (jaG b),x∈jaM a++jaM b:=fun x e=>gA _ (jbX.1 e)
theorem jjl.injU{a b:vL}{more:vM}{w w':vW}{s bm:Nat}{S:vT}(h:jjl a b more w s bm S w'):InjL (jaM a++jaM b):=fun x o y A e=>h.inj x (dH _ o) y (dH _ A) e
end
section
open Go Go.RowKit
def inB(l:vM)(s:vB):Bool:=memB l s
theorem jsw{l:vM}{s:vB}(h:s∈l):inB l s=true:=(jd6 l s).2 h
theorem jwN{l:vM}{s:vB}(h:s ∉ l):inB l s=false:=by
 rw[gD];exact fun e=>h ((jd6 l s).1 e)
def jAQ(w:vW)(l:vM)(s:vB)(iv:vV)(wr:vW):Prop:=∃ i:Nat,i<=l.length/\iv=.int .i64 i/\Ext w wr/\s ∉ l.take i
theorem in_c(w:vW)(v:vV)(l:vM)(s:vB)(hv:RdS w v l)(hn:l.length<=1000000) :
  vR 29 #[v,.string s] w (.bool (inB l s)):=by
 obtain⟨a,c,K,O⟩:=hv.slice
 have HV:=Hd hv;subst K;clear hv O
 obtain⟨R,Q⟩:=vE (inB l s)
 rw[<-Q];have HR:=Hd Q;clear Q;go_enter Tryz.func29,Tryz.ntmps29;go_wp2_with fail
 go_loopw [5] (fun X wr=>jAQ w l s X wr) (fun X _=>l.length - (intOf X).toNat)
 case atStart=>exact⟨0,by omega,rfl,ExtR w,by simp⟩
 case round =>
  obtain⟨i,hi,rfl,hE,A⟩:=hrel
  have J:=Hd hE;have E:=Hd A;clear hE A
  by_cases hlt:i < l.length
  ·have b1:(i:Int) < (l.length:Int):=vO
   obtain⟨x,Z⟩:∃ x,l[i]?=some x:=⟨_,bA hlt⟩
   rcases HV.o with⟨_,_,_,h0⟩ |⟨b,o,c1,hh,hb,hc,hcell⟩
   ·rw[h0]at hlt;cases hlt
   cases hh;have q1:=jaa (hcell i x Z) J.o;have HX:=Hd Z;clear hcell hb hc Z;have H:=jeQ x s
   by_cases hxs:x=s
   ·rw[decide_eq_true hxs]at H
    have HF:=Hd (show R=true by rw[HR.o];exact jsw (by rw[<-hxs];exact bI HX.o));clear hxs;go_wp2_with fail
    go_ret
    exact⟨by rw[HF.o];rfl,J.o⟩
   ·rw[decide_eq_false hxs]at H
    have HG:=Hd (show s ∉ l.take (i+1) by
     rw[bW,HX.o];intro e;rcases bU.1 e with e | e
     ·exact E.o e
     ·simp at e;exact hxs e.symm)
    clear hxs;go_wp2_with fail
    go_roundw
    case rel=>exact⟨i+1,by omega,by go_num,J.o,HG.o⟩
    case measure=>exact vJ
  ·have b1:¬(i:Int) < (l.length:Int):=vO
   have HF:=Hd (show R=false by rw[HR.o];refine jwN ?_;have:=E.o;rwa [bN vO]at this);go_wp2_with fail
   go_ret
   exact⟨by rw[HF.o];rfl,J.o⟩
end
section
open Go Go.RowKit
attribute [local go_sem] Oper.semAt_some
theorem jxk{l:List (vN)}{x:vB}:x∈baL l↔x.data.toList∈l:=by
 unfold baL;rw[bK];constructor
 ·rintro⟨y,e,rfl⟩;simpa using e
 ·intro h;exact⟨_,h,jbo (by simp)⟩
theorem jcA{ops:Array Oper}{rest:List Oper}{d:Option Tmp}{ty:TypeId}{pos:String}{af:Array Edge}{a:Act}{w0 w:vW}{Q:Exit->Act->vW->Prop}{s x:Operand}{v pv:vV}{n N:Nat}{xs:List vV}{ys:vM}
  (hR:ORow 9 1 w0 w v n xs) (hP:RdS w pv ys) (hN:n+ys.length=N) (hs:a.eval s=v) (hx:a.eval x=pv) (h63:N<=1000000)
  (h:∀ H w',ORow 9 1 w0 w' H N (xs++ys.map Value.string)->wpList Tryz.prog ops Q rest (a.put d H) w') :
  wpList Tryz.prog ops Q (⟨d,.call { callee:=.builtin .append,args:=#[s,x],argTypes:=#[31,31] },ty,pos,af,none⟩ :: rest) a w:=by
 subst hN;have E:∀ (A:Addr) (c:Nat),pv=.slice (some A) ys.length c->(∀ (j:Nat) u,(ys.map Value.string)[j]?=some u->w.cell? (A.add j)=some u)->wpList Tryz.prog ops Q (⟨d,.call { callee:=.builtin .append,args:=#[s,x],argTypes:=#[31,31] },ty,pos,af,none⟩ :: rest) a w:=fun A c e O=>by
  obtain⟨i,z,Z,X,e3,e4,e5⟩:=Tryz.sStrs.hi
  exact jbZ w rfl s x 31 rfl 9 i z 1 16 Tryz.sStrs.ht Z X e3 e4 e5 Tryz.sStrs.hsz v n xs hs hR.own A ys.length c (ys.map Value.string) (hx.trans e) (by simp) O (fun u hu=>by obtain⟨y,_,rfl⟩:=bK.1 hu;rfl) (by unfold maxLen;omega) vO (fun H w' r1 r2 r3=>h H w' (hR.step r1 r2 r3))
 rcases hP with⟨A,c,rfl,rfl⟩ |⟨b,o,c,rfl,hb,O,hcell⟩
 ·cases A with
  | some A=>exact E A c rfl (fun j u J=>by simp at J)
  | none =>
   obtain⟨A,c2,rfl⟩:=hR.sl
   have K:n<=c2:=by
    obtain⟨_,⟨e,X⟩ |⟨g,a0,a1,e,_,_,k5,_⟩⟩:=hR.own
    ·omega
    ·obtain⟨_,_,e⟩:=cN e;omega
   refine jeX Tryz.sStrs hs hx K (h _ _ ?_);simpa using hR
 ·refine E ⟨b,o,none⟩ c rfl fun j u J=>?_
  rw[bX]at J
  obtain⟨t,ht,rfl⟩:=fE.1 J
  rw[Addr.add_lit];exact hcell j t ht
theorem RdS.dropT{w:vW}{b o c n j:Nat}{l:vM}(h:RdS w (.slice (some ⟨b,o,none⟩) l.length c) l)(hn:l.length=n)(hj:j<=n):RdS w (.slice (if c=j then some ⟨b,o,none⟩else some ⟨b,o+j,none⟩) (n - j) (c - j)) (l.drop j):=by
 subst hn
 by_cases h0:l.length - j=0
 ·rw[h0]
  exact .inl ⟨_,_,rfl,gG vO⟩
 rcases h with⟨_,_,e,h1⟩ |⟨b',o',c1,h1,h2,h3,h4⟩
 ·rw[h1]at h0;simp at h0
 ·obtain⟨E,_,H⟩:=cN h1
  obtain⟨rfl,rfl⟩:b=b'/\o=o':=by
   have:=bO E;injection this with h1 h2 h3;exact⟨h1,h2⟩
  rw[if_neg vO];refine .inr ⟨b,o+j,c - j,by rw[dQ],h2,by rw[dQ];omega,fun i x A=>?_⟩;rw[List.getElem?_drop]at A;rw[Nat.add_assoc];exact h4 (j+i) x A
theorem RdS.dropV{w:vW}{oa:Option Addr}{c j:Nat}{l:vM}(h:RdS w (.slice oa l.length c) l)(hj:j<=l.length):RdS w (.slice (if c=j then oa else Option.map (fun x=>x.add j) oa) (l.length - j) (c - j)) (l.drop j):=by
 by_cases h0:l.length - j=0
 ·rw[h0]
  exact .inl ⟨_,_,rfl,gG vO⟩
 have A:=h;rcases h with⟨_,_,e,h1⟩ |⟨b,o,c1,h1,h2,h3,h4⟩
 ·rw[h1]at h0;simp at h0
 ·obtain⟨rfl,_,_⟩:=cN h1
  show RdS w (.slice (if c=j then some ⟨b,o,none⟩else some ((⟨b,o,none⟩:Addr).add j)) (l.length - j) (c - j)) (l.drop j);rw[Addr.add_lit];exact A.dropT rfl hj
def jlB(l:vM):Prop:=l.Pairwise fun x y=>jbc x y=true
theorem jud:∀ {a b:vM},jlB a->jlB b->(∀ x,x∈a↔x∈b)->a=b
 | [],[],_,_,_=>rfl
 | [],y :: b,_,_,h=>absurd ((h y).2 bG) cM
 | x :: a,[],_,_,h=>absurd ((h x).1 bG) cM
 | x :: a,y :: b,ha,hb,h=>by
  have o:=cW.1 ha;have A:=cW.1 hb;have e:x=y:=by
   rcases bM.1 ((h x).1 bG)with e | hx
   ·exact e
   ·rcases bM.1 ((h y).2 bG)with e | hy
    ·exact e.symm
    ·have J:=o.1 y hy
     have H:=A.1 x hx;rw[jms _ _ J]at H;cases H
  subst e;rw[jud o.2 A.2 fun z=>?_];constructor
  ·intro E
   rcases bM.1 ((h z).1 (bD _ E))with rfl | hz'
   ·have:=o.1 z E;rw[jkP]at this;cases this
   ·exact hz'
  ·intro E
   rcases bM.1 ((h z).2 (bD _ E))with rfl | hz'
   ·have:=A.1 z E;rw[jkP]at this;cases this
   ·exact hz'
theorem jAC{xs:vM}(hx:jlB xs){h:vB}{k:Nat}(h1:∀ x∈xs.take k,jbc x h=true)(h2:∀ y,xs[k]?=some y->jbc y h=false)(hn:h ∉ xs):jlB (xs.take k++h :: xs.drop k):=by
 have J:∀ y∈xs.drop k,jbc h y=true:=fun y e=>by
  cases hk:xs.drop k with
  | nil=>rw[hk]at e;cases e
  | cons z r =>
   have K:xs[k]?=some z:=by
    have:=List.getElem?_drop (xs:=xs) (i:=k) (j:=0)
    rw[hk]at this;simpa using this.symm
   have E:=h2 z K;have H:=bI K;have o:jbc h z=true:=by
    cases hc:jbc h z with
    | true=>rfl
    | false=>exact absurd (jsJ _ _ hc E ▸ H) hn
   rw[hk]at e;rcases bM.1 e with rfl | e
   ·exact o
   ·have O:jlB (xs.drop k):=List.Pairwise.sublist (List.drop_sublist _ _) hx
    rw[hk]at O;exact jhq _ _ _ o ((cW.1 O).1 y e)
 refine jF.2 ⟨List.Pairwise.sublist (List.take_sublist _ _) hx,cW.2 ⟨J,List.Pairwise.sublist (List.drop_sublist _ _) hx⟩,fun x A y e=>?_⟩;rcases bM.1 e with rfl | e
 ·exact h1 x A
 ·exact jhq _ _ _ (h1 x A) (J y e)
theorem jxY{xs:vM}{h:vB}{k:Nat}(x:vB):x∈xs.take k++h :: xs.drop k↔x=h\/x∈xs:=by
 rw[bU,bM];constructor
 ·rintro (h | h | h)
  ·exact .inr (gC h)
  ·exact .inl h
  ·exact .inr (List.mem_of_mem_drop h)
 ·rintro (h | h)
  ·exact .inr (.inl h)
  ·rw[<-cV k xs,bU]at h
   exact h.elim .inl fun h=>.inr (.inr h)
theorem jyH{ks:List (vN)}(h:ks.Nodup):jlB (baL (jdZ ks)):=by
 unfold jlB baL;rw[iR];exact (jje h).imp fun {a b} e=>(jbl _ _).2 (by simpa using e)
def TldB(was now:vM)(i:Nat)(xs:vM):Prop:=jlB xs/\∀ k,k∈xs↔∃ t∈now.take i,t ∉ was/\k=shaB t
theorem TldB.zero(was now:vM):TldB was now 0 []:=⟨.nil,fun k=>by simp⟩
theorem TldB.skip{was now xs:vM}{i:Nat}(h:TldB was now i xs){t:vB}(ht:now[i]?=some t)(hw:t∈was):TldB was now (i+1) xs:=⟨h.1,fun k=>by
 rw[h.2,bW,ht];constructor
 ·rintro⟨A,e,o⟩;exact⟨A,dH _ e,o⟩
 ·rintro⟨A,e,o,E⟩
  rcases bU.1 e with e | e
  ·exact⟨A,e,o,E⟩
  ·simp at e;subst e;exact absurd hw o⟩
theorem TldB.o{was now xs:vM}{i:Nat}(h:TldB was now i xs){t:vB}(ht:now[i]?=some t)(hn:now.Nodup)(hI:InjL now):shaB t ∉ xs:=fun H=>by
 obtain⟨A,E,_,J⟩:=(h.2 _).1 H
 have e:t=A:=hI t (bI ht) A (gC E) J;subst e;exact jj1 hn ht E
theorem TldB.put{was now xs:vM}{i k:Nat}(h:TldB was now i xs){t:vB}(ht:now[i]?=some t)(hw:t ∉ was)(hn:now.Nodup)(hI:InjL now)(h1:∀ x∈xs.take k,jbc x (shaB t)=true)(h2:∀ y,xs[k]?=some y->jbc y (shaB t)=false):TldB was now (i+1) (xs.take k++shaB t :: xs.drop k):=
 ⟨jAC h.1 h1 h2 (h.o ht hn hI),fun z=>by
  rw[jxY,h.2,bW,ht];constructor
  ·rintro (rfl |⟨A,e,E⟩)
   ·exact⟨t,by simp,hw,rfl⟩
   ·exact⟨A,dH _ e,E⟩
  ·rintro⟨A,e,E,H⟩
   rcases bU.1 e with e | e
   ·exact .inr ⟨A,e,E,H⟩
   ·simp at e;subst e;exact .inl H⟩
theorem TldB.all{a b:vL}{xs B:vM}(h:TldB (jaM a) (jaM b) (jaM b).length xs)(hB:jw7 a b B)(hI:InjL (jaM a++jaM b)):xs=baL (jdZ (B.map fun h=>h.data.toList)):=by
 have H:(B.map fun x:vB=>x.data.toList).Nodup:=List.Pairwise.map _ (fun x y (J:x≠y) e=>J (jbo e)) hB.1;refine jud h.1 (jyH H) fun k=>?_;rw[h.2,cL,jxk,jt2,bK];constructor
 ·rintro⟨t,o,A,E⟩
  refine⟨k,(hB.2 k).2 ⟨⟨t,jbX.2 o,E⟩,?_⟩,rfl⟩
  rintro⟨O,K,Q⟩
  have:=hI t (gA _ o) O (dH _ (jbX.1 K)) (E.symm.trans Q)
  subst this;exact A (jbX.1 K)
 ·rintro⟨x,X,e⟩
  rw[<-jbo e]
  obtain⟨⟨t,o,A⟩,E⟩:=(hB.2 x).1 X
  exact⟨t,jbX.1 o,fun Z=>E ⟨t,jbX.2 Z,A⟩,A⟩
end
section
open Go Go.RowKit
theorem ji9{P:Program}(w:vW){t ty e:TypeId}{i:TypeInfo}{z:vV}{size bytes:Nat}(ht:P.underlying t=some (.slice e))(hi:P.info? e=some i)(hz:i.zero=some z)
  (hsize:i.size=size) (hby:i.bytes=bytes) (hzs:z.cells.size=size) (hsz:0 < size)
  {v:vV} {n:Nat} {xs:List vV} (hown:w.ownsRow 0 e size v n xs)
  {a:Addr} {m c:Nat} {news:List vV} (hl:news.length=m * size) (hnews:∀ j u,news[j]?=some u->w.cell? (a.add j)=some u) (X:∀ u∈news,u.oneCell'=true)
  (h63:n+m<=maxLen) (hbytes:(n+m) * bytes<=140737488355328) :
  ∃ o w',(Builtin.append_ #[t,t] ty #[v,.slice (some a) m c]).run P w=.ok o w'/\w'.ownsRow 0 e size o (n+m) (xs++news)/\jae (fun b=>v.ownBlock=some b) w w' /\
   (o.ownBlock=v.ownBlock\/∀ b,o.ownBlock=some b->w.heap.size<=b)/\w'.ownsRow 0 e size v n xs:=by
 have up:∀ {B:Nat} {w':vW} {o:vV} {k:Nat} {O:List vV},w'.ownsRow B e size o k O->w'.ownsRow 0 e size o k O:=by
  rintro B w' o k O ⟨X,h2 |⟨g,E,Z,h2,_,h3⟩⟩
  ·exact⟨X,.inl h2⟩
  ·exact⟨X,.inr ⟨g,E,Z,h2,cD _,h3⟩⟩
 have lo:∀ {B:Nat} {w':vW} {o:vV} {k:Nat} {O:List vV},w'.ownsRow B e size o k O->∀ b,o.ownBlock=some b->B<=b:=by
  intro B w' o k O h b hb;exact (World.ownsRow.lt h b hb).1
 have A:=hown
 obtain⟨H,⟨rfl,rfl⟩ |⟨g,E,Z,rfl,_,hg,a1,a3,a4,a5⟩⟩:=hown
 ·obtain⟨o,w',hr,J,Q,_⟩:=run_append_own (P:=P) w w.heap.size t ty e i z size bytes ht hi hz hsize hby hzs hsz (.slice none 0 0) 0 xs ⟨H,.inl ⟨rfl,rfl⟩⟩ a m c news hl hnews X h63 hbytes (bL _)
  exact⟨o,w',hr,up J,jae.of_grown Q (fun r e _=>e),.inr (lo J),⟨H,.inl ⟨rfl,rfl⟩⟩⟩
 ·by_cases hroom:n+m<=E
  ·obtain⟨w',hr,J,Q⟩:=run_append_fits (P:=P) w 0 t ty e i size ht hi hsize g n E xs A a m c news hl hnews X hroom
   refine⟨_,w',hr,J,jae.of_grown Q (fun r e _=>e),.inl rfl,?_⟩
   obtain⟨k1,⟨k2,_⟩ |⟨g',a2,a0,k2,_,k4,k5,k6,k7,k8⟩⟩:=J
   ·cases k2
   ·obtain⟨e1,_,e3⟩:=cN k2
    have e1:=congrArg Addr.block (bO e1);have e1:g=g':=e1;subst e1 e3
    refine⟨H,.inr ⟨g,E,a0,rfl,cD _,k4,a1,k6,k7,?_⟩⟩
    have h:=congrArg (List.take (n * size)) k8;rw[List.take_take,jA (Nat.mul_le_mul_right _ vO),List.take_left' H]at h;exact h
  ·have K:∀ j u,xs[j]?=some u->w.cell? ((⟨g,0,none⟩:Addr).add j)=some u:=World.ownsRow.cells A rfl
   obtain⟨o,w',hr,J,Q⟩:=run_append_arg_grows (P:=P) w t ty e i z size bytes ht hi hz hsize hby hzs hsz ⟨g,0,none⟩ n E xs H K a m c news hl hnews vO h63 hbytes
   exact⟨o,w',hr,up J,jae.of_grown Q (fun r e _=>by cases e),.inr (lo J),jbq A (jae.of_grown Q (fun r e _=>by cases e))⟩
theorem jyK{P:Program}{t T:TypeId}{sz by':Nat}(I:jdv P t T sz by'){w0 w:vW}{v:vV}{n:Nat}{xs:List vV}{o:Oper}{a:Act}{g m c:Nat}{news:List vV}{K:Act->vW->Prop}{Q:Exit->Act->vW->Prop}(hR:ORow T sz w0 w v n xs)(s x:Operand)(hs:a.eval s=v)(hx:a.eval x=.slice (some ⟨g,0,none⟩) m c)(hB:∀ j u,news[j]?=some u->w.cell? ((⟨g,0,none⟩:Addr).add j)=some u)(h1:∀ u∈news,u.oneCell'=true)(hl:news.length=m * sz)
  (ho:o.op=Op.call { callee:=Callee.builtin Builtin.append,args:=#[s,x],argTypes:=#[t,t] }) (h63:n+m<=maxLen) (hby:(n+m) * by'<=140737488355328)
  (h:∀ e w',ORow T sz w0 w' e (n+m) (xs++news)->jae (fun b=>v.ownBlock=some b) w w'->(e.ownBlock=v.ownBlock\/∀ b,e.ownBlock=some b->w.heap.size<=b)->ORow T sz w0 w' v n xs->K (a.put o.dst e) w'):o.wp P a w K Q:=by
 obtain⟨i,z,J,O,X,Z,e5⟩:=I.hi
 obtain⟨e,w',A,r1,E,H,r4⟩:=ji9 (P:=P) w (t:=t) (ty:=o.type) I.ht J O X Z e5 I.hsz hR.own (c:=c) hl hB h1 h63 hby
 unfold Oper.wp;simp[execOp,ho,resolve,invoke,builtin,hs,hx,A,Result.andThen];exact h e w' (hR.step r1 E H) E H ⟨hR.sl,r4,jhc hR.ext hR.new E,hR.new⟩
theorem jtk{w:vW}{B B':Nat}{T T':TypeId}{sz sz':Nat}{v v':vV}{n n':Nat}{xs xs':List vV}(h:w.ownsRow B T sz v n xs)(k:w.ownsRow B' T' sz' v' n' xs')(hT:T≠T'):∀ b,v.ownBlock=some b->¬ v'.ownBlock=some b:=by
 intro b hb o
 obtain⟨_,A |⟨g,K,O,A,_,Q,_⟩⟩:=h
 ·rw[A.1]at hb;cases hb
 obtain⟨_,E |⟨X,H,J,E,_,Z,_⟩⟩:=k
 ·rw[E.1]at o;cases o
 rw[A]at hb;rw[E]at o;have e:some g=some b:=hb;have e':some X=some b:=o;obtain rfl:=bO e;obtain rfl:=bO e'
 have:=Blk.uniq Q Z
 injection this with _ e _;exact hT e
end
