/- Lemmas; each is under no condition but those that it states. -/
import Derived.Test.YtmobgkphhbmhbaaGreatDoorPe29
namespace Go.Proofs.YtmobgkphhbmhbaaGreatDoor
set_option linter.unusedSimpArgs false
set_option linter.unusedVariables false
set_option maxRecDepth 100000
set_option maxHeartbeats 16000000
open Go Go.RowKit
section
attribute [local go_sem] Oper.semAt_some
instance decBa (h:vB) (R:vM):Decidable (h∈R):=decidable_of_iff (R.any (fun x=>decide (h=x))=true) (by simp)
structure SetV(es:List EntK)(ck:Nat)(R:vM):Prop where
 same:es.map (fun x=>(x.1,x.2.1))=R.map fun h=>(h.data.toList,Value.int .i64 1)
 born:(es.map (·.2.2)).Nodup
 lt:∀ x∈es,x.2.2 < ck
def SetM(w:vW)(mb:Nat)(R:vM):Prop:=∃ es ck,Blk w mb (.map (Tryz.ES.arr es) ck)/\SetV es ck R
theorem jnc:∀ {es:List EntK} {R:vM},es.map (fun x=>(x.1,x.2.1))=R.map (fun h=>(h.data.toList,Value.int .i64 1))->∀ h:vB,jaU es h.data.toList=if h∈R then some (Value.int .i64 1)else none
 | [],[],_,h=>by simp[jaU]
 | x :: es,[],e,h=>by cases e
 | [],y :: R,e,h=>by cases e
 | x :: es,y :: R,e,h=>by
  rw[bJ,bJ]at e;injection e with e1 e2;have o:=jnc e2 h;have q:x.1=y.data.toList:=congrArg Prod.fst e1;have z:x.2.1=Value.int .i64 1:=congrArg Prod.snd e1;unfold jaU at o ⊢;rw[fS]
  by_cases hy:h=y
  ·subst hy
   rw[if_pos bF,decide_eq_true q.symm];show some x.2.1=_;rw[z]
  ·rw[decide_eq_false (fun e=>hy (jbK (e.trans q)))]
   simp only;rw[o]
   by_cases hm:h∈R
   ·rw[if_pos hm,if_pos (bD _ hm)]
   ·rw[if_neg hm,if_neg (fun e=>(bK.1 e).elim hy hm)]
theorem jsF:∀ {es:List EntK} {R:vM},es.map (fun x=>(x.1,x.2.1))=R.map (fun h=>(h.data.toList,Value.int .i64 1))->∀ {h:vB},h ∉ R->∀ (v:vV) (n:Nat),jbk es h.data.toList v n=es++[(h.data.toList,v,n)]
 | [],[],_,h,_,v,n=>rfl
 | x :: es,[],e,h,_,v,n=>by cases e
 | [],y :: R,e,h,_,v,n=>by cases e
 | x :: es,y :: R,e,h,hn,v,n=>by
  rw[bJ,bJ]at e;injection e with e1 e2;have o:x.1=y.data.toList:=congrArg Prod.fst e1;have q:¬ h=y:=fun e=>hn (by rw[e];exact bF);rw[jbk,if_neg (fun e=>q (jbK (e.trans o))),jsF e2 (fun z=>hn (bD _ z)) v n,cX]
theorem SetV.add{es:List EntK}{ck:Nat}{R:vM}(h:SetV es ck R){k:vB}(hk:k ∉ R):SetV (jbk es k.data.toList (.int .i64 1) ck) (ck+1) (R++[k]):=by
 rw[jsF h.same hk]
 refine⟨by rw[bY,bY,h.same];rfl,?_,fun x o=>?_⟩
 ·rw[bY,dO]
  refine⟨h.born,by simp,fun a q b hb e=>?_⟩
  obtain⟨x,o,rfl⟩:=bC.1 q
  have:=h.lt x o
  simp at hb;omega
 ·rcases bO.1 o with o | o
  ·have:=h.lt x o;omega
  ·rw[bS.1 o];exact Nat.lt_succ_self _
theorem SetV.len{es:List EntK}{ck:Nat}{R:vM}(h:SetV es ck R):es.length=R.length:=by
 have:=congrArg List.length h.same
 simpa using this
def OutM(w:vW)(ov:vV)(out:vM):Prop:=(ov=.map none/\out=[])\/∃ mb,ov=.map (some mb)/\SetM w mb out
theorem SetM.keeps{F:BSet}{w w':vW}{mb:Nat}{R:vM}(h:SetM w mb R)(k:jad F w w')(hF:¬ F mb):SetM w' mb R:=by
 obtain⟨e,o,q,z⟩:=h
 exact⟨e,o,q.keeps k hF,z⟩
theorem SetM.look{w:vW}{mb:Nat}{R:vM}(h:SetM w mb R)(x:vB):(Instr.lookup 98 (.map (some mb)) (.string x) false).run Tryz.prog w=.ok (.int .i64 (if x∈R then 1 else 0)) w:=by
 obtain⟨q,z,e,o⟩:=h
 have:=jcl Tryz.ES Tryz.uMapSI e (Tryz.zeroI w) x.data.toList false
 rw[jnc o.same x]at this
 by_cases hx:x∈R
 ·rw[if_pos hx]at this ⊢;exact this
 ·rw[if_neg hx]at this ⊢;exact this
theorem jpB(w:vW)(x:vB):(Instr.lookup 98 (.map none) (.string x) false).run Tryz.prog w=.ok (.int .i64 0) w:=vY
theorem OutM.look{w:vW}{ov:vV}{out:vM}(h:OutM w ov out)(x:vB):(Instr.lookup 98 ov (.string x) false).run Tryz.prog w=.ok (.int .i64 (if x∈out then 1 else 0)) w:=by
 rcases h with⟨rfl,rfl⟩ |⟨mb,rfl,h⟩
 ·rw[if_neg (cM)];exact jpB w x
 ·exact h.look x
theorem SetM.put{w:vW}{mb:Nat}{R:vM}(h:SetM w mb R){x:vB}(hx:x ∉ R):∃ w',(Instr.mapUpdate 98 (.map (some mb)) (.string x) (.int .i64 1)).run Tryz.prog w=.ok () w'/\SetM w' mb (R++[x])/\jad (fun z=>z=mb) w w':=by
 obtain⟨q,E,e,o⟩:=h
 have:=jbV Tryz.ES Tryz.uMapSI e x.data.toList (.int .i64 1)
 rw[jnc o.same x,if_neg hx]at this
 exact⟨_,this,⟨_,_,e.put_same _,o.add hx⟩,jad.onePut _ _ _⟩
def jip(w:vW)(mb:Nat):Nat:=match w.heap[mb]? with | some (.map a _)=>a.size | _=>0
theorem SetM.len{w:vW}{mb:Nat}{R:vM}(h:SetM w mb R):jip w mb=R.length:=by
 obtain⟨e,z,o,q⟩:=h
 unfold jip;rw[show w.heap[mb]?=_ from o];show (Tryz.ES.arr e).size=_;unfold ja2.arr;rw[dE,bZ,q.len]
theorem jpq{n:jae}(h:n.refs.length=16):(jaG n).length<=16:=by
 unfold jaG
 have:=iL jcA n.refs
 omega
theorem jnm{ops:Array Oper}{rest:List Oper}{d:Option Tmp}{ty:TypeId}{pos:String}{af:Array Edge}{a:Act}{w1 w0 w:vW}{Q:Exit->Act->vW->Prop}{s x:Operand}{v pv:vV}{n m N:Nat}{xs ys:vM}
  (hR:SRow w0 w v n xs) (hP:SRow w1 w pv m ys) (hN:n+m=N) (hs:a.eval s=v) (hx:a.eval x=pv) (h63:N<=100000000)
  (h:∀ e w',SRow w0 w' e N (xs++ys)->jad (fun b=>v.ownBlock=some b) w w'->(e.ownBlock=v.ownBlock\/∀ b,e.ownBlock=some b->w.heap.size<=b)->wpList Tryz.prog ops Q rest (a.put d e) w') :
  wpList Tryz.prog ops Q (⟨d,.call { callee:=.builtin .append,args:=#[s,x],argTypes:=#[22,22] },ty,pos,af,none⟩ :: rest) a w:=by
 subst hN
 obtain⟨z,⟨rfl,E⟩ |⟨g,H,J,rfl,E,h4,h5,h6,h7⟩⟩:=hP.own
 ·subst E
  have o:ys=[]:=bE (by simpa using z);subst o
  obtain⟨ad,c,rfl⟩:=hR.sl
  have q:n<=c:=jkv hR;refine jf6 Tryz.sStrs hs hx q (h _ _ ?_ (jad.refl _ _) (.inl rfl));rw[bR];exact hR
 ·exact ja5 Tryz.sStrs hR s x rfl hs hx (fun j u K=>hP.own.cells (g:=g) rfl j u K) (fun u O=>by obtain⟨y,_,rfl⟩:=bC.1 O;rfl) z rfl (by unfold maxLen;omega) vO (fun e w' X Z r3=>h e w' (by unfold SRow;rw[bY];exact X) Z r3)
structure RcR(S:vT)(out Rall:vM)(W:World)(mb:Nat)(tv:Value)(wr:World)(L hs:vM):Prop where
 set:SetM wr mb L
 tod:SRow W wr tv hs.length hs.reverse
 ap:tv.ownBlock≠some mb
 rx:jbX S out L hs Rall
 le:hs.length<=1+16 * L.length
 ll:L.length<=S.length
 mbn:W.heap.size<=mb
def jxz(S:vT)(out Rall:vM)(W:vW)(mb:Nat)(tv:vV)(wr:vW):Prop:=∃ L hs,RcR S out Rall W mb tv wr L hs
theorem jsm{S:vT}{out L R:vM}(h:jbX S out L [] R):L=R:=by cases h;rfl
theorem jjw{S:vT}{out L hs R:vM}{h:vB}(k:jbX S out L (h :: hs) R)(hh:h∈L\/h∈out):jbX S out L hs R:=by
 cases k with
 | seen _ _ _ _ _ k=>exact k
 | no _ _ _ _ h1 h2=>exact (hh.elim h1 h2).elim
 | go _ _ _ _ _ _ h1 h2=>exact (hh.elim h1 h2).elim
theorem jux{S:vT}{out L hs R:vM}{h:vB}(k:jbX S out L (h :: hs) R)(h1:h ∉ L)(h2:h ∉ out) :
  h.size=32/\((atL S h.data.toList=none/\jbX S out L hs R)\/∃ y n,L.length+1<=S.length/\atL S h.data.toList=some y/\jbj y.2.2.text n/\jbX S out (L++[h]) ((jaG n).reverse++hs) R):=by
 cases k with
 | seen _ _ _ _ h3 _=>exact (h3.elim h1 h2).elim
 | no _ _ _ _ _ _ h3 h4 k=>exact⟨h3,.inl ⟨h4,k⟩⟩
 | go _ _ _ y n _ _ _ h3 h4 h5 h6 k=>exact⟨h3,.inr ⟨y,n,h4,h5,h6,k⟩⟩
theorem SRow.pop{W1 wr:vW}{g c:Nat}{t:vB}{ts:vM}(h:SRow W1 wr (.slice (some ⟨g,0,none⟩) (t :: ts).length c) (t :: ts).length (t :: ts).reverse):SRow W1 wr (.slice (some ⟨g,0,none⟩) ts.length c) ts.length ts.reverse:=by
 have e:=jom (m:=ts.length) h.own (by simp);rw[iZ, <-jE,gK,gG (by simp),cD (by simp)]at e
 exact⟨⟨_,_,rfl⟩,e,h.ext,fun b hb=>h.new b hb⟩
theorem SRow.last{W1 wr:vW}{g c:Nat}{t:vB}{ts:vM}(h:SRow W1 wr (.slice (some ⟨g,0,none⟩) (t :: ts).length c) (t :: ts).length (t :: ts).reverse):wr.cell? ⟨g,ts.length,none⟩=some (.string t):=by
 rw[h.own.cellAt ts.length (by simp),cA,gK,cV (by simp)];simp
theorem RcR.pop{S:vT}{out Rall:vM}{W:vW}{mb g c n:Nat}{wr wr':vW}{L hs:vM}{h:vB}(k:RcR S out Rall W mb (.slice (some ⟨g,0,none⟩) (h :: hs).length c) wr L (h :: hs))(hn:n=hs.length)(hx:jbX S out L hs Rall)(e:Ext wr wr'):jxz S out Rall W mb (.slice (some ⟨g,0,none⟩) n c) wr':=by
 subst hn
 refine⟨L,hs,k.set.keeps e (fun h=>h),ORow.mono k.tod.pop e,fun e=>k.ap e,hx,?_,k.ll,k.mbn⟩
 have:=k.le
 simp only[bQ]at this;omega
def RchP(W:vW)(R:vM)(e:Ending)(w':vW):Prop:=∃ mb,e=.returned (.map (some mb))/\SetM w' mb R/\Ext W w'
theorem jnJ(W:vW)(s bm:Nat)(room:Int)(S:vT)(hs:jaz W s bm room S)(hsl:S.length<=100000)(r:vB)(ov:vV)(out:vM)(ho:OutM W ov out){R:vM}(hR:jbX S out [] [r] R) :
  vQ 59 #[.pointer (some ⟨s,0,none⟩),.string r,ov] W (RchP W R):=by
 have HS:=Hd hs;have HO:=Hd ho;have HR:=Hd hR;have e6:=Tryz.makeMapSI;clear hs ho hR;go_enter Tryz.func59,Tryz.ntmps59;go_wp2_with fail
 go_step3;go_wp2_with fail
 obtain⟨w2,a4⟩:=vE ((W.alloc (.map #[] 0)).alloc (.cells #[.string r] 9))
 have b0:=Blk.new W (.map #[] 0)
 obtain⟨w1,b7⟩:=vE (W.alloc (.map #[] 0))
 rw[<-b7]at a4 b0 ⊢;have hz:w1.heap.size=W.heap.size+1:=by rw[b7,bN]
 have b9:Ext W w1:=by rw[b7];exact (ExtR W).alloc _
 have c0:Ext w1 w2:=by rw[a4];exact (ExtR w1).alloc _
 have c2:SRow W w2 (.slice (some ⟨w1.heap.size,0,none⟩) 1 1) 1 [r]:=by rw[a4];exact ORow.lit #[.string r] b9 vI rfl
 rw[hz]at c2;have d4:SetM w2 W.heap.size []:=⟨[],0,b0.keeps c0 (fun h=>h),rfl,gY,fun x hx=>(cM hx).elim⟩;rw[<-a4];have H2:=Hd (bB c2 (bB d4 (b9.trans c0)));clear a4 b7 b0 b9 c0 c2 d4 e6 hz w1
 obtain⟨Q,c4⟩:=vE W.heap.size
 have e7:=Hd c4;rw[<-c4]at H2 ⊢;clear c4;go_step3;go_wp2_with fail
 go_loopw [8] (fun tv wr=>jxz S out R W Q tv wr) (fun tv wr=>(S.length - jip wr Q) * 18+lenV tv)
 case atStart=>exact⟨[],[r],H2.o.2.1,H2.o.1,(by intro e;have e:some (Q+1)=some Q:=e;have:=bV e;omega),HR.o,bM _,cC _,by rw[e7.o];exact bM _⟩
 case round =>
  obtain⟨Z,e8⟩:=vE wr
  subst e8
  obtain⟨L,hs,hK⟩:=hrel
  obtain⟨ta,c,rfl⟩:=hK.tod.sl
  have E:=Hd hK;clear hK;cases hs with
  | nil =>
   have d5:=jsm E.o.rx;have HF:=Hd (show SetM Z Q R/\Ext W Z by rw[<-d5];exact⟨E.o.set,E.o.tod.ext⟩);clear d5;rw[show ([]:vM).length=0 from rfl];go_wp2_with fail
   go_ret
   exact⟨_,rfl,HF.o.1,HF.o.2⟩
  | cons h hs =>
   obtain⟨g,rfl⟩:=jeD E.o.tod (by simp)
   obtain⟨n,hn⟩:=vE hs.length
   have HN:=Hd hn;have hl:(h :: hs).length=n+1:=by rw[hn];rfl
   have f7:=E.o.ll;have f8:n<=2000000:=by have:=E.o.le;rw[hl]at this;omega
   have q1:=SRow.last E.o.tod;rw[<-hn]at q1;have c1:(0:Int) < (n:Int)+1:=vO
   have c3:(n:Int)<=(c:Int):=by have:=jkv E.o.tod;rw[hl]at this;omega
   rw[hl];have O:=E.o.set.look h;have H:=(show OutM Z ov out by
    rcases HO.o with h |⟨mo,h1,h2⟩
    ·exact .inl h
    ·obtain⟨es,ck,hB,hV⟩:=h2
     exact .inr ⟨mo,h1,es,ck,hB.keeps E.o.tod.ext (fun h=>h),hV⟩).look h
   clear hn hl
   by_cases hL:h∈L
   ·rw[if_pos hL]at O
    have HX:=Hd (jjw E.o.rx (.inl hL));clear hL H;go_wp2_with fail
    go_roundw
    case rel=>exact RcR.pop E.o HN.o HX.o (ExtR Z)
    case measure=>simp[lenV]
   ·rw[if_neg hL]at O
    by_cases hO:h∈out
    ·rw[if_pos hO]at H
     have HX:=Hd (jjw E.o.rx (.inr hO));clear hL hO;go_wp2_with fail
     go_roundw
     case rel=>exact RcR.pop E.o HN.o HX.o (ExtR Z)
     case measure=>simp[lenV]
    ·rw[if_neg hO]at H
     obtain⟨d6,e9⟩:=jux E.o.rx hL hO
     have d7:=Hd hL;clear hL hO;go_wp2_with fail
     refine vH (jdY Z h vO) fun W4 c5=>?_;have d8:=Hd (HS.o.ext (E.o.tod.ext.trans c5));have d9:=Hd d6;clear O H d6 q1;rcases e9 with⟨hy,hx⟩ |⟨y,nd,hl1,hy,hn,hx⟩
     ·have c6:=Hd hx
      have c7:Hid (jgH S (jaC h) none):=.inr ⟨h,d9.o,rfl,.inl ⟨hy,rfl⟩⟩;clear hx hy;go_wp2_with fail
      refine vH (jk9 W4 s bm room S d8.o c7.o) fun W8 hE=>?_;have b8:=Hd (c5.o.trans hE);unfold jae.V;go_wp2_with (refine jal Tryz.allocNode rfl rfl ?_;intro W9 a5 a6;refine jah (vs:=jaV.cells) rfl rfl rfl rfl a5 rfl Tryz.szNode jaV.one ?_;intro a7 X J)
      have K:=Hd (b8.o.trans (a6.trans' J (fun z hz e=>by have e:z=W8.heap.size:=e;omega)));clear a5 a6 X J;refine (jj5 a7).mono ?_;rintro e f0 ⟨rfl,rfl⟩;go_wp2_with fail
      go_roundw
      case rel=>exact RcR.pop E.o HN.o c6.o K.o
      case measure =>
       have e1:=E.o.set.len;have e2:=(E.o.set.keeps K.o (fun h=>h)).len;show (S.length - jip a7 Q) * 18+n < (S.length - jip Z Q) * 18+(n+1);omega
     ·obtain⟨dg,hg⟩:=hn.2
      have a8:=hg.one (inlP dg);have c8:=a8.refs;have e0:=Hd c8;have a9:=Hd (nd.cells_len c8);have HG:=Hd hg;have c6:=Hd hx;have e3:=Hd hl1;have c7:=Hd (show jgH S (jaC h) (some nd)from .inr ⟨h,d9.o,rfl,.inr ⟨y,nd,hy,hn,rfl⟩⟩);clear hx hy hn a8 c8 hg hl1;go_wp2_with fail
      refine vH (jnG W4 s bm room S d8.o c7.o) fun W8 hE=>?_;have b8:=Hd (c5.o.trans hE);unfold jae.V;go_wp2_with (refine jal Tryz.allocNode rfl rfl ?_;intro W9 a5 a6;refine jah (vs:=nd.cells) rfl rfl rfl rfl a5 (by rw[a9.o];rfl) (by rw[a9.o];exact Tryz.szNode) nd.one ?_;intro a7 X J)
      have b1:Ext W8 a7:=a6.trans' J (fun z hz e=>by have e:z=W8.heap.size:=e;omega);have K:=Hd (b8.o.trans b1);have b2:=Hd X;clear a5 a6 X J b1
      obtain⟨nb,e4⟩:=vE W8.heap.size
      have b3:=Hd (show Z.heap.size<=nb by have:=b8.o.size;omega);rw[<-e4]at b2 ⊢;clear e4;refine (jg0 a7).mono ?_;rintro e f0 ⟨rfl,rfl⟩;have a2:=E.o.set.keeps K.o (fun h=>h);have a0:=a2.look h;rw[if_neg d7.o]at a0
      obtain⟨c9,d0,a1,a3⟩:=a2.put d7.o
      have f6:Q < Z.heap.size:=by obtain⟨es,ck,hB,_⟩:=E.o.set;exact hB.lt
      have b4:=Hd a1;have b5:=Hd (b2.o.keeps a3 (fun e=>by have e:nb=Q:=e;have:=b3.o;omega));have e5:SRow W Z (.slice (some ⟨g,0,none⟩) n c) n hs.reverse:=by have:=SRow.pop E.o.tod;rw[<-HN.o]at this;exact this
      have f9:W.heap.size<=Q:=E.o.mbn;have d1:=Hd ((ORow.mono e5 K.o).keeps a3 (fun b hb e=>E.o.ap (by rw[show (Value.slice (some ⟨g,0,none⟩) (h :: hs).length c).ownBlock=some b from hb];exact congrArg some e)) (fun b hb e=>by have e:b=Q:=e;omega));clear a2 a1 a3 e5;go_wp2_with (refine jaf 132 (.tmp 10) rfl rfl _ _ rfl (jax c9 nb nd e0.o b5.o) ?_)
      refine (jj3 dg nd HG.o c9).mono ?_;rintro e g0 ⟨hv,rfl,hH,_⟩;have g1:=jpq e0.o
      obtain⟨q,hq⟩:=vE (n+(jaG nd).length)
      have HQ:=Hd hq;have HH:=Hd hH;have d2:=Hd (ORow.mono d1.o hH.ext);have d3:=Hd (b4.o.keeps hH.ext (fun h=>h));have f1:q<=100000000:=vO
      clear hH hq d0 a0;go_wp2_with (refine jnm d2.o HH.o HQ.o.symm rfl rfl f1 ?_;intro g2 f2 r1 r2 r3;have f3:=Hd r1;have f4:=Hd r2;have f5:=Hd r3;obtain⟨g3,g4,rfl⟩:=r1.sl;clear r1 r2 r3)
      have b6:=Hd (d3.o.keeps f4.o (fun e=>E.o.ap e));go_roundw
      case rel =>
       have h1:=E.o.le;have h2:=HN.o;simp only[bQ]at h1
       refine⟨L++[h],(jaG nd).reverse++hs,b6.o,?_,?_,c6.o,?_,by rw[bG];exact e3.o,E.o.mbn⟩
       ·rw[List.reverse_append,List.reverse_reverse,bG,fQ,gR, <-HN.o, <-HQ.o];exact f3.o
       ·intro e
        rcases f5.o with r3 | r3
        ·exact E.o.ap (r3 ▸ e)
        ·have:=r3 Q e
         have h5:=HH.o.ext.size;have h6:c9.heap.size ≥ Z.heap.size:=by obtain⟨es,ck,hB,_⟩:=b4.o;have:=b5.o.lt;have:=b3.o;omega
         omega
       ·rw[bG,bG,fQ];simp;omega
      case measure =>
       have e1:=E.o.set.len;have e2:=b6.o.len;rw[bG]at e2;have h3:=e3.o;have h4:=HQ.o;show (S.length - jip f2 Q) * 18+q < (S.length - jip Z Q) * 18+(n+1);simp at e2;omega
end
theorem jsG(w:vW)(s bm:Nat)(room:Int)(L:vT)(k:vB)(h:jaz w s bm room L):vR 41 #[.pointer (some ⟨s,0,none⟩),.string k] w (.int .i64 (jik (atL L k.data.toList))):=by
 have E:=h.st.cell (i:=1) (v:=.map (some bm)) vF;have e:=h.mp.look k true;have z:=Hd h.mp.items;simp only[if_true]at e;clear h;cases ha:atL L k.data.toList with
 | none =>
  rw[ha]at e;unfold ptrO at e;simp only[Option.isSome]at e;clear ha;go_enter Tryz.func41,Tryz.ntmps41;go_wp2_with fail
  go_ret
  exact⟨rfl,ExtR w⟩
 | some x =>
  rw[ha]at e
  obtain⟨H,q,_⟩:=(z.o x (jaF ha).1).cells
  have J:=q.cell (i:=3) (v:=.int .i64 x.2.2.held) vF;unfold ptrO at e;simp only[Option.isSome]at e;clear ha q;go_enter Tryz.func41,Tryz.ntmps41;go_wp2_with fail
  go_ret
  exact⟨rfl,ExtR w⟩
theorem juJ(w:vW)(s bm:Nat)(room:Int)(L:vT)(k:vB)(h:jaz w s bm room L)(hb:∀ x∈L, -1000000000<=x.2.2.used/\x.2.2.used<=1000000000 /\ -1000000000<=x.2.2.held/\x.2.2.held<=1000000000):vR 77 #[.pointer (some ⟨s,0,none⟩),.string k] w (.int .i64 (jny (atL L k.data.toList))):=by
 have q1:=h.st.cell (i:=1) (v:=.map (some bm)) vF;have e:=h.mp.look k true;have X:=Hd h.mp.items;simp only[if_true]at e;clear h;cases ha:atL L k.data.toList with
 | none =>
  rw[ha]at e;unfold ptrO at e;simp only[Option.isSome]at e;clear ha hb;go_enter Tryz.func77,Tryz.ntmps77;go_wp2_with fail
  go_ret
  exact⟨rfl,ExtR w⟩
 | some x =>
  rw[ha]at e;have q:=hb x (jaF ha).1
  obtain⟨rv,z,_⟩:=(X.o x (jaF ha).1).cells
  have H:=Hd (z.cell (i:=2) (v:=.int .i64 x.2.2.used) vF);have J:=Hd (z.cell (i:=3) (v:=.int .i64 x.2.2.held) vF);unfold ptrO at e;simp only[Option.isSome]at e
  obtain⟨ky,b,⟨tx,rf,K,O⟩⟩:=x
  simp only at e H J q;have Z : -9223372036854775808<=K+O:=vO
  have a0:K+O<=9223372036854775807:=vO
  clear ha z hb;go_enter Tryz.func77,Tryz.ntmps77;go_wp2_with fail
  refine jai [0,1,2,3,4,5,6,7,8,9] Ext ExtR ExtT vY vY vY ?_
  refine vK ?_
  refine qKV _ (.pointer (some ⟨b,0,none⟩)) rfl (fun w1 _=>by kernel_rfl) ?_;refine vS ?_
  refine vK ?_
  refine qKL ⟨b,2,none⟩ _ rfl (fun w1 E=>jac Tryz.underlying3 rfl (jaa H.o ((jaj _).trans E))) ?_;refine vS ?_
  refine vK ?_
  refine qKV _ (.pointer (some ⟨b,0,none⟩)) rfl (fun w1 _=>by kernel_rfl) ?_;refine vS ?_
  refine vK ?_
  refine qKL ⟨b,3,none⟩ _ rfl (fun w1 E=>jac Tryz.underlying3 rfl (jaa J.o ((jaj _).trans E))) ?_;refine vS ?_;iterate 2 refine vK ?_
  refine qKE (fun w3 Q=>?_);have HE:=Hd ((jaj _).trans Q);clear Q;go_wp2_with fail
  go_ret
  exact⟨rfl,HE.o⟩
section
attribute [local go_sem] Oper.semAt_some
theorem jl6(w:vW)(s bm:Nat)(room:Int)(L:vT)(h:jaz w s bm room L)(hl:L.length<=1000000):vQ 33 #[.pointer (some ⟨s,0,none⟩)] w fun e w'=>∃ v,e=.returned v/\SRow w w' v L.length (baL (jcS (L.map (·.1)))):=by
 have q1:=h.st.cell (i:=1) (v:=.map (some bm)) vF
 obtain⟨es,ck,hm,a5⟩:=h.mp.mp
 have c5:=jf3 Tryz.ES Tryz.uMapIt hm;have a6:es.length=L.length:=a5.lenL;rw[a6]at c5
 obtain⟨i0,hi,b4,b5,b6⟩:=info_parts Tryz.infoS1
 obtain⟨w1,a0,a1,a7⟩:=run_make_own (P:=Tryz.prog) (w:=w) w.heap.size 22 9 i0 _ 1 Tryz.sStrs.ht hi b4 b5 .i64 .i64 L.length (by rw[b6];omega) (by unfold maxLen;omega) (bM _)
 have k1:Ext w w1:=jad.of_grown a7 (fun _ e=>by cases e);have b7:=ORow.made w a1 a7;have d0:=jaa q1 k1;have H:=hm.keeps k1 (fun g=>g);have d1:=jiB Tryz.ES Tryz.uMapIt H;have HM:=Hd a5;have K1:=Hd k1;have b8:=Hd b7;have b9:=Hd hm;clear h a1 a7 hm a5 hi b4 b5 b6 k1 b7 H;go_enter Tryz.func33,Tryz.ntmps33;go_wp2_with fail
 obtain⟨r,hr⟩:=vE w1.heap.size
 have HR:=Hd hr;rw[<-hr];clear hr;go_loopw [3] (fun v wr=>jxl w r bm ck es v wr) (fun v _=>L.length - slN v)
 case atStart =>
  have hz:=K1.o.size
  refine⟨[],⟨b8.o.mono ((ExtR w1).alloc _),?_,fun x hx=>(by cases hx),gY,fun b hb e=>?_⟩⟩
  ·rw[HR.o];exact Blk.new w1 _
  ·have:=b8.o.lt b hb
   rw[HR.o]at e;omega
 case round =>
  obtain⟨q,E⟩:=hrel
  obtain⟨ad,cp,rfl⟩:=E.row.sl
  have X:=(b9.o).keeps E.row.ext (fun g=>g);have b0:q.length<=es.length:=E.len;rcases jkx Tryz.ES X E.it HM.o.lt 0 with⟨hl0,hnx⟩ |⟨x,hxl,w2,hnx,hr2,hk2⟩
  ·have hp:=E.done hl0 HM.o.born
   have a2:q.length=L.length:=by rw[hp.length_eq,a6]
   have c0:jcS (q.map (·.1))=jcS (L.map (·.1)):=by
    rw[jhd (hp.map _),HM.o.keysL]
   have c6:=Hd c0;have J:=Hd (show ORow 9 1 w wr (.slice ad q.length cp) q.length ((q.map (·.1)).map encStr)from E.row);have a8:=Hd a2;clear E X hp c0 a2 hl0 a0;go_wp2_with fail
   refine vC (jsJ J.o (by rw[a8.o];exact hl)) fun w3 Z=>?_;rw[c6.o]at Z;rw[a8.o]at Z ⊢;have c7:=Hd Z;clear Z J a8;go_wp2_with fail
   go_ret
   refine⟨_,rfl,?_⟩
   unfold SRow;rw[jmw];exact c7.o
  ·have d2:w.heap.size<=r:=by rw[HR.o];exact K1.o.size
   have d3:=b9.o.lt;have c1:=X.keeps hk2 (fun e=>by have e:bm=r:=e;omega);have a9:x∈es:=(cH.1 hxl).1;have c2:x.2.2 ∉ q.map (·.2.2):=by have:=(cH.1 hxl).2;simpa [jgd]using this
   have c3:=jiA Tryz.ES c1 a9 hr2 HM.o.born;have K:((q++[x]).map (·.2.2)).Nodup:=by
    rw[bY,dO]
    exact⟨E.nd,by simp,fun a ha b hb e=>by simp at hb;subst hb;subst e;exact c2 ha⟩
   have O:∀ y∈q++[x],y∈es:=fun y hy=>by
    rcases bO.1 hy with hy | hy
    ·exact E.sub y hy
    ·simp at hy;exact hy ▸ a9
   have b1:q.length+1<=L.length:=by
    have:=gF (jfu _ K) (fun y hy=>O y hy)
    rw[a6]at this;simpa using this
   have z:ORow 9 1 w w2 (.slice ad q.length cp) q.length (keyS q):=E.row.keeps hk2 (fun b hb e=>E.ne b hb e) (fun b hb e=>by have e:b=r:=e;omega);have a3:Blk w2 r (.mapIter (some bm) ck (jgd (q++[x])) ck):=by
    have e:jgd (q++[x])=(jgd q).push x.2.2:=by unfold jgd;simp
    rw[e];exact hr2
   have Q:=Hd (bB K (bB O E.ne));have J:=Hd z;have c8:=Hd a3;have H:q.length+1<=maxLen:=by unfold maxLen;omega
   have c4:(q.length+1) * 16<=140737488355328:=vO
   have d4:=hr2.lt
   obtain⟨kx,a4⟩:=vE x.1
   have c9:=Hd a4;have b2:(Instr.entry (.pointer (some ⟨r,0,none⟩))).run Tryz.prog w2=.ok (.tuple #[encStr kx,x.2.1]) w2:=by rw[a4];exact c3
   have b3:(Instr.next (.pointer (some ⟨r,0,none⟩)) false 0).run Tryz.prog wr=.ok (.tuple #[.bool true,encStr kx,x.2.1]) w2:=by rw[a4];exact hnx
   obtain⟨n,hn⟩:=vE q.length
   have HN:=Hd hn;rw[<-hn]at H c4 b1 z J Q ⊢;clear E X c1 hxl hr2 hk2 a9 c2 c3 K O z a3 a0 hnx a4 b0 hn;unfold encStr at b2 b3;go_wp2_with (at_builtin;refine ja5 Tryz.sStrs (J.o.mono ((ExtR w2).alloc _)) (.tmp 20) (.tmp 22) rfl rfl rfl (ja3 (Blk.new w2 _)) (news:=[encStr kx]) (by intro u hu;simp at hu;rcases hu with rfl;rfl) rfl rfl H c4 ?_;intro v' w' r1 r2 r3)
   have HX:=Hd (bB r1 (bB r2 r3))
   obtain⟨d5,d6,rfl⟩:=r1.sl
   clear r1 r2 r3;go_wp2_with fail
   go_roundw
   case rel =>
    obtain⟨r1,r2,r3⟩:=HX.o
    have d7:=((ExtR w2).alloc (.cells #[.string ⟨kx.toArray⟩] 9)).size
    refine⟨q++[x],?_,?_,Q.o.2.1,Q.o.1,?_⟩
    ·have e:keyS (q++[x])=keyS q++[encStr kx]:=by unfold keyS;simp[c9.o]
     rw[e,bG, <-HN.o];exact r1
    ·refine (c8.o.alloc _).keeps r2 (fun e=>Q.o.2.2 r e rfl)
    ·intro b hb e
     rcases r3 with r3 | r3
     ·exact Q.o.2.2 b (r3 ▸ hb) e
     ·have:=r3 b hb;omega
   case measure=>simp[slN];omega
theorem SetV.keysL{es:List EntK}{ck:Nat}{R:vM}(h:SetV es ck R):es.map (·.1)=R.map fun h=>h.data.toList:=by
 have:=congrArg (List.map Prod.fst) h.same
 rw[cT,cT]at this;exact this
def jpZ(W:vW)(B:vM)(e:Ending)(w':vW):Prop:=∃ v,e=.returned (.tuple #[v,.int .i64 0])/\SRow W w' v B.length (baL (jcS (B.map fun h=>h.data.toList)))
theorem jq7(W:vW)(s bm:Nat)(room:Int)(S:vT)(hs:jaz W s bm room S)(hsl:S.length<=100000)(a b:vB)(h:(jdu S a && jdu S b)=true){A B:vM}(hA:jbX S [] [] [a] A)(hB:jbX S A [] [b] B)(hbl:B.length<=100000) :
  vQ 24 #[.pointer (some ⟨s,0,none⟩),.string a,.string b] W (jpZ W B):=by
 have hk:([a,b].all (jdu S))=true:=by simpa using h
 have HC:=Hd (fun(v:vV) (W1:vW) (e:Ext W W1) (hv:RdS W1 v [a,b])=>jim W1 s bm room S (hs.ext e) v [a,b] hv (show (2:Nat)<=1000 by decide));rw[hk]at HC;have HA:=Hd (fun(W1:vW) (e:Ext W W1)=>jnJ W1 s bm room S (hs.ext e) hsl a (.map none) [] (.inl ⟨rfl,rfl⟩) hA);have HB:=Hd (fun(W1:vW) (e:Ext W W1) (m:Nat) (hm:SetM W1 m A)=>jnJ W1 s bm room S (hs.ext e) hsl b (.map (some m)) A (.inr ⟨m,rfl,hm⟩) hB);clear hs h hk hA hB;go_enter Tryz.func24,Tryz.ntmps24;go_wp2_with fail
 refine vH (HC.o _ _ ((ExtR W).alloc _) (jcO W [a,b] _)) fun W2 hE=>?_;have HE:=Hd (((ExtR W).alloc (.cells ([a,b].map Value.string).toArray 9)).trans hE);go_wp2_with fail
 refine (jg0 W2).mono ?_;rintro e W3 ⟨rfl,rfl⟩;go_wp2_with fail
 refine (HA.o W2 HE.o).mono ?_;rintro e W4 ⟨ma,rfl,a8,a9⟩;have b0:=Hd a8;have b1:=Hd (HE.o.trans a9);clear a8 a9;go_wp2_with fail
 refine (HB.o W4 b1.o ma b0.o).mono ?_;rintro e w1 ⟨mb,rfl,c2,b2⟩;have b3:=Hd (b1.o.trans b2)
 obtain⟨es,ck,hm,hv⟩:=c2
 have c7:=jiB Tryz.ES Tryz.uMapSI hm;have b4:es.length=B.length:=hv.len;have HM:=Hd hv;have b5:=Hd hm;clear b2 hm hv HA HB HC b0;go_wp2_with fail
 obtain⟨r,hr⟩:=vE w1.heap.size
 have HR:=Hd hr;rw[<-hr];clear hr;go_loopw [8] (fun v wr=>jxl w1 r mb ck es v wr) (fun v _=>B.length - slN v)
 case atStart =>
  refine⟨[],⟨ORow.nil _ _ ((ExtR w1).alloc _),?_,fun x hx=>(by cases hx),gY,fun b hb e=>(by cases hb)⟩⟩
  rw[HR.o];exact Blk.new w1 _
 case round =>
  obtain⟨q,E⟩:=hrel
  obtain⟨ad,cp,rfl⟩:=E.row.sl
  have Q:=(b5.o).keeps E.row.ext (fun g=>g);have a4:q.length<=es.length:=E.len;rcases jkx Tryz.ES Q E.it HM.o.lt 0 with⟨hl0,hnx⟩ |⟨x,hxl,w2,hnx,hr2,hk2⟩
  ·have hp:=E.done hl0 HM.o.born
   have a0:q.length=B.length:=by rw[hp.length_eq,b4]
   have b6:jcS (q.map (·.1))=jcS (B.map fun h=>h.data.toList):=by
    rw[jhd (hp.map _),HM.o.keysL]
   have c3:=Hd b6;have H:=Hd (show ORow 9 1 w1 wr (.slice ad q.length cp) q.length ((q.map (·.1)).map encStr)from E.row);have a2:=Hd a0;clear E Q hp b6 a0 hl0;go_wp2_with fail
   refine vC (jsJ H.o (by rw[a2.o];omega)) fun w3 X=>?_;rw[c3.o]at X;rw[a2.o]at X ⊢;have c4:=Hd X;clear X H a2;go_wp2_with fail
   go_ret2
   refine⟨_,rfl,?_⟩
   unfold SRow;rw[jmw];have h3:=c4.o
   exact⟨h3.sl,h3.own,b3.o.trans h3.ext,fun b hb=>bL b3.o.size (h3.new b hb)⟩
  ·have c8:w1.heap.size<=r:=by rw[HR.o];exact bM _
   have c9:=b5.o.lt;have b7:=Q.keeps hk2 (fun e=>by have e:mb=r:=e;omega);have a3:x∈es:=(cH.1 hxl).1;have b8:x.2.2 ∉ q.map (·.2.2):=by have:=(cH.1 hxl).2;simpa [jgd]using this
   have b9:=jiA Tryz.ES b7 a3 hr2 HM.o.born;have J:((q++[x]).map (·.2.2)).Nodup:=by
    rw[bY,dO]
    exact⟨E.nd,by simp,fun a ha b hb e=>by simp at hb;subst hb;subst e;exact b8 ha⟩
   have K:∀ y∈q++[x],y∈es:=fun y hy=>by
    rcases bO.1 hy with hy | hy
    ·exact E.sub y hy
    ·simp at hy;exact hy ▸ a3
   have a5:q.length+1<=B.length:=by
    have:=gF (jfu _ J) (fun y hy=>K y hy)
    rw[b4]at this;simpa using this
   have z:ORow 9 1 w1 w2 (.slice ad q.length cp) q.length (keyS q):=E.row.keeps hk2 (fun b hb e=>E.ne b hb e) (fun b hb e=>by have e:b=r:=e;omega);have a1:Blk w2 r (.mapIter (some mb) ck (jgd (q++[x])) ck):=by
    have e:jgd (q++[x])=(jgd q).push x.2.2:=by unfold jgd;simp
    rw[e];exact hr2
   have O:=Hd (bB J (bB K E.ne));have H:=Hd z;have c5:=Hd a1;have c0:q.length+1<=maxLen:=by unfold maxLen;omega
   have c1:(q.length+1) * 16<=140737488355328:=vO
   have d0:=hr2.lt
   obtain⟨kx,Z⟩:=vE x.1
   have c6:=Hd Z;have a6:(Instr.entry (.pointer (some ⟨r,0,none⟩))).run Tryz.prog w2=.ok (.tuple #[encStr kx,x.2.1]) w2:=by rw[Z];exact b9
   have a7:(Instr.next (.pointer (some ⟨r,0,none⟩)) false 0).run Tryz.prog wr=.ok (.tuple #[.bool true,encStr kx,x.2.1]) w2:=by rw[Z];exact hnx
   obtain⟨n,hn⟩:=vE q.length
   have HN:=Hd hn;rw[<-hn]at c0 c1 a5 z H O ⊢;clear E Q b7 hxl hr2 hk2 a3 b8 b9 J K z a1 hnx Z a4 hn;unfold encStr at a6 a7;go_wp2_with (at_builtin;refine ja5 Tryz.sStrs (H.o.mono ((ExtR w2).alloc _)) (.tmp 28) (.tmp 30) rfl rfl rfl (ja3 (Blk.new w2 _)) (news:=[encStr kx]) (by intro u hu;simp at hu;rcases hu with rfl;rfl) rfl rfl c0 c1 ?_;intro v' w' r1 r2 r3)
   have HX:=Hd (bB r1 (bB r2 r3))
   obtain⟨d1,d2,rfl⟩:=r1.sl
   clear r1 r2 r3;go_wp2_with fail
   go_roundw
   case rel =>
    obtain⟨r1,r2,r3⟩:=HX.o
    have d3:=((ExtR w2).alloc (.cells #[.string ⟨kx.toArray⟩] 9)).size
    refine⟨q++[x],?_,?_,O.o.2.1,O.o.1,?_⟩
    ·have e:keyS (q++[x])=keyS q++[encStr kx]:=by unfold keyS;simp[c6.o]
     rw[e,bG, <-HN.o];exact r1
    ·refine (c5.o.alloc _).keeps r2 (fun e=>O.o.2.2 r e rfl)
    ·intro b hb e
     rcases r3 with r3 | r3
     ·exact O.o.2.2 b (r3 ▸ hb) e
     ·have:=r3 b hb;omega
   case measure=>simp[slN];omega
theorem jfA{S:vT}{l:vL}(h:HasM S l):jdu S (rootM l)=true:=by
 obtain⟨y,e,_⟩:=h.has _ (jbB _)
 unfold jdu rootM;rw[show (shaB (jau l).text).data.toList=ky (jau l).text from rfl,e];rfl
theorem jna{S:vT}{out R:vM}{r:vB}(h:jbX S out [] [r] R):R.length<=S.length:=
 jhi.len ⟨jiy h gY,fun x e=>by
  rcases jlZ h (fun _=>True) (fun _ _ _ _ _ _ _ _=>trivial) (fun _ _=>trivial) x e with h | h
  ·exact (cM h).elim
  ·exact h.2.2⟩
def jp3(a b:vL)(B:vM):Prop:=B.Nodup/\∀ k,k∈B↔(∃ t∈jam (jau b),k=shaB t)/\¬ ∃ t∈jam (jau a),k=shaB t
theorem jig(W:vW)(s bm:Nat)(room:Int)(S:vT)(hs:jaz W s bm room S)(hN:AllN S)(hsl:S.length<=100000){a b:vL}(ha:HasM S a)(hb:HasM S b){U:vM}(hU:InjL U)(h1:∀ x∈jam (jau a),x∈U)(h2:∀ x∈jam (jau b),x∈U) :
  ∃ B,jp3 a b B/\vQ 24 #[.pointer (some ⟨s,0,none⟩),.string (rootM a),.string (rootM b)] W (jpZ W B):=by
 have q:jhi S []:=⟨gY,fun x H=>(cM H).elim⟩;have e:∀ l,∀ h∈[rootM l],h.size=32:=fun l h J=>by rw[bS.1 J];exact jbi _
 obtain⟨A,z⟩:=jov hN [] S.length [] [rootM a] q (by simp) (e a)
 obtain⟨B,o⟩:=jov hN A S.length [] [rootM b] q (by simp) (e b)
 have E:∀ k,k∈A↔∃ t∈jam (jau a),k=shaB t:=fun k=>by
  have:=jl0 W ha z (fun t _ h=>(cM h).elim) k
  rw[this]
  exact⟨fun h=>h.1,fun h=>⟨h,cM⟩⟩
 have K:∀ k,k∈B↔(∃ t∈jam (jau b),k=shaB t)/\¬ ∃ t∈jam (jau a),k=shaB t:=fun k=>by
  have:=jl0 W hb o (jun W ha.ok hU h1 h2 E) k
  rw[this,E]
 refine⟨B,⟨jiy o gY,K⟩,jq7 W s bm room S hs hsl _ _ (by rw[jfA ha,jfA hb];rfl) z o ?_⟩
 have:=jna o
 omega
noncomputable def makesN(l:vL)(cs:List Chg)(b:vB):Int:=if jbf l cs=0 then (if rootM (ja9 l cs)=b then 0 else 9)else jbf l cs
theorem jlD(W:vW)(hc:jbS W)(he:ErrT W)(s bm:Nat)(room:Int)(S:vT)(hs:jaz W s bm room S)(hN:AllN S){l:vL}(hl:HasM S l)(u:vV)(cs:List Chg)(hu:RdC W u cs)(hnc:cs.length<=9223372036854775807)(hsc:∀ c∈cs,c.key.size<=9223372036854775807/\c.value.size<=9223372036854775807)(b:vB) :
  vR 31 #[.pointer (some ⟨s,0,none⟩),.string (rootM l),u,.string b] W (.int .i64 (makesN l cs b)):=by
 obtain⟨a,ha⟩:=vE (rootM l)
 have hk:([a].all (jdu S))=true:=by rw[ha];simpa using jfA hl
 have HC:=Hd (fun(v:vV) (W1:vW) (e:Ext W W1) (hv:RdS W1 v [a])=>jim W1 s bm room S (hs.ext e) v [a] hv (show (1:Nat)<=1000 by decide));rw[hk]at HC;have HU:=Hd (fun(W1:vW) (e:Ext W W1)=>jyJ W1 (hc.ext e) (he.ext e) s bm room S (hs.ext e) hN l hl u cs (hu.ext e) hnc hsc);rw[<-ha]at HU ⊢;have a0:=Hd hc;clear hs hk hu hc he ha;go_enter Tryz.func31,Tryz.ntmps31;go_wp2_with fail
 refine vH (HC.o _ _ ((ExtR W).alloc _) (jcO W [a] _)) fun W2 hE=>?_;have HE:=Hd (((ExtR W).alloc (.cells ([a].map Value.string).toArray 9)).trans hE);go_wp2_with fail
 refine (jg0 W2).mono ?_;rintro e W3 ⟨rfl,rfl⟩;go_wp2_with fail
 refine (HU.o W2 HE.o).mono ?_;intro e W4 O;unfold UpdP at O
 by_cases h0:jbf l cs=0
 ·rw[if_pos h0]at O
  obtain⟨r,rfl,z⟩:=O
  obtain⟨E,H⟩:=vE (newM S (ja9 l cs))
  rw[<-H]at z;have J:∃ ts,E=(jau (ja9 l cs)).text :: ts:=⟨_,H⟩;clear H
  obtain⟨ts,rfl⟩:=J
  obtain⟨t,ht⟩:=vE (jau (ja9 l cs)).text
  rw[<-ht]at z
  obtain⟨ra,rc,rfl⟩:=z.sl
  obtain⟨g,rfl⟩:=jeD z (by simp)
  have q1:=jef z.own (j:=0) (u:=.string t) vF
  obtain⟨n,hn⟩:=vE ts.length
  rw[show (t :: ts).length=n+1 by rw[hn];rfl];have q:=Hd (HE.o.trans z.ext);have Q:makesN l cs b=if shaB t=b then 0 else 9:=by unfold makesN rootM;rw[if_pos h0,ht]
  have K:=Hd Q;clear z Q hn ht h0;have c1:¬(n:Int)+1=0:=vO
  have c2:((n:Int)+1 == 0)=false:=by simpa using c1
  go_wp2_with fail
  refine vH (of_t _ _ [t] (by simp) (jcO W4 [t] 9) ((a0.o.ext q.o).ext ((ExtR W4).alloc _))) fun W5 a1=>?_;rw[jdQ];have X:=Hd (q.o.trans (((ExtR W4).alloc (.cells ([t].map Value.string).toArray 9)).trans a1))
  by_cases hb:shaB t=b
  ·have hq:((shaB t).toList == b.toList)=true:=by rw[jdr];exact decide_eq_true hb
   rw[if_pos hb]at K;clear hb;go_wp2_with fail
   go_ret
   exact⟨by rw[K.o];rfl,X.o⟩
  ·have hq:((shaB t).toList == b.toList)=false:=by rw[jdr];exact decide_eq_false hb
   rw[if_neg hb]at K;clear hb;go_wp2_with fail
   go_ret
   exact⟨by rw[K.o];rfl,X.o⟩
 ·rw[if_neg h0]at O
  obtain⟨rfl,Z⟩:=O
  have q:=Hd (HE.o.trans Z);have Q:makesN l cs b=jbf l cs:=by unfold makesN;rw[if_neg h0]
  have K:=Hd Q
  obtain⟨x,hx⟩:=vE (jbf l cs)
  rw[<-hx]at K h0 ⊢;clear Q Z hx;have c1:(x != 0)=true:=by simpa using h0
  go_wp2_with fail
  go_ret
  exact⟨by rw[K.o];rfl,q.o⟩
def js5(W:vW)(l:vL)(cs:List Chg)(e:Ending)(w':vW):Prop:=
 if jbf l cs=0 then OfP W (ja9 l cs) l e w' else e=.returned (.tuple #[.slice none 0 0,.int .i64 (jbf l cs)])/\Ext W w'
theorem juV(W:vW)(s bm:Nat)(room:Int)(S:vT)(hs:jaz W s bm room S)(hN:AllN S){l:vL}(hl:HasM S l)(u:vV)(cs:List Chg)(hu:RdC W u cs)(hnc:cs.length<=9223372036854775807)(hsc:∀ c∈cs,c.key.size<=9223372036854775807/\c.value.size<=9223372036854775807) :
  vQ 32 #[.pointer (some ⟨s,0,none⟩),.string (rootM l),u] W (js5 W l cs):=by
 obtain⟨a,ha⟩:=vE (rootM l)
 have hk:([a].all (jdu S))=true:=by rw[ha];simpa using jfA hl
 have z:=jaw hl.ok;have q:l.length<=9223372036854775807/\∀ p∈l,p.1.size<=9223372036854775807/\p.2.size<=9223372036854775807:=⟨by have:=z.len;omega,fun p hp=>by have:=z.size p hp;omega⟩;have HC:=Hd (fun(v:vV) (W1:vW) (e:Ext W W1) (hv:RdS W1 v [a])=>jim W1 s bm room S (hs.ext e) v [a] hv (show (1:Nat)<=1000 by decide));rw[hk]at HC;have J:=Hd (fun(W1:vW) (e:Ext W W1)=>jyG W1 s bm room S (hs.ext e) hN l hl);rw[<-ha]at J ⊢;have O:=Hd (fun(W1:vW) (v:vV) (hv:RdP W1 v l) (e:Ext W W1)=>jqk W1 v u l cs hv (hu.ext e) q.1 hnc q.2 hsc);have Q:=Hd (bB hl.ok q);clear hs hk hu ha z q;go_enter Tryz.func32,Tryz.ntmps32;go_wp2_with fail
 refine vH (HC.o _ _ ((ExtR W).alloc _) (jcO W [a] _)) fun W2 hE=>?_;have HE:=Hd (((ExtR W).alloc (.cells ([a].map Value.string).toArray 9)).trans hE);go_wp2_with fail
 refine (jg0 W2).mono ?_;rintro e W3 ⟨rfl,rfl⟩;go_wp2_with fail
 refine (J.o W2 HE.o).mono ?_;rintro e W4 ⟨v,rfl,hV⟩;have HV:=Hd hV;have K:=Hd (HE.o.trans hV.ext);clear hV;go_wp2_with fail
 refine (O.o W4 v HV.o.rd K.o).mono ?_;intro e W5 X;unfold jeI at X
 by_cases h0:jbf l cs=0
 ·rw[if_pos h0]at X
  have H0:=Hd h0
  obtain⟨r,rfl,hR⟩:=X
  have HR:=Hd (show ERow W4 W5 r (ja9 l cs).length (ja9 l cs)from hR);have E:=Hd (K.o.trans hR.ext);have Z:jat (ja9 l cs)=0:=jdD h0;have z:=jaw Z;have q:(ja9 l cs).length<=9223372036854775807/\∀ p∈ja9 l cs,p.1.size<=9223372036854775807/\p.2.size<=9223372036854775807:=⟨by have:=z.len;omega,fun p hp=>by have:=z.size p hp;omega⟩;have a1:=Hd (jqT W5 r v (ja9 l cs) l HR.o.rd (HV.o.rd.ext hR.ext) q.1 Q.o.2.1 q.2 Q.o.2.2);clear hR h0 Z z q;go_wp2_with fail
  refine a1.o.mono ?_;rintro e W8 ⟨u2,rfl,hC⟩;have H:=Hd hC;clear hC;go_wp2_with fail
  go_ret2;unfold js5;rw[if_pos H0.o]
  exact⟨_,rfl,H.o.sl,H.o.own,E.o.trans H.o.ext,fun b hb=>bL E.o.size (H.o.new b hb)⟩
 ·rw[if_neg h0]at X
  have H0:=Hd h0
  obtain⟨rfl,a0⟩:=X
  have E:=Hd (K.o.trans a0)
  obtain⟨x,hx⟩:=vE (jbf l cs)
  have HX:=Hd hx;rw[<-hx]at h0 ⊢;clear a0 hx;have c1:(x != 0)=true:=by simpa using h0
  go_wp2_with fail
  go_ret2;unfold js5;rw[if_neg H0.o, <-HX.o]
  exact⟨rfl,E.o⟩
def jvD(W:vW)(b c:Nat):Prop:=∃ rv,W.cell? ⟨b,1,none⟩=some rv/\rv.ownBlock=some c
def RK(w W:vW):Prop:=w.heap.size<=W.heap.size/\∀ b,b < w.heap.size->∀ c,jvD W b c->jvD w b c
theorem jk1{W W':vW}{b i:Nat}(h:W'.heap[b]?=W.heap[b]?):W'.cell? ⟨b,i,none⟩=W.cell? ⟨b,i,none⟩:=by unfold World.cell?;rw[h]
theorem RK.refl(w:vW):RK w w:=⟨bM _,fun _ _ _ h=>h⟩
theorem RK.trans{a b c:vW}(h:RK a b)(k:RK b c):RK a c:=⟨bL h.1 k.1,fun x e y r=>h.2 x e y (k.2 x (bP e h.1) y r)⟩
theorem RK.keeps{F:BSet}{w W W':vW}(h:RK w W)(k:jad F W W')(hF:∀ b,F b->w.heap.size<=b):RK w W':=⟨bL h.1 k.size,fun b hb c r=>by
 obtain⟨o,e,q⟩:=r
 rw[jk1 (k.block b (bP hb h.1) (fun f=>by have:=hF b f;omega))]at e;exact h.2 b hb c ⟨o,e,q⟩⟩
theorem RK.ext{w W W':vW}(h:RK w W)(e:Ext W W'):RK w W':=h.keeps e (fun _ f=>f.elim)
theorem RK.put{w W W':vW}{bm:Nat}{es:Array MapEntry}{ck:Nat}(h:RK w W)(k:jad (fun z=>z=bm) W W')(hm:Blk W' bm (.map es ck)):RK w W':=⟨bL h.1 k.size,fun b hb c r=>by
 obtain⟨q,o,E⟩:=r
 by_cases e:b=bm
 ·subst e
  unfold World.cell? at o;rw[show W'.heap[b]?=_ from hm]at o;cases o
 ·rw[jk1 (k.block b (bP hb h.1) e)]at o
  exact h.2 b hb c ⟨q,o,E⟩⟩
theorem RK.set{w W:vW}(h:RK w W)(zb:Nat){f:Nat}(hf:f=2\/f=3)(v:vV):RK w (W.setCell ⟨zb,f,none⟩ v):=⟨by rw[fU];exact h.1,fun b hb c r=>by
 obtain⟨q,o,z⟩:=r
 rw[World.cell?_setCell_other _ _ _ _ (fun e=>by have:=congrArg Addr.off e;rcases hf with rfl | rfl <;> cases this)]at o;exact h.2 b hb c ⟨q,o,z⟩⟩
def jml(w W:vW)(G:vT):Prop:=∀ x∈G,∀ c,jvD W x.2.1 c->w.heap.size<=c
theorem jml.rk{w W W':vW}{G:vT}(h:jml w W G)(hk:RK W W')(hl:∀ x∈G,x.2.1 < W.heap.size):jml w W' G:=fun x e c r=>h x e c (hk.2 _ (hl x e) c r)
def jxA(w:vW)(bg:Nat)(L:vM)(iv:vV)(W:vW):Prop:=∃ i:Nat,i<=L.length/\iv=.int .i64 i/\(∀ t∈L.take i,∃ n,jbj t n)/\∃ G,ReS w bg G (L.take i) W/\jml w W G
def AnyQ(Q:Prop)(L:vM):Prop:=∀ t∈L,(∃ n,jbj t n)\/(GetE t/\Q)
theorem jgK{L:vM}(h:∀ t∈L,∃ n,jbj t n):AnyQ False L:=fun t e=>.inl (h t e)
def RdA(Q:Prop)(w:vW)(L:vM)(e:Ending)(w':vW):Prop:=(e=.returned (.tuple #[.map none,.int .i64 2])/\Ext w w'/\Q)\/((∀ t∈L,∃ n,jbj t n)/\∃ bg G,e=.returned (.tuple #[.map (some bg),.int .i64 0])/\ReS w bg G L w'/\jml w w' G)
theorem joH{L:vM}{i:Nat}{t:vB}{P:vB->Prop}(h:∀ x∈L.take i,P x)(ht:L[i]?=some t)(hp:P t):∀ x∈L.take (i+1),P x:=fun x e=>by
 rw[cB,ht]at e;rcases bO.1 e with e | e
 ·exact h x e
 ·have e:x∈[t]:=e
  rw[bS.1 e];exact hp
theorem jsK(w:vW)(hc:jbS w)(hGE:ErrT w)(v:vV)(L:vM)(hv:RdS w v L)(hl:L.length<=1000)(h0:L≠[])(Q:Prop)(hN:AnyQ Q L) :
  vQ 42 #[v] w (RdA Q w L):=by
 have f8:0 < L.length:=gD.2 h0
 obtain⟨a,c,rfl,_⟩:=hv.slice
 have f0:=Hd hv;have HC:=Hd hc;have HN:=Hd hN;have f1:=Hd hGE;have f2:=Tryz.makeMapIt w;clear hv hc hN h0 hGE;have f9:((L.length:Int) == 0)=false:=by simpa using (by omega:L.length≠0)
 go_enter Tryz.func42,Tryz.ntmps42;go_wp2_with fail
 obtain⟨bg,b9⟩:=vE w.heap.size
 have d7:=Hd b9;rw[<-b9];clear b9 f2;go_loopw [16] (fun iv wr=>jxA w bg L iv wr) (fun iv _=>L.length - (intOf iv).toNat)
 case atStart =>
  refine⟨0,cC _,rfl,fun t ht=>(by cases ht),[],⟨(ExtR w).alloc _,⟨⟨[],0,?_,MapV.nil 0⟩,by simp,fun x q=>by cases q⟩,rfl,by rw[d7.o];exact bM _,fun x q=>by cases q⟩,fun x q=>by cases q⟩
  rw[d7.o];exact Blk.new w _
 case round =>
  obtain⟨i,hi,rfl,a7,G,hS,d8⟩:=hrel
  have c0:=Hd d8;clear d8;have a9:=Hd a7;have H:=Hd hS;clear hS a7
  by_cases hlt:i < L.length
  ·have b1:(i:Int) < (L.length:Int):=vO
   obtain⟨t,ht⟩:∃ t,L[i]?=some t:=⟨_,bA hlt⟩
   obtain⟨ax,cx,hh,K⟩:=f0.o.slice
   obtain⟨ba,oa,f3,c1⟩:=K i t ht
   subst f3;cases hh;have q1:=jaa c1 H.o.ext;rcases HN.o t (bI ht)with hnode |⟨hbad,hq⟩
   case inr =>
    have d2:=Hd hbad;have HQ:=Hd hq
    obtain⟨n,hn⟩:=vE jaV
    have a4:=Hd (show n.refs.length=16 by rw[hn];rfl);have hg:=d2.o wr (f1.o.ext H.o.ext);unfold jxk at hg;rw[<-hn]at hg;clear K c1 ht hbad hn hq;go_wp2_with fail
    refine hg.mono ?_;rintro e w4 ⟨rfl,hE⟩;have b5:=Hd (H.o.ext.trans hE);clear hE hg q1;unfold jae.V;go_wp2_with (refine jal Tryz.allocNode rfl rfl ?_;intro W3 b6 b7;refine jah (vs:=n.cells) rfl rfl rfl rfl b6 (by rw[n.cells_len a4.o];rfl) (by rw[n.cells_len a4.o];exact Tryz.szNode) (jae.one _) ?_;intro W4 c2 b8;have O:Ext w4 W4:=b7.trans' b8 (fun x q e=>by have e:x=w4.heap.size:=e;omega))
    go_ret2;exact .inl ⟨rfl,b5.o.trans O,HQ.o⟩
   have a0:=Hd (joH a9.o ht hnode)
   obtain⟨n0,d9⟩:=hnode
   have c3:=jcu d9;have e0:=Hd (jpK ht);have e1:=Hd (show itOf t=⟨t,jaG (nodeOf t),0,0⟩from rfl)
   obtain⟨n,e2⟩:=vE (nodeOf t)
   rw[<-e2]at c3 e1;have g0:=jii c3
   obtain⟨e3,g,hg⟩:=c3
   have HG:=Hd hg;have a4:=Hd ((hg.one (inlP g)).refs);have e4:=Hd e3;clear K d9 e2 e3 hg c1 ht;go_wp2_with fail
   rw[e4.o];refine vH (jjh (inlP g) wr n HG.o) fun w4 b5=>?_;rw[<-e4.o];clear q1;unfold jae.V;go_wp2_with (refine jal Tryz.allocNode rfl rfl ?_;intro W3 b6 b7;refine jah (vs:=n.cells) rfl rfl rfl rfl b6 (by rw[n.cells_len a4.o];rfl) (by rw[n.cells_len a4.o];exact Tryz.szNode) (jae.one _) ?_;intro W4 c2 b8;have O:Ext w4 W4:=b7.trans' b8 (fun x q e=>by have e:x=w4.heap.size:=e;omega))
   have c4:=Hd (b5.o.trans O);have e5:=Hd c2;clear b6 b7 c2 b8 O b5;refine vH (of_t _ _ [t] (by simp) (jcO W4 [t] 9) (HC.o.ext ((H.o.ext.trans c4.o).alloc _))) fun w6 hE=>?_;rw[jdQ];have c5:=((ExtR W4).alloc (.cells #[.string t] 9)).trans hE;have c6:=Hd (c4.o.trans c5);have f4:=Hd (e5.o.keeps c5 (fun h=>h));have z:=Hd (H.o.keeps c6.o);have E:=z.o.at'.look (shaB t) false;have c7:=Hd (jvI (L:=G) (k:=ky t));have a5:Hid ((shaB t).data.toList=ky t):=rfl;have c9:=Hd (show addG (G.map kvI) t=if (G.map kvI).any (fun x=>decide (ky t=x.1))then G.map kvI else G.map kvI++[(ky t,itOf t)]from rfl);rw[a5.o]at E;simp only[cG,if_false]at E
   obtain⟨sh,e6⟩:=vE (shaB t)
   rw[<-e6]at E a5 ⊢
   obtain⟨kt,e7⟩:=vE (ky t)
   rw[<-e7]at E a5 c7 c9;clear c5 c4 e5 e6 e7;cases ha:atL G kt with
   | some x =>
    rw[ha]at E;unfold ptrO at E;simp only at E;have hz:addG (G.map kvI) t=G.map kvI:=by rw[c9.o,c7.o,ha];rfl
    have HZ:=Hd hz;clear ha hz;go_wp2_with fail
    go_roundw
    case rel =>
     exact⟨i+1,by omega,by go_num,a0.o,G,⟨z.o.ext,z.o.at',by rw[e0.o, <-z.o.is,HZ.o],z.o.new,z.o.news⟩,c0.o.rk ((RK.refl _).ext c6.o) (fun x q=>(H.o.at'.items x q).lt)⟩
    case measure=>exact vJ
   | none =>
    rw[ha]at E;unfold ptrO at E;simp only at E;have hz:addG (G.map kvI) t=G.map kvI++[(kt,itOf t)]:=by rw[c9.o,c7.o,ha];rfl
    have HZ:=Hd hz;have HA:=Hd ha;have a3:=jax w6 _ n a4.o f4.o;unfold jae.V at a3;clear ha hz;go_wp2_with (refine jaf 132 (.tmp 7) rfl rfl _ _ rfl a3 ?_)
    refine (jj3 g n HG.o w6).mono ?_;rintro e J ⟨v8,rfl,a6,d3⟩;have d0:=a6.ext;have a1:=a6.new;have b0:=a6.own
    obtain⟨a8,c8,rfl⟩:=a6.sl
    have S8:=z.o.keeps d0;have e8:=S8.at'.ext ((ExtR J).alloc (.cells #[.string t,.slice a8 (jaG n).length c8,.int .i64 0,.int .i64 0] 83));have d1:=Blk.new J (.cells #[.string t,.slice a8 (jaG n).length c8,.int .i64 0,.int .i64 0] 83);have e9:jeJ (J.alloc (.cells #[.string t,.slice a8 (jaG n).length c8,.int .i64 0,.int .i64 0] 83)) J.heap.size (itOf t):=by
     rw[e1.o]
     exact⟨_,d1,jbh b0 ((ExtR J).alloc _)⟩
    obtain⟨ob,g1,X⟩:=e8.put sh (by rw[a5.o];exact HA.o) e9 (fun x q e=>by have:=(S8.at'.items x q).lt;omega)
    rw[a5.o]at X;have b2:Ext w ((J.alloc (.cells #[.string t,.slice a8 (jaG n).length c8,.int .i64 0,.int .i64 0] 83)).putObj bg ob):=(S8.ext.alloc _).putObj (.inr S8.new) _;have d4:=S8.ext.size;have b3:RK wr J:=((RK.refl _).ext c6.o).ext d0;have Z:∃ es ck,Blk ((J.alloc (.cells #[.string t,.slice a8 (jaG n).length c8,.int .i64 0,.int .i64 0] 83)).putObj bg ob) bg (.map es ck):=by
     obtain⟨es,ck,h1,_⟩:=X.mp
     exact⟨_,ck,h1⟩
    obtain⟨g2,g3,Z⟩:=Z
    have a2:=(b3.ext ((ExtR J).alloc (.cells #[.string t,.slice a8 (jaG n).length c8,.int .i64 0,.int .i64 0] 83))).put (jad.onePut _ bg ob) Z;have b4:=Hd (show jml w ((J.alloc (.cells #[.string t,.slice a8 (jaG n).length c8,.int .i64 0,.int .i64 0] 83)).putObj bg ob) (G++[(kt,J.heap.size,itOf t)])from fun x q c r=>by
     rcases bO.1 q with q | q
     ·exact c0.o.rk a2 (fun x q=>(H.o.at'.items x q).lt) x q c r
     ·rw[bS.1 q]at r
      obtain⟨rv,r1,r2⟩:=r
      have f5:J.heap.size≠bg:=fun e=>by
       obtain⟨_,_,h1,_⟩:=S8.at'.mp
       have:=h1.lt;omega
      have hq:((J.alloc (.cells #[.string t,.slice a8 (jaG n).length c8,.int .i64 0,.int .i64 0] 83)).putObj bg ob).cell? ⟨J.heap.size,1,none⟩=some (.slice a8 (jaG n).length c8):=(d1.keeps (jad.onePut _ bg ob) f5).cell (i:=1) vF;have r1:_=some rv:=r1;rw[hq]at r1;have e:=bV r1;rw[<-e]at r2
      have:=a1 c r2
      have:=z.o.ext.size
      omega)
    have d5:=Hd b2;have d6:=Hd X;have f6:Hid (w.heap.size<=J.heap.size):=S8.ext.size;clear b3 Z a2 d4 b2 X e9 d1 e8 S8 b0 a1 d0 a6 d3 a3 E;go_wp2_with fail
    go_roundw
    case rel =>
     refine⟨i+1,by omega,by go_num,a0.o,G++[(kt,J.heap.size,itOf t)],⟨d5.o,d6.o,?_,z.o.new,?_⟩,b4.o⟩
     ·rw[e0.o, <-z.o.is,HZ.o,bY];rfl
     ·intro x q
      rcases bO.1 q with q | q
      ·exact z.o.news x q
      ·simp only[bS]at q;subst q;exact f6.o
    case measure=>exact vJ
  ·have f7:i=L.length:=vO
   subst f7;have HS:=Hd (show ReS w bg G L wr by have:=H.o;rwa [cF]at this);clear H;go_wp2_with fail
   go_ret2;exact .inr ⟨by have h:=a9.o;rwa [cF]at h,bg,G,rfl,HS.o,c0.o⟩
def okM(S G:vT)(M:vM)(x:vB):Bool:=memB (ja6 M) x ||(atL S x.data.toList).isSome ||(atL G x.data.toList).isSome
theorem joc(w0:vW)(s bm:Nat)(room:Int)(S G:vT)(bg b:Nat)(h:jaz w0 s bm room S)(hG:jcG w0 bg G)(W:vW)(M:vM)(hM:Meet w0 s S bg b M W)(x:vB)(hl:M.length<=1000000) :
  vQ 84 #[.string x,.pointer (some ⟨b+4,0,none⟩),.pointer (some ⟨b,0,none⟩),.pointer (some ⟨b+2,0,none⟩),.pointer (some ⟨b+1,0,none⟩)] W fun e w'=>e=.returned (.bool (okM S G M x))/\Meet w0 s S bg b (M++[x]) w':=by
 have HM:=Hd hM;have HS:=Hd h
 obtain⟨es,ck,h5,h6⟩:=hM.tab
 obtain⟨v,n,h1,h2,h3,h4⟩:=hM.var
 obtain⟨ad,cp,rfl⟩:=jaK h2
 obtain⟨cn,a7⟩:=vE (cntB M x)
 have f1:cn<=1000000:=by
  rw[a7];unfold cntB;refine bL jB ?_;rw[bZ];exact hl
 have e6:=h6 x;rw[<-a7]at e6;have d1:(Instr.lookup 98 (.map (some (b+3))) (.string x) false).run Tryz.prog W=.ok (.int .i64 (cn:Int)) W:=by
  have:=jcl Tryz.ES Tryz.uMapSI h5 (Tryz.zeroI W) x.data.toList false
  rw[e6]at this;unfold cntV at this
  by_cases h0:cn=0
  ·rw[if_pos h0]at this;rw[h0];exact this
  ·rw[if_neg h0]at this;exact this
 obtain⟨a8,a0⟩:=vE (jbk es x.data.toList (.int .i64 ((cn:Int)+1)) ck)
 obtain⟨b4,b0⟩:=vE (if (jaU es x.data.toList).isSome then ck else ck+1)
 obtain⟨E,b5⟩:=vE (W.putObj (b+3) (.map (Tryz.ES.arr a8) b4))
 have d2:(Instr.mapUpdate 98 (.map (some (b+3))) (.string x) (.int .i64 ((cn:Int)+1))).run Tryz.prog W=.ok () E:=by
  have:=jbV Tryz.ES Tryz.uMapSI h5 x.data.toList (.int .i64 ((cn:Int)+1))
  rw[<-a0, <-b0, <-b5]at this;exact this
 have B2:Blk E (b+3) (.map (Tryz.ES.arr a8) b4):=by rw[b5];exact h5.put_same _
 have e7:∀ y:vB,jaU a8 y.data.toList=cntV (cntB (M++[x]) y):=fun y=>by
  rw[a0,jcV,h6 y,jqF]
  by_cases hxy:y.data.toList=x.data.toList
  ·have e2:y=x:=ByteArray.ext (Array.ext' hxy)
   subst e2;rw[if_pos rfl,if_pos rfl, <-a7];unfold cntV;rw[if_neg vO];simp
  ·rw[if_neg hxy,if_neg (fun e=>hxy e.symm)];rfl
 have b1:(Instr.lookup 98 (.map (some (b+3))) (.string x) false).run Tryz.prog E=.ok (.int .i64 ((cn:Int)+1)) E:=by
  have:=jcl Tryz.ES Tryz.uMapSI B2 (Tryz.zeroI E) x.data.toList false
  rw[a0,jcV,if_pos rfl]at this;exact this
 have K2:jad (fun z=>z=b+3) W E:=by rw[b5];exact jad.onePut _ _ _
 have q9:W.cell? ⟨b+4,0,none⟩=some (.map (some (b+3))):=hM.c9.cell (i:=0) vF;have E2:Ext w0 E:=hM.ext.trans' K2 (fun y hy e=>by have e:y=_:=e;have:=hM.lo;omega);have C9:=hM.c9.keeps K2 vO;have f2:E.cell? ⟨b+4,0,none⟩=some (.map (some (b+3))):=C9.cell (i:=0) vF;have C3:=hM.c3.keeps K2 vO;have f3:E.cell? ⟨b,0,none⟩=some (.pointer (some ⟨s,0,none⟩)):=C3.cell (i:=0) vF;have C5:=hM.c5.keeps K2 vO;have V2:=h1.keeps K2 vO;have O2:=jaY h2 K2 (fun z O e=>by have:=h4 z O;have e:z=_:=e;omega);have f4:E.cell? ⟨b+2,0,none⟩=some (.slice ad n cp):=V2.cell (i:=0) vF;have e8:E.frozen? ⟨b+2,0,none⟩=false:=V2.frozen;have qs:=(h.st.keeps E2 (fun g=>g)).cell (i:=1) (v:=.map (some bm)) vF;have H:=(h.mp.ext E2).look x false;simp only[cG,if_false]at H;have a3:=Hd (show memB (ja6 M) x=true↔cn≠0 from by
  rw[jdV,jaN,a7];unfold cntB;rw[<-Nat.pos_iff_ne_zero,fZ,bC]
  exact⟨fun hm=>⟨x,hm,rfl⟩,fun ⟨y,hy,e⟩=>by rw[<-show y=x from ByteArray.ext (Array.ext' e)];exact hy⟩)
 have b8:=Hd (jnS S M x);have b2:=Hd (show ∃ es ck,Blk E (b+3) (.map (Tryz.ES.arr es) ck)/\∀ y:vB,jaU es y.data.toList=cntV (cntB (M++[x]) y)from⟨a8,b4,B2,e7⟩);have d3:Hid (∀ W3:vW,Ext w0 W3->jcG W3 bg G):=fun _ e=>hG.ext e
 obtain⟨ok,q⟩:=vE (okM S G M x)
 rw[<-q];have a4:=Hd q;clear q;have f5:=Hd K2;have d4:=Hd C3;have d5:=Hd C5;have b6:=Hd C9;have b7:=Hd V2;have d6:=Hd O2;have d7:=Hd E2;have H4:=Hd h4;have H3:=Hd h3;have a5:=Hd hM.lo;have b3:Hid (frK S (M++[x])=frK S M->Meet w0 s S bg b (M++[x]) E):=(fun e=>⟨E2,hM.lo,C3,C5,C9,⟨a8,b4,B2,e7⟩,_,n,V2,by rw[e];exact O2,by rw[bG];omega,h4⟩);clear hM h h1 h2 h4 h5 h6 a7 e6 a0 b0 b5 B2 e7 K2 C3 C5 C9 V2 O2 E2 hG
 by_cases hc0:cn=0
 ·subst hc0
  have d8:memB (ja6 M) x=false:=by
   cases hm:memB (ja6 M) x with
   | false=>rfl
   | true=>exact absurd rfl (a3.o.1 hm)
  have b9:=Hd d8;have e9:(Instr.lookup 98 (.map (some (b+3))) (.string x) false).run Tryz.prog W=.ok (.int .i64 0) W:=d1;have f0:(Instr.mapUpdate 98 (.map (some (b+3))) (.string x) (.int .i64 1)).run Tryz.prog W=.ok () E:=d2;have e1:(Instr.lookup 98 (.map (some (b+3))) (.string x) false).run Tryz.prog E=.ok (.int .i64 1) E:=b1;clear d8 d1 d2 b1;cases hs:atL S x.data.toList with
  | some y =>
   rw[hs]at H;unfold ptrO at H;simp only at H;have a6:=Hd (show frK S (M++[x])=frK S M by rw[b8.o,b9.o,hs];rfl);have q:ok=true:=by rw[a4.o];unfold okM;rw[hs];simp
   subst q;clear hs a4;go_enter Tryz.func84,Tryz.ntmps84;go_wp2_with fail
   go_ret
   exact⟨rfl,b3.o a6.o⟩
  | none =>
   rw[hs]at H;unfold ptrO at H;simp only at H;have a6:=Hd (show frK S (M++[x])=frK S M++[x] by rw[b8.o,b9.o,hs];rfl);have q:ok=(atL G x.data.toList).isSome:=by rw[a4.o];unfold okM;rw[hs,b9.o];simp
   have a1:=Hd q;clear hs a4 q;have d9:n+1<=maxLen:=by have:=H3.o;unfold maxLen;omega
   have e0:(n+1) * 16<=140737488355328:=by have:=H3.o;omega
   cases hyg:atL G x.data.toList with
   | some yg =>
    have c0:=Hd hyg;have q:ok=true:=by rw[a1.o,hyg];rfl
    subst q;clear hyg a1;go_enter Tryz.func84,Tryz.ntmps84
    obtain⟨i0,hi,c1,c2,c4⟩:=info_parts Tryz.infoStr
    go_wp2_with (at_builtin;refine jcn _ rfl (.tmp 24) (.tmp 26) 22 rfl 9 i0 _ 1 16 Tryz.uStrs hi c1 c2 c4 rfl vI (.slice ad n cp) n _ rfl (jbh d6.o ((ExtR E).alloc _)) ⟨E.heap.size,0,none⟩ 1 1 [.string x] rfl rfl (ja3 (Blk.new E _)) (by simp[Value.oneCell']) d9 e0 ?_;intro v' Q r1 r2 K;obtain⟨X,Z,rfl⟩:=jaK r1;have K6:jad (fun z=>(Value.slice ad n cp).ownBlock=some z) E Q:=((jad.refl _ E).alloc _).trans r2;have nO:∀ z,z < b+5->¬(Value.slice ad n cp).ownBlock=some z:=(fun z O e=>by have:=H4.o z e;omega);have a2:=b7.o.keeps K6 (nO _ vO);have e3:Q.cell? ⟨b+2,0,none⟩=some (.slice ad n cp):=a2.cell (i:=0) vF;have e4:Q.frozen? ⟨b+2,0,none⟩=false:=a2.frozen;have K7:jad (fun z=>z=b+2) Q (Q.setCell ⟨b+2,0,none⟩ (.slice X (n+1) Z)):=jad.oneSet Q ⟨b+2,0,none⟩ _;have a9:=(d5.o.keeps K6 (nO _ vO)).keeps K7 vO;have e5:=a9.cell (i:=0) (v:=.map (some bg)) vF;have E7:Ext w0 (Q.setCell ⟨b+2,0,none⟩ (.slice X (n+1) Z)):=(d7.o.trans' K6 (fun y hy e=>by have:=H4.o y e;have:=a5.o;omega)).trans' K7 (fun y hy e=>by have e:y=_:=e;have:=a5.o;omega);have J:=(d3.o _ E7).look x false;rw[c0.o]at J;unfold ptrO at J;simp only[cG,if_false]at J)
    go_ret
    refine⟨rfl,E7,a5.o,(d4.o.keeps K6 (nO _ vO)).keeps K7 vO,a9,(b6.o.keeps K6 (nO _ vO)).keeps K7 vO,?_,.slice X (n+1) Z,n+1,a2.set_same (i:=0) _,?_,?_,?_⟩
    ·obtain⟨c6,c7,c8,d0⟩:=b2.o
     exact⟨c6,c7,(c8.keeps K6 (nO _ vO)).keeps K7 vO,d0⟩
    ·rw[a6.o,bY]
     refine jaY r1 K7 (fun z O e=>?_);have e:z=b+2:=e;rcases K with K | K
     ·have:=H4.o z (K ▸ O);omega
     ·have h9:=K z O;rw[bN]at h9;have:=b7.o.lt;omega
    ·have:=H3.o;rw[bG];exact Nat.succ_le_succ this
    ·intro z O
     rcases K with K | K
     ·exact H4.o z (K ▸ O)
     ·have h9:=K z O;rw[bN]at h9;have:=b6.o.lt;omega
   | none =>
    have c0:=Hd hyg;have q:ok=false:=by rw[a1.o,hyg];rfl
    subst q;clear hyg a1;go_enter Tryz.func84,Tryz.ntmps84
    obtain⟨i0,hi,c1,c2,c4⟩:=info_parts Tryz.infoStr
    go_wp2_with (at_builtin;refine jcn _ rfl (.tmp 24) (.tmp 26) 22 rfl 9 i0 _ 1 16 Tryz.uStrs hi c1 c2 c4 rfl vI (.slice ad n cp) n _ rfl (jbh d6.o ((ExtR E).alloc _)) ⟨E.heap.size,0,none⟩ 1 1 [.string x] rfl rfl (ja3 (Blk.new E _)) (by simp[Value.oneCell']) d9 e0 ?_;intro v' Q r1 r2 K;obtain⟨X,Z,rfl⟩:=jaK r1;have K6:jad (fun z=>(Value.slice ad n cp).ownBlock=some z) E Q:=((jad.refl _ E).alloc _).trans r2;have nO:∀ z,z < b+5->¬(Value.slice ad n cp).ownBlock=some z:=(fun z O e=>by have:=H4.o z e;omega);have a2:=b7.o.keeps K6 (nO _ vO);have e3:Q.cell? ⟨b+2,0,none⟩=some (.slice ad n cp):=a2.cell (i:=0) vF;have e4:Q.frozen? ⟨b+2,0,none⟩=false:=a2.frozen;have K7:jad (fun z=>z=b+2) Q (Q.setCell ⟨b+2,0,none⟩ (.slice X (n+1) Z)):=jad.oneSet Q ⟨b+2,0,none⟩ _;have a9:=(d5.o.keeps K6 (nO _ vO)).keeps K7 vO;have e5:=a9.cell (i:=0) (v:=.map (some bg)) vF;have E7:Ext w0 (Q.setCell ⟨b+2,0,none⟩ (.slice X (n+1) Z)):=(d7.o.trans' K6 (fun y hy e=>by have:=H4.o y e;have:=a5.o;omega)).trans' K7 (fun y hy e=>by have e:y=_:=e;have:=a5.o;omega);have J:=(d3.o _ E7).look x false;rw[c0.o]at J;unfold ptrO at J;simp only[cG,if_false]at J)
    go_ret
    refine⟨rfl,E7,a5.o,(d4.o.keeps K6 (nO _ vO)).keeps K7 vO,a9,(b6.o.keeps K6 (nO _ vO)).keeps K7 vO,?_,.slice X (n+1) Z,n+1,a2.set_same (i:=0) _,?_,?_,?_⟩
    ·obtain⟨c6,c7,c8,d0⟩:=b2.o
     exact⟨c6,c7,(c8.keeps K6 (nO _ vO)).keeps K7 vO,d0⟩
    ·rw[a6.o,bY]
     refine jaY r1 K7 (fun z O e=>?_);have e:z=b+2:=e;rcases K with K | K
     ·have:=H4.o z (K ▸ O);omega
     ·have h9:=K z O;rw[bN]at h9;have:=b7.o.lt;omega
    ·have:=H3.o;rw[bG];exact Nat.succ_le_succ this
    ·intro z O
     rcases K with K | K
     ·exact H4.o z (K ▸ O)
     ·have h9:=K z O;rw[bN]at h9;have:=b6.o.lt;omega
 ·have f6:¬((cn:Int)+1<=1):=vO
  have a6:=Hd (show frK S (M++[x])=frK S M by rw[b8.o,a3.o.2 hc0];rfl);have q:ok=true:=by rw[a4.o];unfold okM;rw[a3.o.2 hc0];simp
  subst q;clear a4;go_enter Tryz.func84,Tryz.ntmps84;go_wp2_with fail
  go_ret
  exact⟨rfl,b3.o a6.o⟩
structure Fair(G:vT):Prop where
 few:G.length<=1000
 refs:∀ y∈G,y.2.2.refs.length<=16
def has2(S G:vT)(x:vB):Prop:=(atL S x.data.toList).isSome=true\/(atL G x.data.toList).isSome=true
structure jfG(S G:vT)(root:vB)(M:vM)(i:Nat):Prop where
 is:M=root ::((frK S M).take i).flatMap (jb4 G)
 le:i<=(frK S M).length
 inG:∀ x∈M,has2 S G x
theorem jgV{G:vT}(h:Fair G):∀ l:vM,(l.flatMap (jb4 G)).length<=16 * l.length
 | []=>by simp
 | x :: r=>by
  have e:=jgV h r
  have:(jb4 G x).length<=16:=by
   unfold jb4;split
   ·rename_i y hy;exact h.refs y (jaF hy).1
   ·simp
  rw[cE,bG,bQ];omega
theorem jfG.len{S G:vT}{root:vB}{M:vM}{i:Nat}(h:jfG S G root M i)(hs:Fair G):M.length<=1+16 * i:=by
 have:=jgV hs ((frK S M).take i)
 rw[dS]at this;have e:=congrArg List.length h.is;rw[bQ]at e;omega
theorem jfG.at'{S G:vT}{root:vB}{M:vM}{i:Nat}(h:jfG S G root M i){x:vB}(hx:x∈frK S M):(atL G x.data.toList).isSome=true:=by
 have e:=jfV.1 hx;rcases h.inG x e.1 with h | h
 ·rw[e.2]at h;cases h
 ·exact h
theorem jhA{S G:vT}{M:vM}(h:∀ x∈frK S M,(atL G x.data.toList).isSome=true):(frK S M).length<=G.length:=by
 have q:((frK S M).map fun x=>x.data.toList).Nodup:=by
  have:=jlj S M
  generalize frK S M=l at this;induction l with
  | nil=>simp
  | cons z r ih =>
   rw[cZ]at this;rw[bJ,cZ]
   exact⟨fun E=>by obtain⟨y,o,e⟩:=bC.1 E;exact this.1 (jmy e ▸ o),ih this.2⟩
 have:=gF q (l₂:=G.map (·.1)) (fun k H=>by
  obtain⟨x,J,e⟩:=bC.1 H
  obtain⟨y,o⟩:=dB.1 (h x J)
  exact bC.2 ⟨y,(jaF o).1,by rw[(jaF o).2,e]⟩)
 simpa using this
theorem jfG.step{S G:vT}{root:vB}{M:vM}{i:Nat}(h:jfG S G root M i){x:vB}(hx:(frK S M)[i]?=some x)(hr:∀ r∈jb4 G x,has2 S G r):jfG S G root (M++jb4 G x) (i+1):=by
 obtain⟨X,q⟩:=jnR S M (jb4 G x)
 have z:i < (frK S M).length:=(bU.1 hx).1
 refine⟨?_,?_,?_⟩
 ·have e:(frK S (M++jb4 G x)).take (i+1)=(frK S M).take i++[x]:=by
   rw[q,gG vO,cB,hx];rfl
  rw[e,dK]
  have:=h.is
  generalize frK S M=l at this;rw[this]
  simp
 ·rw[q,bG];omega
 ·intro y o
  rcases bO.1 o with o | o
  ·exact h.inG y o
  ·exact hr y o
theorem jyp{S G:vT}{M:vM}{x:vB}(h:okM S G M x=true)(hM:∀ y∈M,has2 S G y):has2 S G x:=by
 unfold okM at h;simp only[Bool.or_eq_true]at h;rcases h with (h | h) | h
 ·exact hM x ((jaN _ _).1 ((jdV _ _).1 h))
 ·exact .inl h
 ·exact .inr h
theorem jwy{S G:vT}{M:vM}{x:vB}(h:okM S G M x=false):¬ has2 S G x:=by
 unfold okM at h;simp only[gP]at h;rintro (e | e)
 ·rw[h.1.2]at e;cases e
 ·rw[h.2]at e;cases e
def jxC(w0:vW)(s:Nat)(S G:vT)(bg b:Nat)(root:vB)(wv iv:vV)(W:vW):Prop:=wv=.bool true/\∃ (i:Nat) (M:vM),iv=.int .i64 i/\jfG S G root M i/\Meet w0 s S bg b M W
def jvB(w0:vW)(s:Nat)(S G:vT)(bg b:Nat)(M R:vM)(wv jv:vV)(W:vW):Prop:=wv=.bool true/\∃ j:Nat,jv=.int .i64 j/\j<=R.length/\Meet w0 s S bg b (M++R.take j) W/\∀ r∈R.take j,has2 S G r
def RhP(w0:vW)(S G:vT)(root:vB)(e:Ending)(w':vW):Prop:=(e=.returned (.tuple #[.slice none 0 0,.int .i64 2])/\Ext w0 w'/\∃ x r,r∈jb4 G x/\¬ has2 S G r)\/∃ v n M,e=.returned (.tuple #[v,.int .i64 0])/\jfG S G root M (frK S M).length/\SRow w0 w' v n (frK S M)
theorem jnb(w0:vW)(s bm:Nat)(room:Int)(S G:vT)(bg:Nat)(h:jaz w0 s bm room S)(hG:jcG w0 bg G)(hs:Fair G)(root:vB)(hr:(atL G root.data.toList).isSome=true) :
  vQ 44 #[.pointer (some ⟨s,0,none⟩),.string root,.map (some bg)] w0 (RhP w0 S G root):=by
 have HS:=Hd h;have HG:=Hd hG;have a2:=Hd hs;have HR:=Hd hr;have c4:=Tryz.makeMapSI;clear h hG hs hr;go_enter Tryz.func44,Tryz.ntmps44;go_wp2_with fail
 go_step3;go_wp2_with fail
 refine vC (joc w0 s bm room S G bg w0.heap.size HS.o HG.o _ [] (jrK w0 s S bg) root (by simp)) fun w5 J=>?_;rw[show okM S G [] root=true by unfold okM;rw[HR.o];simp];have HM:=Hd J;clear J c4
 obtain⟨b,hb⟩:=vE w0.heap.size
 rw[show w0.heap.size+1+1+1+1=w0.heap.size+4 from rfl,show w0.heap.size+1+1+1=w0.heap.size+3 from rfl,show w0.heap.size+1+1=w0.heap.size+2 from rfl];rw[<-hb]at HM ⊢;clear hb;go_wp2_with fail
 go_step3;go_wp2_with fail
 go_loopw [11,12] (fun wv iv wr=>jxC w0 s S G bg b root wv iv wr) (fun _ iv _=>1001 - (intOf iv).toNat)
 case atStart =>
  refine⟨rfl,0,[root],rfl,⟨by simp,cC _,fun x e=>by simp at e;subst e;exact .inr HR.o⟩,HM.o⟩
 case round =>
  obtain⟨rfl,i,M,rfl,X,J⟩:=hrel
  obtain⟨v,n,E,h2,h3,h4⟩:=J.var
  obtain⟨ad,cp,rfl⟩:=jaK h2
  have hn:(frK S M).length=n:=by have:=h2.1;simpa using this
  have b0:=jhA (S:=S) (M:=M) (fun x e=>X.at' e);have d7:=a2.o.few;have q8:=E.cell (i:=0) (v:=.slice ad n cp) vF;have a0:=X.le
  by_cases hlt:i < n
  ·have b1:(i:Int) < (n:Int):=vO
   obtain⟨x,e⟩:∃ x,(frK S M)[i]?=some x:=⟨_,bA vO⟩
   obtain⟨ax,cx,hh,K⟩:=(jhl h2).slice
   obtain⟨ba,oa,c6,b3⟩:=K i x e
   subst c6;cases hh
   obtain⟨y,O⟩:=dB.1 (X.at' (bI e))
   have hI:=HG.o.items y (jaF O).1;have a3:=jfz O;have c7:=a2.o.refs y (jaF O).1
   obtain⟨rv,b4,a4⟩:=hI.cells
   obtain⟨ar,cr,rfl⟩:=jaK a4
   obtain⟨R,hR⟩:=vE y.2.2.refs
   have Q5:=Hd (J.c5.cell (i:=0) (v:=.map (some bg)) vF);have Q8:=Hd q8;have QA:=Hd b3;have QR:=Hd ((b4.keeps J.ext (fun g=>g)).cell (i:=1) (v:=.slice ar y.2.2.refs.length cr) vF);have b5:=Hd (HG.o.ext J.ext);have HY:=Hd O;have b6:=Hd (fun hr=>X.step e hr);have c8:=Hd X.inG;have c9:=Hd (X.len a2.o);have b7:=Hd (jhl a4);have b8:=Hd J;rw[a3, <-hR]at b6;rw[<-hR]at QR b7 c7;have d0:=Hd (show R=jb4 G x by rw[hR,a3]);have a9:i<=1000:=vO
   obtain⟨yb,a5⟩:=vE y.2.1
   rw[<-a5]at QR;have d1:=Hd a5;clear a3 hR a5 a4 b4 hI O e K b3 E h2 X J hn b0 a0;go_wp2_with fail
   refine jai [0,1,2,3,4,5,6,7,8,9,10] Ext ExtR ExtT vY vY vY ?_;refine qKL ⟨b+1,0,none⟩ _ rfl (fun w1 E=>jac Tryz.underlying73 rfl (jaa Q5.o ((jaj _).trans E))) ?_;refine vS ?_;refine qKL ⟨b+2,0,none⟩ _ rfl (fun w1 E=>jac Tryz.underlying22 rfl (jaa Q8.o ((jaj _).trans E))) ?_;refine vS ?_;iterate 2 refine vK ?_
   refine qKL ⟨ba,oa+i,none⟩ _ rfl (fun w1 E=>jac Tryz.underlying9 rfl (jaa QA.o ((jaj _).trans E))) ?_;refine vS ?_;refine qKV _ (.pointer (some ⟨yb,0,none⟩)) rfl (fun w1 E=>by
    have e:=(b5.o.ext ((jaj _).trans E)).look x false;rw[HY.o]at e;unfold ptrO at e;simp only[cG,if_false]at e;rw[<-d1.o]at e;simp[execOp,Act.eval,e,bT,Result.andThen,cJ]) ?_
   refine vS ?_;refine qKV _ (.pointer (some ⟨yb,0,none⟩)) rfl (fun w1 _=>by kernel_rfl) ?_;refine vS ?_
   refine vK ?_
   refine qKL ⟨yb,1,none⟩ _ rfl (fun w1 E=>jac Tryz.underlying22 rfl (jaa QR.o ((jaj _).trans E))) ?_;refine vS ?_;iterate 2 refine vK ?_
   refine qKE (fun w3 he=>?_);have d2:=Hd (b8.o.keeps ((jaj _).trans he));clear he b8 Q5 Q8 QA QR b5 HY q8;go_wp2_with fail
   go_loopw [11,36] (fun wv jv d3=>jvB w0 s S G bg b M R wv jv d3) (fun _ jv _=>R.length - (intOf jv).toNat)
   case atStart=>exact⟨rfl,0,rfl,cC _,by rw[iH,bR];exact d2.o,fun r hr=>by cases hr⟩
   case round =>
    obtain⟨rfl,j,rfl,hj,H,b9⟩:=hrel
    have Q:=Hd b9;clear b9
    by_cases hlt2:j < R.length
    ·have b2:(j:Int) < (R.length:Int):=vO
     obtain⟨z,hz⟩:∃ z,R[j]?=some z:=⟨_,bA hlt2⟩
     obtain⟨d8,d9,d4,q⟩:=b7.o.slice
     obtain⟨e0,e1,a8,a1⟩:=q j z hz
     subst a8;cases d4;have q2:=jaa a1 H.ext;have c0:=Hd hz;have HT:=Hd (show M++R.take (j+1)=M++R.take j++[z] by rw[cB,hz, <-bX];rfl);have HL:=Hd (show (M++R.take j).length<=1000000 by have:=c9.o;rw[bG,dS];omega);have c1:=Hd H;clear q a1 H hz;go_wp2_with fail
     refine vC (joc w0 s bm room S G bg b HS.o HG.o _ _ c1.o z HL.o) fun w9 a6=>?_;rw[<-HT.o]at a6;have Z:=Hd a6
     obtain⟨ok,a7⟩:=vE (okM S G (M++R.take j) z)
     rw[<-a7];have c2:=Hd a7;clear a6 c1 q2 a7;cases ok with
     | false =>
      go_wp2_with fail
      go_ret2;exact .inl ⟨rfl,Z.o.ext,x,z,by rw[<-d0.o];exact bI c0.o,jwy c2.o.symm⟩
     | true =>
     go_wp2_with fail
     go_roundw
     case rel =>
      refine⟨rfl,j+1,by go_num,by omega,Z.o,joH Q.o c0.o (jyp c2.o.symm fun y O=>?_)⟩
      rcases bO.1 O with O | O
      ·exact c8.o y O
      ·exact Q.o y O
     case measure=>exact vJ
    ·have d5:j=R.length:=vO
     subst d5;rw[cF]at H;have Z:=Hd H;clear H;go_wp2_with fail
     go_roundw
     case rel=>exact⟨rfl,i+1,M++R,by go_num,b6.o (by have h:=Q.o;rwa [cF]at h),Z.o⟩
     case measure=>exact vJ
  ·have c3:i=(frK S M).length:=vO
   have HP:=Hd (show jfG S G root M (frK S M).length by rw[<-c3];exact X);have d6:=Hd (show SRow w0 wr (.slice ad n cp) n (frK S M)from⟨⟨_,_,rfl⟩,h2,J.ext,fun z hz=>by have:=h4 z hz;have:=J.lo;omega⟩);have b1:¬(i:Int) < (n:Int):=vO
   clear c3 X J E h2 h4 hn b0 a0;go_wp2_with fail
   go_ret2;exact .inr ⟨.slice ad n cp,n,M,rfl,HP.o,d6.o⟩
theorem jji{L:vM}{G:vT}(h:G.map kvI=readG L)(hL:∀ t∈L,∃ n,jbj t n)(hl:L.length<=1000):Fair G:=by
 refine⟨?_,fun y o=>?_⟩
 ·have:=(je6 L).2.2
  rw[<-h,bZ]at this;exact bL this hl
 ·obtain⟨t,q,_,e⟩:=jc2 h o
  rw[e]
  obtain⟨n,z⟩:=hL t q
  exact jii (jcu z)
theorem jiC{S G:vT}{root:vB}{M:vM}{i:Nat}(h:jfG S G root M i){r:vB}(hr:r∈M):(atL (S++jcQ G (frK S M)) r.data.toList).isSome=true:=by
 rw[jxN];cases hs:atL S r.data.toList with
 | some y=>rfl
 | none =>
  obtain⟨y,e⟩:=dB.1 (h.at' (jfV.2 ⟨hr,hs⟩))
  have o:y∈jcQ G (frK S M):=List.mem_filterMap.2 ⟨r,jfV.2 ⟨hr,hs⟩,e⟩;cases hp:atL (jcQ G (frK S M)) r.data.toList with
  | some z=>rfl
  | none=>exact absurd (jaF e).2.symm (jhv.1 hp y o)
structure AddY(w:World)(s bm:Nat)(room:Int)(S:vT)(L:vM)(top:vB)(G:vT)(M:vM)(e:Ending)(w':World):Prop where
 given:G.map kvI=readG L
 nodes:∀ t∈L,∃ n,jbj t n
 news:∀ y∈G,w.heap.size<=y.2.1
 path:jfG S G (shaB top) M (frK S M).length
 fits:¬ room - S.length < (frK S M).length
 res:e=.returned (.tuple #[.string (shaB top),.int .i64 0])
 st:jaz w' s bm room (jjR (shaB top).data.toList (jet ((frK S M).flatMap (jb4 G)) (S++jcQ G (frK S M))))
 kp:jad (fun z=>z=bm\/z∈S.map (·.2.1)) w w'
 rk:RK w w'
 rows:jml w w' G
def ju0(Q:Prop)(room:Int)(S:vT)(L:vM)(k:Int):Prop:=(k=2/\Q)\/(k=2/\∃ G,G.map kvI=readG L/\∃ x r,r∈jb4 G x/\¬ has2 S G r)\/(k=3/\∃ top G M,L[0]?=some top/\G.map kvI=readG L/\jfG S G (shaB top) M (frK S M).length/\room - S.length < (frK S M).length)
def jkL(Q:Prop)(w:vW)(s bm:Nat)(room:Int)(S:vT)(L:vM)(e:Ending)(w':vW):Prop:=(∃ k:Int,ju0 Q room S L k/\k≠0/\e=.returned (.tuple #[.string ⟨#[]⟩,.int .i64 k])/\Ext w w')\/∃ top G M,L[0]?=some top/\AddY w s bm room S L top G M e w'
theorem jmo(w:vW)(hc:jbS w)(hGE:ErrT w)(s bm:Nat)(room:Int)(S:vT)(h:jaz w s bm room S)(v:vV)(L:vM)(hv:RdS w v L)(Q:Prop)(hL:AnyQ Q L)(hll:L.length<=1000)(top:vB)(htop:L[0]?=some top)(hr0:0<=room)(hr1:room<=9223372036854775807)(hS:S.length<=100000)(hSu:∀ x∈S,0<=x.2.2.used/\x.2.2.used<=1000000000)(hSh:∀ x∈S,0<=x.2.2.held/\x.2.2.held<=1000000000) :
  vQ 14 #[.pointer (some ⟨s,0,none⟩),v] w (jkL Q w s bm room S L):=by
 have h0:L≠[]:=fun e=>by subst e;cases htop
 have k2:0 < L.length:=gD.2 h0
 obtain⟨a,c,rfl,_⟩:=hv.slice
 have HR:=Hd (jsK w hc hGE _ L hv hll h0 Q hL);have HC:=Hd hc;have HV:=Hd hv;have HL:=Hd hL;have HS:=Hd h;have X:=Hd htop;have g8:=Hd hSu;have d3:=Hd hSh;clear hc h hv hL htop h0 hSu hSh;go_enter Tryz.func14,Tryz.ntmps14;go_wp2_with fail
 refine HR.o.mono ?_;rintro e w1 (⟨rfl,hE,hq⟩ |⟨a0,bg,G,rfl,hG,e2⟩)
 ·have HE:=Hd hE
  have HQ:=Hd hq;clear hE HR hq;go_wp2_with fail
  go_ret2;exact .inl ⟨2,.inl ⟨rfl,HQ.o⟩,by decide,rfl,HE.o⟩
 have b4:=Hd a0;have g9:=Hd e2;have h2:Hid (∀ x∈G,x.2.1 < w1.heap.size):=fun x q=>(hG.at'.items x q).lt;have h3:=Hd hG.ext;clear a0 e2
 obtain⟨ax,cx,hh,E⟩:=HV.o.slice
 obtain⟨ba,oa,a7,a8⟩:=E 0 top X.o
 subst a7;cases hh;have q1:=jaa a8 hG.ext;have HG:=Hd hG;rw[gQ]at q1;clear E a8 hG HR;go_wp2_with fail
 refine vH (of_t _ _ [top] (by simp) (jcO w1 [top] 9) (HC.o.ext (HG.o.ext.alloc _))) fun w2 hE=>?_;rw[jdQ];have c8:=((ExtR w1).alloc (.cells #[.string top] 9)).trans hE;have H:=Hd (HG.o.keeps c8);have h4:=Hd c8
 obtain⟨rt,b9⟩:=vE (shaB top)
 have c0:=Hd b9;have h5:=Hd (show (atL G rt.data.toList).isSome=true by rw[b9];exact jln HG.o.is (bI X.o));rw[<-b9];clear c8 b9 q1;go_wp2_with fail
 have c1:=Hd (jji H.o.is b4.o hll);have e3:=Hd (HS.o.ext H.o.ext);refine (jnb w2 s bm room S G bg e3.o H.o.at' c1.o rt h5.o).mono ?_;rintro e w3 (⟨rfl,hE,e4⟩ |⟨v3,n,M,rfl,hP,hF⟩)
 ·have HE:=Hd (H.o.ext.trans hE)
  have h6:=Hd e4;clear hE e4;go_wp2_with fail
  go_ret2;exact .inl ⟨2,.inr (.inl ⟨rfl,G,H.o.is,h6.o⟩),by decide,rfl,HE.o⟩
 have d4:=jhA (S:=S) (M:=M) (fun x q=>hP.at' q);have k3:=c1.o.few;have hn:(frK S M).length=n:=by have:=hF.len;simpa using this
 obtain⟨ad,cp,rfl⟩:=hF.sl
 have HP:=Hd hP;have HF:=Hd hF
 obtain⟨F,c9⟩:=vE (frK S M)
 rw[<-c9]at HF hn d4;have O:=Hd c9;have h7:=Hd (H.o.keeps hF.ext);have e5:=Hd (e3.o.ext hF.ext);clear hP hF c9;go_wp2_with fail
 refine vH (jwV w3 s bm room S e5.o hr0 hr1 vO) fun w4 a4=>?_
 obtain⟨m,hm⟩:=vE (room - (S.length:Int))
 rw[<-hm];have HM:=Hd hm;clear hm
 by_cases hfull:m < (n:Int)
 ·go_wp2_with fail
  go_ret2;exact .inl ⟨3,.inr (.inr ⟨rfl,top,G,M,X.o,H.o.is,by rw[<-c0.o];exact HP.o,by rw[<-O.o,hn, <-HM.o];exact hfull⟩),by decide,rfl,(H.o.ext.trans HF.o.ext).trans a4.o⟩
 ·have d5:=Hd (show RK w1 w4 from(((RK.refl w1).ext h4.o).ext HF.o.ext).ext a4.o)
  have e6:Ad1 w4 s bm bg room S G F (.slice ad n cp) 0 w4:=⟨jad.refl _ _,by rw[iH];show jaz w4 s bm room (S++[]);rw[bR];exact e5.o.ext a4.o,h7.o.at'.ext a4.o,by rw[hn];exact jbh HF.o.own a4.o⟩;have e7:=Hd e6;have c2:=HS.o.mp.mp
  obtain⟨_,_,c2,_⟩:=c2
  have g7:=c2.lt;have h8:Hid (∀ z,(Value.slice ad n cp).ownBlock=some z->z≠bm):=(fun z hz e=>by have:=HF.o.new z hz;have:=H.o.ext.size;omega);have h9:Hid (bg≠bm):=(fun e=>by have:=H.o.new;omega);have i0:Hid (∀ x∈S,∀ y∈G,x.2.1≠y.2.1):=(fun x q y hy e=>by have:=(HS.o.mp.items x q).lt;have:=H.o.news y hy;omega);have i1:=Hd (show F.Nodup by rw[O.o];exact jlj S M);have i2:Hid (∀ x∈F,atL S x.data.toList=none):=(fun x q=>by rw[O.o]at q;exact (jfV.1 q).2);have e8:Hid (∀ x∈F,(atL G x.data.toList).isSome=true):=(fun x q=>by rw[O.o]at q;exact HP.o.at' q);have k5:=Hd (HS.o.st);subst hn;clear e6 c2;go_wp2_with fail
  rw[show decide (m < (F.length:Int))=false from decide_eq_false (Int.not_lt.2 hfull)];go_loopw [46] (fun iv wr=>AdR1 w4 s bm bg room S G F (.slice ad F.length cp) iv wr/\RK w1 wr) (fun iv _=>F.length - (intOf iv).toNat)
  case atStart=>exact⟨⟨0,cC _,rfl,e7.o⟩,d5.o⟩
  case round =>
   obtain⟨⟨i,hi,rfl,J⟩,e9⟩:=hrel
   have f0:=Hd e9;clear e9;have HA:=Hd J
   by_cases hlt:i < F.length
   ·have b1:(i:Int) < (F.length:Int):=vO
    obtain⟨x,q⟩:∃ x,F[i]?=some x:=⟨_,bA hlt⟩
    obtain⟨ax,cx,hh,E⟩:=(jhl J.row).slice
    obtain⟨c3,c4,a7,a8⟩:=E i x q
    subst a7;cases hh
    obtain⟨y,hy⟩:=dB.1 (e8.o x (bI q))
    have Q1:=Hd (J.st.st.cell (i:=1) (v:=.map (some bm)) vF);have f1:=Hd J.gv;have HX:=Hd q;have HY:=Hd hy
    obtain⟨yb,a9⟩:=vE y.2.1
    have f2:=Hd a9;clear E q hy J a9;go_wp2_with fail
    refine jar [0,1,2,3,4,5,6,7,8] [8] Ext ExtR ExtT vY vY vY ?_
    refine vP ?_
    refine qA _ (.pointer (some ⟨s,0,none⟩)) rfl (fun w1=>by kernel_rfl) ?_;refine vS ?_
    refine vP ?_
    refine qL ⟨s,1,none⟩ _ rfl (fun w1 h1=>jac Tryz.underlying73 rfl (jaa Q1.o ((jaj _).trans h1))) ?_;refine vS ?_;iterate 3 refine vP ?_
    refine jrM _ (.pointer (some ⟨yb,0,none⟩)) rfl vY rfl (fun w1 h1=>by
     have q:=(f1.o.ext ((jaj _).trans h1)).look x false;rw[HY.o]at q;unfold ptrO at q;simp only[cG,if_false]at q;rw[<-f2.o]at q;simp[execOp,Act.eval,q,bT,Result.andThen,cJ]) ?_
    refine vS ?_;refine qH _ rfl (fun w5 he K hK=>?_);have f3:=HA.o.ext ((jaj _).trans he)
    obtain⟨ob,f4,d0⟩:=f3.put i0.o h9.o h8.o i1.o i2.o HX.o HY.o
    rw[<-f2.o]at f4;have f5:=Hd d0
    obtain⟨k6,k7,b5,_⟩:=d0.st.mp.mp
    have d6:=Hd ((f0.o.ext ((jaj _).trans he)).put (jad.onePut _ bm ob) b5);clear b5;clear f3 d0 he HA Q1 f1 a8;go_simp;refine hK _ _ ?_;clear hK K;refine qE (fun w7 he=>?_);have i3:=Hd (f5.o.ext he);have d7:=Hd (d6.o.ext he);clear he f5 f4;go_wp2_with fail
    go_roundw
    case rel=>exact⟨⟨i+1,by omega,by go_num,i3.o⟩,d7.o⟩
    case measure=>exact vJ
   ·have i4:i=F.length:=vO
    subst i4
    obtain⟨S1,b0⟩:=vE (S++jcQ G F)
    have c5:=Hd b0;have b3:=Hd (show Ad2 wr s bm bg room S1 G F (.slice ad F.length cp) [] wr from⟨jad.refl _ _,by have:=J.st;rw[cF]at this;rw[b0];exact this,⟨G,J.gv,fun k=>rfl⟩,J.row⟩);have HU:=Hd (show ∀ x∈S1,0<=x.2.2.used/\x.2.2.used<=1000000000 from fun x q=>by
     rw[b0]at q;rcases bO.1 q with q | q
     ·exact g8.o x q
     ·obtain⟨t,ht,_,e⟩:=jc2 H.o.is (jbZ q).1
      rw[e];exact⟨Int.le_refl _,by show (0:Int)<=1000000000;decide⟩)
    have i5:=Hd (show ∀ r∈F.flatMap (jb4 G),(atL S1 r.data.toList).isSome=true from fun r hr=>by
     rw[b0,O.o];refine jiC HP.o ?_
     have:=HP.o.is
     rw[cF, <-O.o]at this;rw[this];exact bD _ hr)
    obtain⟨w5,a5⟩:=vE wr
    have i6:=Hd a5;have d8:=Hd (show RK w1 w5 by rw[a5];exact f0.o);rw[<-a5]at b3;have b3:=Hd (show Ad2 w5 s bm bg room S1 G F (.slice ad F.length cp) [] wr by rw[<-a5];exact b3.o);have f6:=Hd (show jad (fun z=>z=bm) w4 w5 by rw[a5];exact J.kp);clear e7 J HA b0 a5;go_wp2_with fail
    go_loopw [61] (fun iv wr=>AdR2 w5 s bm bg room S1 G F (.slice ad F.length cp) iv wr/\RK w1 wr) (fun iv _=>F.length - (intOf iv).toNat)
    case atStart=>exact⟨⟨0,cC _,rfl,b3.o⟩,by rw[<-i6.o];exact d8.o⟩
    case round =>
     obtain⟨⟨i,k8,rfl,J⟩,b6⟩:=hrel
     have a3:=Hd b6;clear b6
     by_cases hlt2:i < F.length
     ·have b1:(i:Int) < (F.length:Int):=vO
      obtain⟨x,q⟩:∃ x,F[i]?=some x:=⟨_,bA hlt2⟩
      obtain⟨ax,cx,hh,E⟩:=(jhl J.row).slice
      obtain⟨c3,c4,a7,a8⟩:=E i x q
      subst a7;cases hh
      obtain⟨y,hy⟩:=dB.1 (e8.o x (bI q))
      obtain⟨G',d1,f7⟩:=J.gv
      have hk:=f7 x.data.toList;rw[hy]at hk
      obtain⟨y',d2,hk⟩:=fA.1 hk
      have a6:=d1.look x false;rw[d2]at a6;unfold ptrO at a6;simp only[cG,if_false]at a6
      obtain⟨rv,f8,c6⟩:=(d1.items y' (jaF d2).1).cells
      have f9:y'.2.2.refs=jb4 G x:=by rw[jfz hy];exact congrArg (fun z=>z.2.2) hk
      obtain⟨R,hR⟩:=vE (jb4 G x)
      rw[f9, <-hR]at c6
      obtain⟨ar,cr,rfl⟩:=jaK c6
      have qr:=f8.cell (i:=1) (v:=.slice ar R.length cr) vF
      obtain⟨T,hT⟩:=vE ((F.take i).flatMap (jb4 G))
      have i7:=Hd (show (F.take (i+1)).flatMap (jb4 G)=T++R by rw[cB,q,dK,hT,hR];simp);have i8:=Hd (show T.length<=16000 by
       have:=jgV c1.o (F.take i)
       rw[hT];rw[dS]at this;omega)
      have g0:=Hd (show R.length<=16 by rw[hR,jfz hy];exact c1.o.refs y (jaF hy).1);have i9:Hid (∀ r∈R,(atL S1 r.data.toList).isSome=true):=(fun r hr=>i5.o r (cI.2 ⟨x,bI q,by rw[<-hR];exact hr⟩));rw[<-hT]at J;have g1:=Hd (show AdR3 w5 s bm bg room S1 G F (.slice (some ⟨c3,c4,none⟩) F.length cp) T R (.slice ar R.length cr) (.int .i64 0) wr from⟨0,cC _,rfl,by rw[iH,bR];exact J,c6⟩)
      obtain⟨yb,a9⟩:=vE y'.2.1
      rw[<-a9]at a6 qr;clear E q hy d1 f7 hk d2 f8 c6 f9 hR hT J a9;go_wp2_with fail
      go_loopw [72] (fun jv g2=>AdR3 w5 s bm bg room S1 G F (.slice (some ⟨c3,c4,none⟩) F.length cp) T R (.slice ar R.length cr) jv g2/\RK w1 g2) (fun jv _=>R.length - (intOf jv).toNat)
      case atStart=>exact⟨g1.o,a3.o⟩
      case round =>
       obtain⟨⟨j,hj,rfl,hB,c7⟩,b7⟩:=hrel
       have b8:=Hd b7;clear b7
       by_cases hlt3:j < R.length
       ·have b2:(j:Int) < (R.length:Int):=vO
        obtain⟨z,hz⟩:∃ z,R[j]?=some z:=⟨_,bA hlt3⟩
        obtain⟨k9,l0,j0,Z⟩:=(jhl c7).slice
        obtain⟨l1,l2,d9,k4⟩:=Z j z hz
        subst d9;cases j0;have qs:=hB.st.st.cell (i:=1) (v:=.map (some bm)) vF
        obtain⟨zb,u,e0,qu,fu,j1,j2,g3,a1⟩:=hB.bump HU.o (by have:=i8.o;have:=g0.o;rw[bG,dS];omega) z (i9.o z (bI hz))
        have l3:=g0.o;have j3 : -9223372036854775808<=u+1:=vO
        have j4:u+1<=9223372036854775807:=vO
        have g4:=Hd (bB (show Ad2 w5 s bm bg room S1 G F (.slice (some ⟨c3,c4,none⟩) F.length cp) (T++R.take (j+1)) _ by rw[cB,hz, <-bX];exact g3) (a1 _ _ _ c7));clear Z hz hB c7 g3 a1 a6 qr;go_wp2_with fail
        go_roundw
        case rel=>exact⟨⟨j+1,by omega,by go_num,g4.o.1,g4.o.2⟩,b8.o.set zb (.inl rfl) _⟩
        case measure=>exact vJ
       ·have j5:j=R.length:=vO
        subst j5;rw[cF, <-i7.o]at hB;have j6:=Hd hB;clear hB c7 g1 a6 qr;go_wp2_with fail
        go_roundw
        case rel=>exact⟨⟨i+1,by omega,by go_num,j6.o⟩,b8.o⟩
        case measure=>exact vJ
     ·have e1:i=F.length:=vO
      subst e1;rw[cF]at J;have l4:=Hd J;have a2:(atL S1 rt.data.toList).isSome=true:=by
       rw[c5.o,O.o];exact jiC HP.o (by rw[HP.o.is];exact bF)
      have j7:=Hd (show ∀ x∈S1,0<=x.2.2.held/\x.2.2.held<=1000000000 from fun x q=>by
       rw[c5.o]at q;rcases bO.1 q with q | q
       ·exact d3.o x q
       ·obtain⟨t,ht,_,e⟩:=jc2 H.o.is (jbZ q).1
        rw[e];exact⟨Int.le_refl _,by show (0:Int)<=1000000000;decide⟩)
      have qs:=J.st.st.cell (i:=1) (v:=.map (some bm)) vF
      obtain⟨zb,u,e0,qu,fu,j1,j2,g5,g6⟩:=J.hold j7.o rt a2
      have j3 : -9223372036854775808<=u+1:=vO
      have j4:u+1<=9223372036854775807:=vO
      have j8:=Hd g5;have j9:=Hd (((H.o.ext.trans HF.o.ext).trans a4.o).mono (G:=fun z=>z=bm\/z∈S.map (·.2.1)) (fun _ _ g=>g.elim));have k0:=Hd g6;have k1:=Hd f6.o;clear J b3 f6 g5 g6 a2;go_wp2_with fail
      go_ret2;refine .inr ⟨top,G,M,X.o,H.o.is,b4.o,H.o.news,by rw[<-c0.o];exact HP.o,by rw[<-O.o, <-HM.o];exact Int.not_lt.2 hfull,by rw[c0.o];rfl,?_,?_,((RK.refl w).ext h3.o).trans (a3.o.set zb (.inr rfl) _),g9.o.rk (a3.o.set zb (.inr rfl) _) h2.o⟩
      ·rw[<-O.o, <-c5.o, <-c0.o];exact j8.o
      ·refine (jad.trans' (F:=fun z=>z=bm\/z∈S.map (·.2.1)) j9.o k1.o (fun z hz e=>.inl e)).trans' k0.o (fun z hz e=>?_)
       rw[c5.o,bY]at e;rcases bO.1 e with e | e
       ·exact .inr e
       ·obtain⟨y,hy,rfl⟩:=bC.1 e
        have:=H.o.news y (jbZ hy).1
        omega
def ComP(w:vW)(s bm:Nat)(room:Int)(S:vT)(l:vL)(cs:List Chg)(e:Ending)(w':vW):Prop:=
 (jbf l cs≠0/\e=.returned (.tuple #[.string ⟨#[]⟩,.int .i64 (jbf l cs)])/\Ext w w')\/(jbf l cs=0/\∃ w1,Ext w w1/\jkL False w1 s bm room S (newM S (ja9 l cs)) e w')
theorem ComP.bad{w w':vW}{s bm:Nat}{room:Int}{S:vT}{l:vL}{cs:List Chg}{x:Int}(h:jbf l cs=x)(h0:x≠0)(hE:Ext w w'):ComP w s bm room S l cs (.returned (.tuple #[.string ⟨#[]⟩,.int .i64 x])) w':=by
 subst h;exact .inl ⟨h0,rfl,hE⟩
theorem ComP.go{w w1 w':vW}{s bm:Nat}{room:Int}{S:vT}{l:vL}{cs:List Chg}{L:vM}{e:Ending}(h:jbf l cs=0)(hL:L=newM S (ja9 l cs))(hE:Ext w w1)(hA:jkL False w1 s bm room S L e w'):ComP w s bm room S l cs e w':=by
 subst hL;exact .inr ⟨h,w1,hE,hA⟩
theorem jrX{S:vT}{m:vL}(h:jat m=0):(newM S m).length<=119:=by
 unfold newM;rw[bQ];have e:=jlk S (belowM m);have o:=jkU h;omega
theorem jrY{S:vT}{m:vL}(h:jat m=0){t:vB}(ht:t∈newM S m):t∈jam (jau m):=by
 unfold newM at ht;have e:jam (jau m)=(jau m).text :: belowM m:=by rw[jjN h];show jam (.mk _ _)=_;rw[jam];rfl
 rw[e];rcases bK.1 ht with rfl | ht
 ·exact bF
 ·unfold freshU at ht
  exact bD _ ((jaN _ _).1 (cH.1 ht).1)
theorem jrZ{S:vT}{m:vL}(h:jat m=0):∀ t∈newM S m,∃ n,jbj t n:=fun t e=>by
 obtain⟨n,o,_⟩:=(jf5 h).node t ((jaN _ _).2 (jrY h e))
 exact⟨n,o⟩
theorem jtt(w:vW)(hc:jbS w)(he:ErrT w)(s bm:Nat)(room:Int)(S:vT)(hs:jaz w s bm room S)(hN:jhM S)(l:vL)(h:HasM S l)(u:vV)(cs:List Chg)(hu:RdC w u cs)(hnc:cs.length<=9223372036854775807)(hsc:∀ c∈cs,c.key.size<=9223372036854775807/\c.value.size<=9223372036854775807)(hr0:0<=room)(hr1:room<=9223372036854775807)(hS:S.length<=100000)(hSu:∀ x∈S,0<=x.2.2.used/\x.2.2.used<=1000000000)(hSh:∀ x∈S,0<=x.2.2.held/\x.2.2.held<=1000000000) :
  vQ 20 #[.pointer (some ⟨s,0,none⟩),.string (rootM l),u] w (ComP w s bm room S l cs):=by
 have HU:=Hd (jyJ w hc he s bm room S hs hN l h u cs hu hnc hsc);have O:=Hd (bB hc he);have a4:=Hd hs;have HB:=Hd (bB hS (bB hSu hSh));have HR:=Hd (bB hr0 hr1)
 obtain⟨a,c,a5⟩:=hu.sl
 subst a5
 obtain⟨rt,Q⟩:=vE (rootM l)
 rw[<-Q]at HU ⊢;clear Q hs hN h hc he hu hnc hsc hS hSu hSh hr0 hr1;go_enter Tryz.func20,Tryz.ntmps20;go_wp2_with fail
 refine HU.o.mono ?_;rintro e w1 X;unfold UpdP at X
 by_cases h0:jbf l cs=0
 case neg =>
  rw[if_neg h0]at X
  obtain⟨rfl,hE⟩:=X
  have H:=Hd hE
  obtain⟨x0,J⟩:=vE (jbf l cs)
  have a6:=Hd J.symm;rw[<-J]at h0 ⊢;have H0:=Hd h0;have a9:(x0 != 0)=true:=by simpa using h0
  have b0:(x0 == 0)=false:=by simpa using h0
  clear hE J h0;go_wp2_with fail
  go_ret2;exact ComP.bad a6.o H0.o H.o
 rw[if_pos h0]at X
 obtain⟨r,rfl,Z⟩:=X
 have H0:=Hd h0;have q:=jdD h0;have q:jat (ja9 l cs)=0:=q;have K:=jrX (S:=S) q;have a0:=Hd Z.rd;have H:=Hd Z.ext;have a1:=Hd (jgK (jrZ (S:=S) q));have z:Hid ((newM S (ja9 l cs))[0]?=some (jau (ja9 l cs)).text):=rfl
 obtain⟨L,hL⟩:=vE (newM S (ja9 l cs))
 rw[<-hL]at a0 a1 z K Z;have a2:=Hd hL;have a7:=Hd K
 obtain⟨a3,c3,e3⟩:=Z.sl
 subst e3
 obtain⟨top,E⟩:=vE (jau (ja9 l cs)).text
 rw[<-E]at z;clear Z hL h0 q K E;go_wp2_with fail
 refine (jmo w1 (O.o.1.ext H.o) (O.o.2.ext H.o) s bm room S (a4.o.ext H.o) _ L a0.o False a1.o (by have:=a7.o;omega) top z.o HR.o.1 HR.o.2 HB.o.1 HB.o.2.1 HB.o.2.2).mono ?_;intro e w2 hA;have HA:=Hd hA;rcases hA with⟨k,_,_,rfl,_⟩ |⟨_,_,_,_,hY⟩
 ·go_wp2_with fail
  go_ret2;exact ComP.go H0.o a2.o H.o HA.o
 ·have a8:=hY.res
  subst a8;clear hY;go_wp2_with fail
  go_ret2;exact ComP.go H0.o a2.o H.o HA.o
def delL(L:vT)(k:Key):vT:=L.filter fun x => !decide (k=x.1)
theorem jqP(k:Key):∀ L:vT,(L.map (·.1)).Nodup->delV (L.map kvN) k=(delL L k).map kvN
 | [],_=>rfl
 | x :: r,h=>by
  rw[bJ,cZ]at h;rw[bJ,delV];unfold delL
  by_cases e:k=x.1
  ·rw[if_pos (show k=(kvN x).1 from e),iO (by simp[e])]
   congr 1
   symm;rw[gU];intro y o
   have:k≠y.1:=fun q=>h.1 (bC.2 ⟨y,o,by rw[<-q,e]⟩)
   simpa using this
  ·rw[if_neg (show ¬ k=(kvN x).1 from e),iN (by simp[e]),bJ,jqP k r h.2];rfl
theorem jcG.del{W:vW}{bm:Nat}{L:vT}(h:jcG W bm L)(k:vB) :
  ∃ o,(∀ E r,(Builtin.delete_ #[73,E] r #[.map (some bm),.string k]).run Tryz.prog W=.ok (.tuple #[]) (W.putObj bm o))/\jcG (W.putObj bm o) bm (delL L k.data.toList):=by
 obtain⟨Z,ck,H,J⟩:=h.mp
 have q:=J.keys;rw[cT]at q;have q:(L.map (·.1)).Nodup:=q;have K:=J.del k.data.toList;rw[jqP _ L q]at K;have hK:jad (fun z=>z=bm) W (W.putObj bm (.map (Tryz.ES.arr (jcC Z k.data.toList)) ck)):=jad.onePut W bm _;have O:(delL L k.data.toList).Sublist L:=List.filter_sublist
 refine⟨_,fun E r=>jjB Tryz.ES Tryz.uMapIt H k.data.toList E r,⟨_,_,H.put_same _,K⟩,h.blks.sublist (O.map _),fun x hx=>?_⟩
 have Q:=h.items x (O.subset hx);refine Q.keeps hK (fun e=>?_) h.notRow
 obtain⟨_,X,_⟩:=Q.cells
 have e:x.2.1=bm:=e;rw[e]at X
 have:=H.uniq X;cases this
end
section
attribute [local go_sem] Oper.semAt_some
theorem ORow.since{T:TypeId}{sz:Nat}{w0 w1 w:vW}{v:vV}{n:Nat}{xs:List vV}(h:ORow T sz w1 w v n xs)(e:Ext w0 w1):ORow T sz w0 w v n xs:=⟨h.sl,h.own,e.trans h.ext,fun b hb=>bL e.size (h.new b hb)⟩
end
end Go.Proofs.YtmobgkphhbmhbaaGreatDoor
