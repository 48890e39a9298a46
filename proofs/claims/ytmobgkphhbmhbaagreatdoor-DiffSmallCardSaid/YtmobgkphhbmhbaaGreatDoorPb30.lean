/- Lemmas; each is under no condition but those that it states. -/
import Derived.Test.YtmobgkphhbmhbaaGreatDoorPb29
namespace Go.Proofs.YtmobgkphhbmhbaaGreatDoor
set_option linter.unusedSimpArgs false
set_option linter.unusedVariables false
set_option maxRecDepth 100000
set_option maxHeartbeats 16000000
open Go Go.RowKit
section
attribute [local go_sem] Oper.semAt_some
instance decBa (h:vB) (R:vM):Decidable (h∈R):=decidable_of_iff (R.any (fun x=>decide (h=x))=true) (by simp)
structure SetV(es:List EntK)(ck:Nat)(R:vM):Prop where
 same:es.map (fun x=>(x.1,x.2.1))=R.map fun h=>(h.data.toList,Value.int .i64 1)
 born:(es.map (·.2.2)).Nodup
 lt:∀ x∈es,x.2.2 < ck
def SetM(w:vW)(mb:Nat)(R:vM):Prop:=∃ es ck,Blk w mb (.map (Tryz.ES.arr es) ck)/\SetV es ck R
theorem jnj:∀ {es:List EntK} {R:vM},es.map (fun x=>(x.1,x.2.1))=R.map (fun h=>(h.data.toList,Value.int .i64 1))->∀ h:vB,jaS es h.data.toList=if h∈R then some (Value.int .i64 1)else none
 | [],[],_,h=>by simp[jaS]
 | x :: es,[],e,h=>by cases e
 | [],y :: R,e,h=>by cases e
 | x :: es,y :: R,e,h=>by
  rw[bL,bL]at e;injection e with e1 e2;have o:=jnj e2 h;have q:x.1=y.data.toList:=congrArg Prod.fst e1;have z:x.2.1=Value.int .i64 1:=congrArg Prod.snd e1;unfold jaS at o ⊢;rw[fS]
  by_cases hy:h=y
  ·subst hy
   rw[if_pos bD,decide_eq_true q.symm];show some x.2.1=_;rw[z]
  ·rw[decide_eq_false (fun e=>hy (jbW (e.trans q)))]
   simp only;rw[o]
   by_cases hm:h∈R
   ·rw[if_pos hm,if_pos (bC _ hm)]
   ·rw[if_neg hm,if_neg (fun e=>(bJ.1 e).elim hy hm)]
theorem jsw:∀ {es:List EntK} {R:vM},es.map (fun x=>(x.1,x.2.1))=R.map (fun h=>(h.data.toList,Value.int .i64 1))->∀ {h:vB},h ∉ R->∀ (v:vV) (n:Nat),jbj es h.data.toList v n=es++[(h.data.toList,v,n)]
 | [],[],_,h,_,v,n=>rfl
 | x :: es,[],e,h,_,v,n=>by cases e
 | [],y :: R,e,h,_,v,n=>by cases e
 | x :: es,y :: R,e,h,hn,v,n=>by
  rw[bL,bL]at e;injection e with e1 e2;have o:x.1=y.data.toList:=congrArg Prod.fst e1;have q:¬ h=y:=fun e=>hn (by rw[e];exact bD);rw[jbj,if_neg (fun e=>q (jbW (e.trans o))),jsw e2 (fun z=>hn (bC _ z)) v n,cV]
theorem SetV.add{es:List EntK}{ck:Nat}{R:vM}(h:SetV es ck R){k:vB}(hk:k ∉ R):SetV (jbj es k.data.toList (.int .i64 1) ck) (ck+1) (R++[k]):=by
 rw[jsw h.same hk]
 refine⟨by rw[bY,bY,h.same];rfl,?_,fun x o=>?_⟩
 ·rw[bY,dY]
  refine⟨h.born,by simp,fun a q b hb e=>?_⟩
  obtain⟨x,o,rfl⟩:=bH.1 q
  have:=h.lt x o
  simp at hb;omega
 ·rcases bR.1 o with o | o
  ·have:=h.lt x o;omega
  ·rw[bO.1 o];exact Nat.lt_succ_self _
theorem SetV.len{es:List EntK}{ck:Nat}{R:vM}(h:SetV es ck R):es.length=R.length:=by
 have:=congrArg List.length h.same
 simpa using this
def OutM(w:vW)(ov:vV)(out:vM):Prop:=(ov=.map none/\out=[])\/∃ mb,ov=.map (some mb)/\SetM w mb out
theorem SetM.keeps{F:BSet}{w w':vW}{mb:Nat}{R:vM}(h:SetM w mb R)(k:jad F w w')(hF:¬ F mb):SetM w' mb R:=by
 obtain⟨e,o,q,z⟩:=h
 exact⟨e,o,q.keeps k hF,z⟩
theorem SetM.look{w:vW}{mb:Nat}{R:vM}(h:SetM w mb R)(x:vB):(Instr.lookup 98 (.map (some mb)) (.string x) false).run Tryz.prog w=.ok (.int .i64 (if x∈R then 1 else 0)) w:=by
 obtain⟨q,z,e,o⟩:=h
 have:=jcq Tryz.ES Tryz.uMapSI e (Tryz.zeroI w) x.data.toList false
 rw[jnj o.same x]at this
 by_cases hx:x∈R
 ·rw[if_pos hx]at this ⊢;exact this
 ·rw[if_neg hx]at this ⊢;exact this
theorem jpE(w:vW)(x:vB):(Instr.lookup 98 (.map none) (.string x) false).run Tryz.prog w=.ok (.int .i64 0) w:=vY
theorem OutM.look{w:vW}{ov:vV}{out:vM}(h:OutM w ov out)(x:vB):(Instr.lookup 98 ov (.string x) false).run Tryz.prog w=.ok (.int .i64 (if x∈out then 1 else 0)) w:=by
 rcases h with⟨rfl,rfl⟩ |⟨mb,rfl,h⟩
 ·rw[if_neg (cJ)];exact jpE w x
 ·exact h.look x
theorem SetM.put{w:vW}{mb:Nat}{R:vM}(h:SetM w mb R){x:vB}(hx:x ∉ R):∃ w',(Instr.mapUpdate 98 (.map (some mb)) (.string x) (.int .i64 1)).run Tryz.prog w=.ok () w'/\SetM w' mb (R++[x])/\jad (fun z=>z=mb) w w':=by
 obtain⟨q,A,e,o⟩:=h
 have:=jb1 Tryz.ES Tryz.uMapSI e x.data.toList (.int .i64 1)
 rw[jnj o.same x,if_neg hx]at this
 exact⟨_,this,⟨_,_,e.put_same _,o.add hx⟩,jad.onePut _ _ _⟩
def jio(w:vW)(mb:Nat):Nat:=match w.heap[mb]? with | some (.map a _)=>a.size | _=>0
theorem SetM.len{w:vW}{mb:Nat}{R:vM}(h:SetM w mb R):jio w mb=R.length:=by
 obtain⟨e,z,o,q⟩:=h
 unfold jio;rw[show w.heap[mb]?=_ from o];show (Tryz.ES.arr e).size=_;unfold ja1.arr;rw[dB,cC,q.len]
theorem jpu{n:jae}(h:n.refs.length=16):(jaF n).length<=16:=by
 unfold jaF
 have:=iI jcA n.refs
 omega
theorem jnt{ops:Array Oper}{rest:List Oper}{d:Option Tmp}{ty:TypeId}{pos:String}{af:Array Edge}{a:Act}{w1 w0 w:vW}{Q:Exit->Act->vW->Prop}{s x:Operand}{v pv:vV}{n m N:Nat}{xs ys:vM}
  (hR:SRow w0 w v n xs) (hP:SRow w1 w pv m ys) (hN:n+m=N) (hs:a.eval s=v) (hx:a.eval x=pv) (h63:N<=100000000)
  (h:∀ e w',SRow w0 w' e N (xs++ys)->jad (fun b=>v.ownBlock=some b) w w'->(e.ownBlock=v.ownBlock\/∀ b,e.ownBlock=some b->w.heap.size<=b)->wpList Tryz.prog ops Q rest (a.put d e) w') :
  wpList Tryz.prog ops Q (⟨d,.call { callee:=.builtin .append,args:=#[s,x],argTypes:=#[22,22] },ty,pos,af,none⟩ :: rest) a w:=by
 subst hN
 obtain⟨z,⟨rfl,A⟩ |⟨g,E,H,rfl,A,h4,h5,h6,h7⟩⟩:=hP.own
 ·subst A
  have o:ys=[]:=bE (by simpa using z);subst o
  obtain⟨ad,c,rfl⟩:=hR.sl
  have q:n<=c:=jkF hR;refine jf6 Tryz.sStrs hs hx q (h _ _ ?_ (jad.refl _ _) (.inl rfl));rw[bS];exact hR
 ·exact ja7 Tryz.sStrs hR s x rfl hs hx (fun j u J=>hP.own.cells (g:=g) rfl j u J) (fun u K=>by obtain⟨y,_,rfl⟩:=bH.1 K;rfl) z rfl (by unfold maxLen;omega) vO (fun e w' O X Z=>h e w' (by unfold SRow;rw[bY];exact O) X Z)
structure RcR(S:vT)(out Rall:vM)(W:World)(mb:Nat)(tv:Value)(wr:World)(L hs:vM):Prop where
 set:SetM wr mb L
 tod:SRow W wr tv hs.length hs.reverse
 ap:tv.ownBlock≠some mb
 rx:jb3 S out L hs Rall
 le:hs.length<=1+16 * L.length
 ll:L.length<=S.length
 mbn:W.heap.size<=mb
def jw6(S:vT)(out Rall:vM)(W:vW)(mb:Nat)(tv:vV)(wr:vW):Prop:=∃ L hs,RcR S out Rall W mb tv wr L hs
theorem jsd{S:vT}{out L R:vM}(h:jb3 S out L [] R):L=R:=by cases h;rfl
theorem jjz{S:vT}{out L hs R:vM}{h:vB}(k:jb3 S out L (h :: hs) R)(hh:h∈L\/h∈out):jb3 S out L hs R:=by
 cases k with
 | seen _ _ _ _ _ k=>exact k
 | no _ _ _ _ h1 h2=>exact (hh.elim h1 h2).elim
 | go _ _ _ _ _ _ h1 h2=>exact (hh.elim h1 h2).elim
theorem jui{S:vT}{out L hs R:vM}{h:vB}(k:jb3 S out L (h :: hs) R)(h1:h ∉ L)(h2:h ∉ out) :
  h.size=32/\((atL S h.data.toList=none/\jb3 S out L hs R)\/∃ y n,L.length+1<=S.length/\atL S h.data.toList=some y/\jbi y.2.2.text n/\jb3 S out (L++[h]) ((jaF n).reverse++hs) R):=by
 cases k with
 | seen _ _ _ _ h3 _=>exact (h3.elim h1 h2).elim
 | no _ _ _ _ _ _ h3 h4 k=>exact⟨h3,.inl ⟨h4,k⟩⟩
 | go _ _ _ y n _ _ _ h3 h4 h5 h6 k=>exact⟨h3,.inr ⟨y,n,h4,h5,h6,k⟩⟩
theorem SRow.pop{W1 wr:vW}{g c:Nat}{t:vB}{ts:vM}(h:SRow W1 wr (.slice (some ⟨g,0,none⟩) (t :: ts).length c) (t :: ts).length (t :: ts).reverse):SRow W1 wr (.slice (some ⟨g,0,none⟩) ts.length c) ts.length ts.reverse:=by
 have e:=jor (m:=ts.length) h.own (by simp);rw[Nat.mul_one, <-iV,gI,gE (by simp),cD (by simp)]at e
 exact⟨⟨_,_,rfl⟩,e,h.ext,fun b hb=>h.new b hb⟩
theorem SRow.last{W1 wr:vW}{g c:Nat}{t:vB}{ts:vM}(h:SRow W1 wr (.slice (some ⟨g,0,none⟩) (t :: ts).length c) (t :: ts).length (t :: ts).reverse):wr.cell? ⟨g,ts.length,none⟩=some (.string t):=by
 rw[h.own.cellAt ts.length (by simp),bZ,gI,cX (by simp)];simp
theorem RcR.pop{S:vT}{out Rall:vM}{W:vW}{mb g c n:Nat}{wr wr':vW}{L hs:vM}{h:vB}(k:RcR S out Rall W mb (.slice (some ⟨g,0,none⟩) (h :: hs).length c) wr L (h :: hs))(hn:n=hs.length)(hx:jb3 S out L hs Rall)(e:Ext wr wr'):jw6 S out Rall W mb (.slice (some ⟨g,0,none⟩) n c) wr':=by
 subst hn
 refine⟨L,hs,k.set.keeps e (fun h=>h),ORow.mono k.tod.pop e,fun e=>k.ap e,hx,?_,k.ll,k.mbn⟩
 have:=k.le
 simp only[bP]at this;omega
def RchP(W:vW)(R:vM)(e:Ending)(w':vW):Prop:=∃ mb,e=.returned (.map (some mb))/\SetM w' mb R/\Ext W w'
theorem jnP(W:vW)(s bm:Nat)(room:Int)(S:vT)(hs:jaL W s bm room S)(hsl:S.length<=100000)(r:vB)(ov:vV)(out:vM)(ho:OutM W ov out){R:vM}(hR:jb3 S out [] [r] R) :
  vQ 59 #[.pointer (some ⟨s,0,none⟩),.string r,ov] W (RchP W R):=by
 have HS:=Hd hs;have HO:=Hd ho;have HR:=Hd hR;have e5:=Tryz.makeMapSI;clear hs ho hR;go_enter Tryz.func59,Tryz.ntmps59;go_wp2_with fail
 go_step3;go_wp2_with fail
 obtain⟨w2,Z⟩:=vE ((W.alloc (.map #[] 0)).alloc (.cells #[.string r] 9))
 have b0:=Blk.new W (.map #[] 0)
 obtain⟨w1,b6⟩:=vE (W.alloc (.map #[] 0))
 rw[<-b6]at Z b0 ⊢;have hz:w1.heap.size=W.heap.size+1:=by rw[b6,bN]
 have b8:Ext W w1:=by rw[b6];exact (ExtR W).alloc _
 have b9:Ext w1 w2:=by rw[Z];exact (ExtR w1).alloc _
 have c0:SRow W w2 (.slice (some ⟨w1.heap.size,0,none⟩) 1 1) 1 [r]:=by rw[Z];exact ORow.lit #[.string r] b8 vI rfl
 rw[hz]at c0;have d3:SetM w2 W.heap.size []:=⟨[],0,b0.keeps b9 (fun h=>h),rfl,iF,fun x hx=>(cJ hx).elim⟩;rw[<-Z];have H2:=Hd (bB c0 (bB d3 (b8.trans b9)));clear Z b6 b0 b8 b9 c0 d3 e5 hz w1
 obtain⟨O,c2⟩:=vE W.heap.size
 have e6:=Hd c2;rw[<-c2]at H2 ⊢;clear c2;go_step3;go_wp2_with fail
 go_loopw [8] (fun tv wr=>jw6 S out R W O tv wr) (fun tv wr=>(S.length - jio wr O) * 18+lenV tv)
 case atStart=>exact⟨[],[r],H2.o.2.1,H2.o.1,(by intro e;have e:some (O+1)=some O:=e;have:=bV e;omega),HR.o,bM _,cB _,by rw[e6.o];exact bM _⟩
 case round =>
  obtain⟨X,e7⟩:=vE wr
  subst e7
  obtain⟨L,hs,hK⟩:=hrel
  obtain⟨ta,c,rfl⟩:=hK.tod.sl
  have A:=Hd hK;clear hK;cases hs with
  | nil =>
   have d4:=jsd A.o.rx;have HF:=Hd (show SetM X O R/\Ext W X by rw[<-d4];exact⟨A.o.set,A.o.tod.ext⟩);clear d4;rw[show ([]:vM).length=0 from rfl];go_wp2_with fail
   go_ret
   exact⟨_,rfl,HF.o.1,HF.o.2⟩
  | cons h hs =>
   obtain⟨g,rfl⟩:=jgC A.o.tod (by simp)
   obtain⟨n,hn⟩:=vE hs.length
   have HN:=Hd hn;have hl:(h :: hs).length=n+1:=by rw[hn];rfl
   have f6:=A.o.ll;have f7:n<=2000000:=by have:=A.o.le;rw[hl]at this;omega
   have q1:=SRow.last A.o.tod;rw[<-hn]at q1;have c1:(0:Int) < (n:Int)+1:=vO
   have c3:(n:Int)<=(c:Int):=by have:=jkF A.o.tod;rw[hl]at this;omega
   rw[hl];have K:=A.o.set.look h;have E:=(show OutM X ov out by
    rcases HO.o with h |⟨mo,h1,h2⟩
    ·exact .inl h
    ·obtain⟨es,ck,hB,hV⟩:=h2
     exact .inr ⟨mo,h1,es,ck,hB.keeps A.o.tod.ext (fun h=>h),hV⟩).look h
   clear hn hl
   by_cases hL:h∈L
   ·rw[if_pos hL]at K
    have HX:=Hd (jjz A.o.rx (.inl hL));clear hL E;go_wp2_with fail
    go_roundw
    case rel=>exact RcR.pop A.o HN.o HX.o (ExtR X)
    case measure=>simp[lenV]
   ·rw[if_neg hL]at K
    by_cases hO:h∈out
    ·rw[if_pos hO]at E
     have HX:=Hd (jjz A.o.rx (.inr hO));clear hL hO;go_wp2_with fail
     go_roundw
     case rel=>exact RcR.pop A.o HN.o HX.o (ExtR X)
     case measure=>simp[lenV]
    ·rw[if_neg hO]at E
     obtain⟨d5,e8⟩:=jui A.o.rx hL hO
     have d6:=Hd hL;clear hL hO;go_wp2_with fail
     refine vH (jdT X h vO) fun W4 c4=>?_;have d7:=Hd (HS.o.ext (A.o.tod.ext.trans c4));have d8:=Hd d5;clear K E d5 q1;rcases e8 with⟨hy,hx⟩ |⟨y,nd,hl1,hy,hn,hx⟩
     ·have c5:=Hd hx
      have c6:Hid (jgK S (jaC h) none):=.inr ⟨h,d8.o,rfl,.inl ⟨hy,rfl⟩⟩;clear hx hy;go_wp2_with fail
      refine vH (jlj W4 s bm room S d7.o c6.o) fun W8 hE=>?_;have b7:=Hd (c4.o.trans hE);unfold jae.V;go_wp2_with (refine jal Tryz.allocNode rfl rfl ?_;intro W9 a4 a5;refine jah (vs:=jaV.cells) rfl rfl rfl rfl a4 rfl Tryz.szNode jaV.one ?_;intro a6 Q H)
      have J:=Hd (b7.o.trans (a5.trans' H (fun z hz e=>by have e:z=W8.heap.size:=e;omega)));clear a4 a5 Q H;refine (jkf a6).mono ?_;rintro e e9 ⟨rfl,rfl⟩;go_wp2_with fail
      go_roundw
      case rel=>exact RcR.pop A.o HN.o c5.o J.o
      case measure =>
       have e1:=A.o.set.len;have e2:=(A.o.set.keeps J.o (fun h=>h)).len;show (S.length - jio a6 O) * 18+n < (S.length - jio X O) * 18+(n+1);omega
     ·obtain⟨dg,hg⟩:=hn.2
      have a7:=hg.one (inlP dg);have c7:=a7.refs;have d9:=Hd c7;have a8:=Hd (nd.cells_len c7);have HG:=Hd hg;have c5:=Hd hx;have e0:=Hd hl1;have c6:=Hd (show jgK S (jaC h) (some nd)from .inr ⟨h,d8.o,rfl,.inr ⟨y,nd,hy,hn,rfl⟩⟩);clear hx hy hn a7 c7 hg hl1;go_wp2_with fail
      refine vH (jnL W4 s bm room S d7.o c6.o) fun W8 hE=>?_;have b7:=Hd (c4.o.trans hE);unfold jae.V;go_wp2_with (refine jal Tryz.allocNode rfl rfl ?_;intro W9 a4 a5;refine jah (vs:=nd.cells) rfl rfl rfl rfl a4 (by rw[a8.o];rfl) (by rw[a8.o];exact Tryz.szNode) nd.one ?_;intro a6 Q H)
      have a9:Ext W8 a6:=a5.trans' H (fun z hz e=>by have e:z=W8.heap.size:=e;omega);have J:=Hd (b7.o.trans a9);have b1:=Hd Q;clear a4 a5 Q H a9
      obtain⟨nb,e3⟩:=vE W8.heap.size
      have b2:=Hd (show X.heap.size<=nb by have:=b7.o.size;omega);rw[<-e3]at b1 ⊢;clear e3;refine (jg0 a6).mono ?_;rintro e e9 ⟨rfl,rfl⟩;have a2:=A.o.set.keeps J.o (fun h=>h);have a0:=a2.look h;rw[if_neg d6.o]at a0
      obtain⟨c8,c9,a1,a3⟩:=a2.put d6.o
      have f5:O < X.heap.size:=by obtain⟨es,ck,hB,_⟩:=A.o.set;exact hB.lt
      have b3:=Hd a1;have b4:=Hd (b1.o.keeps a3 (fun e=>by have e:nb=O:=e;have:=b2.o;omega));have e4:SRow W X (.slice (some ⟨g,0,none⟩) n c) n hs.reverse:=by have:=SRow.pop A.o.tod;rw[<-HN.o]at this;exact this
      have f8:W.heap.size<=O:=A.o.mbn;have d0:=Hd ((ORow.mono e4 J.o).keeps a3 (fun b hb e=>A.o.ap (by rw[show (Value.slice (some ⟨g,0,none⟩) (h :: hs).length c).ownBlock=some b from hb];exact congrArg some e)) (fun b hb e=>by have e:b=O:=e;omega));clear a2 a1 a3 e4;go_wp2_with (refine jaf 132 (.tmp 10) rfl rfl _ _ rfl (jax c8 nb nd d9.o b4.o) ?_)
      refine (jkd dg nd HG.o c8).mono ?_;rintro e f9 ⟨hv,rfl,hH,_⟩;have g0:=jpu d9.o
      obtain⟨q,hq⟩:=vE (n+(jaF nd).length)
      have HQ:=Hd hq;have HH:=Hd hH;have d1:=Hd (ORow.mono d0.o hH.ext);have d2:=Hd (b3.o.keeps hH.ext (fun h=>h));have f0:q<=100000000:=vO
      clear hH hq c9 a0;go_wp2_with (refine jnt d1.o HH.o HQ.o.symm rfl rfl f0 ?_;intro g1 f1 r1 r2 r3;have f2:=Hd r1;have f3:=Hd r2;have f4:=Hd r3;obtain⟨g2,g3,rfl⟩:=r1.sl;clear r1 r2 r3)
      have b5:=Hd (d2.o.keeps f3.o (fun e=>A.o.ap e));go_roundw
      case rel =>
       have h1:=A.o.le;have h2:=HN.o;simp only[bP]at h1
       refine⟨L++[h],(jaF nd).reverse++hs,b5.o,?_,?_,c5.o,?_,by rw[bF];exact e0.o,A.o.mbn⟩
       ·rw[List.reverse_append,List.reverse_reverse,bF,fP,gN, <-HN.o, <-HQ.o];exact f2.o
       ·intro e
        rcases f4.o with r3 | r3
        ·exact A.o.ap (r3 ▸ e)
        ·have:=r3 O e
         have h5:=HH.o.ext.size;have h6:c8.heap.size ≥ X.heap.size:=by obtain⟨es,ck,hB,_⟩:=b3.o;have:=b4.o.lt;have:=b2.o;omega
         omega
       ·rw[bF,bF,fP];simp;omega
      case measure =>
       have e1:=A.o.set.len;have e2:=b5.o.len;rw[bF]at e2;have h3:=e0.o;have h4:=HQ.o;show (S.length - jio f1 O) * 18+q < (S.length - jio X O) * 18+(n+1);simp at e2;omega
end
section
attribute [local go_sem] Oper.semAt_some
theorem SetV.keysL{es:List EntK}{ck:Nat}{R:vM}(h:SetV es ck R):es.map (·.1)=R.map fun h=>h.data.toList:=by
 have:=congrArg (List.map Prod.fst) h.same
 rw[dE,dE]at this;exact this
def jnu(W:vW)(B:vM)(e:Ending)(w':vW):Prop:=∃ v,e=.returned (.tuple #[v,.int .i64 0])/\SRow W w' v B.length (baL (jej (B.map fun h=>h.data.toList)))
theorem jq6(W:vW)(s bm:Nat)(room:Int)(S:vT)(hs:jaL W s bm room S)(hsl:S.length<=100000)(a b:vB)(h:(jdr S a && jdr S b)=true){A B:vM}(hA:jb3 S [] [] [a] A)(hB:jb3 S A [] [b] B)(hbl:B.length<=100000) :
  vQ 24 #[.pointer (some ⟨s,0,none⟩),.string a,.string b] W (jnu W B):=by
 have hk:([a,b].all (jdr S))=true:=by simpa using h
 have HC:=Hd (fun(v:vV) (W1:vW) (e:Ext W W1) (hv:RdS W1 v [a,b])=>jik W1 s bm room S (hs.ext e) v [a,b] hv (show (2:Nat)<=1000 by decide));rw[hk]at HC;have HA:=Hd (fun(W1:vW) (e:Ext W W1)=>jnP W1 s bm room S (hs.ext e) hsl a (.map none) [] (.inl ⟨rfl,rfl⟩) hA);have HB:=Hd (fun(W1:vW) (e:Ext W W1) (m:Nat) (hm:SetM W1 m A)=>jnP W1 s bm room S (hs.ext e) hsl b (.map (some m)) A (.inr ⟨m,rfl,hm⟩) hB);clear hs h hk hA hB;go_enter Tryz.func24,Tryz.ntmps24;go_wp2_with fail
 refine vH (HC.o _ _ ((ExtR W).alloc _) (jcN W [a,b] _)) fun W2 hE=>?_;have HE:=Hd (((ExtR W).alloc (.cells ([a,b].map Value.string).toArray 9)).trans hE);go_wp2_with fail
 refine (jg0 W2).mono ?_;rintro e W3 ⟨rfl,rfl⟩;go_wp2_with fail
 refine (HA.o W2 HE.o).mono ?_;rintro e W4 ⟨ma,rfl,a8,a9⟩;have b0:=Hd a8;have b1:=Hd (HE.o.trans a9);clear a8 a9;go_wp2_with fail
 refine (HB.o W4 b1.o ma b0.o).mono ?_;rintro e w1 ⟨mb,rfl,c2,b2⟩;have b3:=Hd (b1.o.trans b2)
 obtain⟨es,ck,hm,hv⟩:=c2
 have c7:=jmh Tryz.ES Tryz.uMapSI hm;have b4:es.length=B.length:=hv.len;have HM:=Hd hv;have b5:=Hd hm;clear b2 hm hv HA HB HC b0;go_wp2_with fail
 obtain⟨r,hr⟩:=vE w1.heap.size
 have HR:=Hd hr;rw[<-hr];clear hr;go_loopw [8] (fun v wr=>jym w1 r mb ck es v wr) (fun v _=>B.length - slN v)
 case atStart =>
  refine⟨[],⟨ORow.nil _ _ ((ExtR w1).alloc _),?_,fun x hx=>(by cases hx),iF,fun b hb e=>(by cases hb)⟩⟩
  rw[HR.o];exact Blk.new w1 _
 case round =>
  obtain⟨q,E⟩:=hrel
  obtain⟨ad,cp,rfl⟩:=E.row.sl
  have Q:=(b5.o).keeps E.row.ext (fun g=>g);have a4:q.length<=es.length:=E.len;rcases joH Tryz.ES Q E.it HM.o.lt 0 with⟨hl0,hnx⟩ |⟨x,hxl,w2,hnx,hr2,hk2⟩
  ·have hp:=E.done hl0 HM.o.born
   have a0:q.length=B.length:=by rw[hp.length_eq,b4]
   have b6:jej (q.map (·.1))=jej (B.map fun h=>h.data.toList):=by
    rw[jjG (hp.map _),HM.o.keysL]
   have c3:=Hd b6;have H:=Hd (show ORow 9 1 w1 wr (.slice ad q.length cp) q.length ((q.map (·.1)).map encStr)from E.row);have a2:=Hd a0;clear E Q hp b6 a0 hl0;go_wp2_with fail
   refine vC (ju6 H.o (by rw[a2.o];omega)) fun w3 X=>?_;rw[c3.o]at X;rw[a2.o]at X ⊢;have c4:=Hd X;clear X H a2;go_wp2_with fail
   go_ret2
   refine⟨_,rfl,?_⟩
   unfold SRow;rw[jqq];have h3:=c4.o
   exact⟨h3.sl,h3.own,b3.o.trans h3.ext,fun b hb=>bK b3.o.size (h3.new b hb)⟩
  ·have c8:w1.heap.size<=r:=by rw[HR.o];exact bM _
   have c9:=b5.o.lt;have b7:=Q.keeps hk2 (fun e=>by have e:mb=r:=e;omega);have a3:x∈es:=(cH.1 hxl).1;have b8:x.2.2 ∉ q.map (·.2.2):=by have:=(cH.1 hxl).2;simpa [jjR]using this
   have b9:=jmg Tryz.ES b7 a3 hr2 HM.o.born;have J:((q++[x]).map (·.2.2)).Nodup:=by
    rw[bY,dY]
    exact⟨E.nd,by simp,fun a ha b hb e=>by simp at hb;subst hb;subst e;exact b8 ha⟩
   have K:∀ y∈q++[x],y∈es:=fun y hy=>by
    rcases bR.1 hy with hy | hy
    ·exact E.sub y hy
    ·simp at hy;exact hy ▸ a3
   have a5:q.length+1<=B.length:=by
    have:=gD (jgt _ J) (fun y hy=>K y hy)
    rw[b4]at this;simpa using this
   have z:ORow 9 1 w1 w2 (.slice ad q.length cp) q.length (keyS q):=E.row.keeps hk2 (fun b hb e=>E.ne b hb e) (fun b hb e=>by have e:b=r:=e;omega);have a1:Blk w2 r (.mapIter (some mb) ck (jjR (q++[x])) ck):=by
    have e:jjR (q++[x])=(jjR q).push x.2.2:=by unfold jjR;simp
    rw[e];exact hr2
   have O:=Hd (bB J (bB K E.ne));have H:=Hd z;have c5:=Hd a1;have c0:q.length+1<=maxLen:=by unfold maxLen;omega
   have c1:(q.length+1) * 16<=140737488355328:=vO
   have d0:=hr2.lt
   obtain⟨kx,Z⟩:=vE x.1
   have c6:=Hd Z;have a6:(Instr.entry (.pointer (some ⟨r,0,none⟩))).run Tryz.prog w2=.ok (.tuple #[encStr kx,x.2.1]) w2:=by rw[Z];exact b9
   have a7:(Instr.next (.pointer (some ⟨r,0,none⟩)) false 0).run Tryz.prog wr=.ok (.tuple #[.bool true,encStr kx,x.2.1]) w2:=by rw[Z];exact hnx
   obtain⟨n,hn⟩:=vE q.length
   have HN:=Hd hn;rw[<-hn]at c0 c1 a5 z H O ⊢;clear E Q b7 hxl hr2 hk2 a3 b8 b9 J K z a1 hnx Z a4 hn;unfold encStr at a6 a7;go_wp2_with (at_builtin;refine ja7 Tryz.sStrs (H.o.mono ((ExtR w2).alloc _)) (.tmp 28) (.tmp 30) rfl rfl rfl (ja5 (Blk.new w2 _)) (news:=[encStr kx]) (by intro u hu;simp at hu;rcases hu with rfl;rfl) rfl rfl c0 c1 ?_;intro v' w' r1 r2 r3)
   have HX:=Hd (bB r1 (bB r2 r3))
   obtain⟨d1,d2,rfl⟩:=r1.sl
   clear r1 r2 r3;go_wp2_with fail
   go_roundw
   case rel =>
    obtain⟨r1,r2,r3⟩:=HX.o
    have d3:=((ExtR w2).alloc (.cells #[.string ⟨kx.toArray⟩] 9)).size
    refine⟨q++[x],?_,?_,O.o.2.1,O.o.1,?_⟩
    ·have e:keyS (q++[x])=keyS q++[encStr kx]:=by unfold keyS;simp[c6.o]
     rw[e,bF, <-HN.o];exact r1
    ·refine (c5.o.alloc _).keeps r2 (fun e=>O.o.2.2 r e rfl)
    ·intro b hb e
     rcases r3 with r3 | r3
     ·exact O.o.2.2 b (r3 ▸ hb) e
     ·have:=r3 b hb;omega
   case measure=>simp[slN];omega
theorem jfy{S:vT}{l:vL}(h:HasM S l):jdr S (rootM l)=true:=by
 obtain⟨y,e,_⟩:=h.has _ (jbS _)
 unfold jdr rootM;rw[show (shaB (jav l).text).data.toList=ky (jav l).text from rfl,e];rfl
theorem jnh{S:vT}{out R:vM}{r:vB}(h:jb3 S out [] [r] R):R.length<=S.length:=
 jhh.len ⟨jix h iF,fun x e=>by
  rcases jma h (fun _=>True) (fun _ _ _ _ _ _ _ _=>trivial) (fun _ _=>trivial) x e with h | h
  ·exact (cJ h).elim
  ·exact h.2.2⟩
def jvg(a b:vL)(B:vM):Prop:=B.Nodup/\∀ k,k∈B↔(∃ t∈jao (jav b),k=shaB t)/\¬ ∃ t∈jao (jav a),k=shaB t
theorem jlv(W:vW)(s bm:Nat)(room:Int)(S:vT)(hs:jaL W s bm room S)(hN:AllN S)(hsl:S.length<=100000){a b:vL}(ha:HasM S a)(hb:HasM S b){U:vM}(hU:InjL U)(h1:∀ x∈jao (jav a),x∈U)(h2:∀ x∈jao (jav b),x∈U) :
  ∃ B,jvg a b B/\vQ 24 #[.pointer (some ⟨s,0,none⟩),.string (rootM a),.string (rootM b)] W (jnu W B):=by
 have q:jhh S []:=⟨iF,fun x H=>(cJ H).elim⟩;have e:∀ l,∀ h∈[rootM l],h.size=32:=fun l h J=>by rw[bO.1 J];exact jbg _
 obtain⟨A,z⟩:=joA hN [] S.length [] [rootM a] q (by simp) (e a)
 obtain⟨B,o⟩:=joA hN A S.length [] [rootM b] q (by simp) (e b)
 have E:∀ k,k∈A↔∃ t∈jao (jav a),k=shaB t:=fun k=>by
  have:=jmb W ha z (fun t _ h=>(cJ h).elim) k
  rw[this]
  exact⟨fun h=>h.1,fun h=>⟨h,cJ⟩⟩
 have K:∀ k,k∈B↔(∃ t∈jao (jav b),k=shaB t)/\¬ ∃ t∈jao (jav a),k=shaB t:=fun k=>by
  have:=jmb W hb o (jt9 W ha.ok hU h1 h2 E) k
  rw[this,E]
 refine⟨B,⟨jix o iF,K⟩,jq6 W s bm room S hs hsl _ _ (by rw[jfy ha,jfy hb];rfl) z o ?_⟩
 have:=jnh o
 omega
noncomputable def makesN(l:vL)(cs:List Chg)(b:vB):Int:=if ja3 l cs=0 then (if rootM (ja2 l cs)=b then 0 else 9)else ja3 l cs
theorem jgo(W:vW)(hc:jbV W)(he:ErrT W)(s bm:Nat)(room:Int)(S:vT)(hs:jaL W s bm room S)(hN:AllN S){l:vL}(hl:HasM S l)(u:vV)(cs:List Chg)(hu:RdC W u cs)(hnc:cs.length<=9223372036854775807)(hsc:∀ c∈cs,c.key.size<=9223372036854775807/\c.value.size<=9223372036854775807)(b:vB) :
  vR 31 #[.pointer (some ⟨s,0,none⟩),.string (rootM l),u,.string b] W (.int .i64 (makesN l cs b)):=by
 obtain⟨a,ha⟩:=vE (rootM l)
 have hk:([a].all (jdr S))=true:=by rw[ha];simpa using jfy hl
 have HC:=Hd (fun(v:vV) (W1:vW) (e:Ext W W1) (hv:RdS W1 v [a])=>jik W1 s bm room S (hs.ext e) v [a] hv (show (1:Nat)<=1000 by decide));rw[hk]at HC;have HU:=Hd (fun(W1:vW) (e:Ext W W1)=>jye W1 (hc.ext e) (he.ext e) s bm room S (hs.ext e) hN l hl u cs (hu.ext e) hnc hsc);rw[<-ha]at HU ⊢;have a0:=Hd hc;clear hs hk hu hc he ha;go_enter Tryz.func31,Tryz.ntmps31;go_wp2_with fail
 refine vH (HC.o _ _ ((ExtR W).alloc _) (jcN W [a] _)) fun W2 hE=>?_;have HE:=Hd (((ExtR W).alloc (.cells ([a].map Value.string).toArray 9)).trans hE);go_wp2_with fail
 refine (jg0 W2).mono ?_;rintro e W3 ⟨rfl,rfl⟩;go_wp2_with fail
 refine (HU.o W2 HE.o).mono ?_;intro e W4 K;unfold UpdP at K
 by_cases h0:ja3 l cs=0
 ·rw[if_pos h0]at K
  obtain⟨r,rfl,z⟩:=K
  obtain⟨A,E⟩:=vE (newM S (ja2 l cs))
  rw[<-E]at z;have H:∃ Z,A=(jav (ja2 l cs)).text :: Z:=⟨_,E⟩;clear E
  obtain⟨Z,rfl⟩:=H
  obtain⟨t,ht⟩:=vE (jav (ja2 l cs)).text
  rw[<-ht]at z
  obtain⟨ra,rc,rfl⟩:=z.sl
  obtain⟨g,rfl⟩:=jgC z (by simp)
  have q1:=jed z.own (j:=0) (u:=.string t) vF
  obtain⟨n,hn⟩:=vE Z.length
  rw[show (t :: Z).length=n+1 by rw[hn];rfl];have q:=Hd (HE.o.trans z.ext);have O:makesN l cs b=if shaB t=b then 0 else 9:=by unfold makesN rootM;rw[if_pos h0,ht]
  have J:=Hd O;clear z O hn ht h0;have c1:¬(n:Int)+1=0:=vO
  have c2:((n:Int)+1 == 0)=false:=by simpa using c1
  go_wp2_with fail
  refine vH (of_t _ _ [t] (by simp) (jcN W4 [t] 9) ((a0.o.ext q.o).ext ((ExtR W4).alloc _))) fun W5 a1=>?_;rw[jdN];have Q:=Hd (q.o.trans (((ExtR W4).alloc (.cells ([t].map Value.string).toArray 9)).trans a1))
  by_cases hb:shaB t=b
  ·have hq:((shaB t).toList == b.toList)=true:=by rw[jft];exact decide_eq_true hb
   rw[if_pos hb]at J;clear hb;go_wp2_with fail
   go_ret
   exact⟨by rw[J.o];rfl,Q.o⟩
  ·have hq:((shaB t).toList == b.toList)=false:=by rw[jft];exact decide_eq_false hb
   rw[if_neg hb]at J;clear hb;go_wp2_with fail
   go_ret
   exact⟨by rw[J.o];rfl,Q.o⟩
 ·rw[if_neg h0]at K
  obtain⟨rfl,X⟩:=K
  have q:=Hd (HE.o.trans X);have O:makesN l cs b=ja3 l cs:=by unfold makesN;rw[if_neg h0]
  have J:=Hd O
  obtain⟨x,hx⟩:=vE (ja3 l cs)
  rw[<-hx]at J h0 ⊢;clear O X hx;have c1:(x != 0)=true:=by simpa using h0
  go_wp2_with fail
  go_ret
  exact⟨by rw[J.o];rfl,q.o⟩
def jp6(W:vW)(l:vL)(cs:List Chg)(e:Ending)(w':vW):Prop:=
 if ja3 l cs=0 then OfP W (ja2 l cs) l e w' else e=.returned (.tuple #[.slice none 0 0,.int .i64 (ja3 l cs)])/\Ext W w'
theorem joS(W:vW)(s bm:Nat)(room:Int)(S:vT)(hs:jaL W s bm room S)(hN:AllN S){l:vL}(hl:HasM S l)(u:vV)(cs:List Chg)(hu:RdC W u cs)(hnc:cs.length<=9223372036854775807)(hsc:∀ c∈cs,c.key.size<=9223372036854775807/\c.value.size<=9223372036854775807) :
  vQ 32 #[.pointer (some ⟨s,0,none⟩),.string (rootM l),u] W (jp6 W l cs):=by
 obtain⟨a,ha⟩:=vE (rootM l)
 have hk:([a].all (jdr S))=true:=by rw[ha];simpa using jfy hl
 have z:=jau hl.ok;have q:l.length<=9223372036854775807/\∀ p∈l,p.1.size<=9223372036854775807/\p.2.size<=9223372036854775807:=⟨by have:=z.len;omega,fun p hp=>by have:=z.size p hp;omega⟩;have HC:=Hd (fun(v:vV) (W1:vW) (e:Ext W W1) (hv:RdS W1 v [a])=>jik W1 s bm room S (hs.ext e) v [a] hv (show (1:Nat)<=1000 by decide));rw[hk]at HC;have H:=Hd (fun(W1:vW) (e:Ext W W1)=>jyb W1 s bm room S (hs.ext e) hN l hl);rw[<-ha]at H ⊢;have K:=Hd (fun(W1:vW) (v:vV) (hv:RdP W1 v l) (e:Ext W W1)=>jjN W1 v u l cs hv (hu.ext e) q.1 hnc q.2 hsc);have O:=Hd (bB hl.ok q);clear hs hk hu ha z q;go_enter Tryz.func32,Tryz.ntmps32;go_wp2_with fail
 refine vH (HC.o _ _ ((ExtR W).alloc _) (jcN W [a] _)) fun W2 hE=>?_;have HE:=Hd (((ExtR W).alloc (.cells ([a].map Value.string).toArray 9)).trans hE);go_wp2_with fail
 refine (jg0 W2).mono ?_;rintro e W3 ⟨rfl,rfl⟩;go_wp2_with fail
 refine (H.o W2 HE.o).mono ?_;rintro e W4 ⟨v,rfl,hV⟩;have HV:=Hd hV;have J:=Hd (HE.o.trans hV.ext);clear hV;go_wp2_with fail
 refine (K.o W4 v HV.o.rd J.o).mono ?_;intro e W5 Q;unfold jdK at Q
 by_cases h0:ja3 l cs=0
 ·rw[if_pos h0]at Q
  have H0:=Hd h0
  obtain⟨r,rfl,hR⟩:=Q
  have HR:=Hd (show ERow W4 W5 r (ja2 l cs).length (ja2 l cs)from hR);have A:=Hd (J.o.trans hR.ext);have X:jap (ja2 l cs)=0:=jcb h0;have z:=jau X;have q:(ja2 l cs).length<=9223372036854775807/\∀ p∈ja2 l cs,p.1.size<=9223372036854775807/\p.2.size<=9223372036854775807:=⟨by have:=z.len;omega,fun p hp=>by have:=z.size p hp;omega⟩;have a0:=Hd (jqU W5 r v (ja2 l cs) l HR.o.rd (HV.o.rd.ext hR.ext) q.1 O.o.2.1 q.2 O.o.2.2);clear hR h0 X z q;go_wp2_with fail
  refine a0.o.mono ?_;rintro e W8 ⟨u2,rfl,hC⟩;have E:=Hd hC;clear hC;go_wp2_with fail
  go_ret2;unfold jp6;rw[if_pos H0.o]
  exact⟨_,rfl,E.o.sl,E.o.own,A.o.trans E.o.ext,fun b hb=>bK A.o.size (E.o.new b hb)⟩
 ·rw[if_neg h0]at Q
  have H0:=Hd h0
  obtain⟨rfl,Z⟩:=Q
  have A:=Hd (J.o.trans Z)
  obtain⟨x,hx⟩:=vE (ja3 l cs)
  have HX:=Hd hx;rw[<-hx]at h0 ⊢;clear Z hx;have c1:(x != 0)=true:=by simpa using h0
  go_wp2_with fail
  go_ret2;unfold jp6;rw[if_neg H0.o, <-HX.o]
  exact⟨rfl,A.o⟩
def jvm(W:vW)(b c:Nat):Prop:=∃ rv,W.cell? ⟨b,1,none⟩=some rv/\rv.ownBlock=some c
def RK(w W:vW):Prop:=w.heap.size<=W.heap.size/\∀ b,b < w.heap.size->∀ c,jvm W b c->jvm w b c
theorem jlb{W W':vW}{b i:Nat}(h:W'.heap[b]?=W.heap[b]?):W'.cell? ⟨b,i,none⟩=W.cell? ⟨b,i,none⟩:=by unfold World.cell?;rw[h]
theorem RK.refl(w:vW):RK w w:=⟨bM _,fun _ _ _ h=>h⟩
theorem RK.trans{a b c:vW}(h:RK a b)(k:RK b c):RK a c:=⟨bK h.1 k.1,fun x e y r=>h.2 x e y (k.2 x (bQ e h.1) y r)⟩
theorem RK.keeps{F:BSet}{w W W':vW}(h:RK w W)(k:jad F W W')(hF:∀ b,F b->w.heap.size<=b):RK w W':=⟨bK h.1 k.size,fun b hb c r=>by
 obtain⟨o,e,q⟩:=r
 rw[jlb (k.block b (bQ hb h.1) (fun f=>by have:=hF b f;omega))]at e;exact h.2 b hb c ⟨o,e,q⟩⟩
theorem RK.ext{w W W':vW}(h:RK w W)(e:Ext W W'):RK w W':=h.keeps e (fun _ f=>f.elim)
theorem RK.put{w W W':vW}{bm:Nat}{es:Array MapEntry}{ck:Nat}(h:RK w W)(k:jad (fun z=>z=bm) W W')(hm:Blk W' bm (.map es ck)):RK w W':=⟨bK h.1 k.size,fun b hb c r=>by
 obtain⟨q,o,A⟩:=r
 by_cases e:b=bm
 ·subst e
  unfold World.cell? at o;rw[show W'.heap[b]?=_ from hm]at o;cases o
 ·rw[jlb (k.block b (bQ hb h.1) e)]at o
  exact h.2 b hb c ⟨q,o,A⟩⟩
theorem RK.set{w W:vW}(h:RK w W)(zb:Nat){f:Nat}(hf:f=2\/f=3)(v:vV):RK w (W.setCell ⟨zb,f,none⟩ v):=⟨by rw[gF];exact h.1,fun b hb c r=>by
 obtain⟨q,o,z⟩:=r
 rw[World.cell?_setCell_other _ _ _ _ (fun e=>by have:=congrArg Addr.off e;rcases hf with rfl | rfl <;> cases this)]at o;exact h.2 b hb c ⟨q,o,z⟩⟩
def jmw(w W:vW)(G:vT):Prop:=∀ x∈G,∀ c,jvm W x.2.1 c->w.heap.size<=c
theorem jmw.rk{w W W':vW}{G:vT}(h:jmw w W G)(hk:RK W W')(hl:∀ x∈G,x.2.1 < W.heap.size):jmw w W' G:=fun x e c r=>h x e c (hk.2 _ (hl x e) c r)
def jw7(w:vW)(bg:Nat)(L:vM)(iv:vV)(W:vW):Prop:=∃ i:Nat,i<=L.length/\iv=.int .i64 i/\(∀ t∈L.take i,∃ n,jbi t n)/\∃ G,ReS w bg G (L.take i) W/\jmw w W G
def AnyQ(Q:Prop)(L:vM):Prop:=∀ t∈L,(∃ n,jbi t n)\/(GetE t/\Q)
theorem jgN{L:vM}(h:∀ t∈L,∃ n,jbi t n):AnyQ False L:=fun t e=>.inl (h t e)
def RdA(Q:Prop)(w:vW)(L:vM)(e:Ending)(w':vW):Prop:=(e=.returned (.tuple #[.map none,.int .i64 2])/\Ext w w'/\Q)\/((∀ t∈L,∃ n,jbi t n)/\∃ bg G,e=.returned (.tuple #[.map (some bg),.int .i64 0])/\ReS w bg G L w'/\jmw w w' G)
theorem joN{L:vM}{i:Nat}{t:vB}{P:vB->Prop}(h:∀ x∈L.take i,P x)(ht:L[i]?=some t)(hp:P t):∀ x∈L.take (i+1),P x:=fun x e=>by
 rw[cE,ht]at e;rcases bR.1 e with e | e
 ·exact h x e
 ·have e:x∈[t]:=e
  rw[bO.1 e];exact hp
theorem jsA(w:vW)(hc:jbV w)(hGE:ErrT w)(v:vV)(L:vM)(hv:RdS w v L)(hl:L.length<=1000)(h0:L≠[])(Q:Prop)(hN:AnyQ Q L) :
  vQ 42 #[v] w (RdA Q w L):=by
 have f7:0 < L.length:=gB.2 h0
 obtain⟨a,c,rfl,_⟩:=hv.slice
 have e9:=Hd hv;have HC:=Hd hc;have HN:=Hd hN;have f0:=Hd hGE;have f1:=Tryz.makeMapIt w;clear hv hc hN h0 hGE;have f8:((L.length:Int) == 0)=false:=by simpa using (by omega:L.length≠0)
 go_enter Tryz.func42,Tryz.ntmps42;go_wp2_with fail
 obtain⟨bg,b8⟩:=vE w.heap.size
 have d6:=Hd b8;rw[<-b8];clear b8 f1;go_loopw [16] (fun iv wr=>jw7 w bg L iv wr) (fun iv _=>L.length - (intOf iv).toNat)
 case atStart =>
  refine⟨0,cB _,rfl,fun t ht=>(by cases ht),[],⟨(ExtR w).alloc _,⟨⟨[],0,?_,MapV.nil 0⟩,by simp,fun x q=>by cases q⟩,rfl,by rw[d6.o];exact bM _,fun x q=>by cases q⟩,fun x q=>by cases q⟩
  rw[d6.o];exact Blk.new w _
 case round =>
  obtain⟨i,hi,rfl,a6,G,hS,d7⟩:=hrel
  have b9:=Hd d7;clear d7;have a7:=Hd a6;have E:=Hd hS;clear hS a6
  by_cases hlt:i < L.length
  ·have b1:(i:Int) < (L.length:Int):=vO
   obtain⟨t,ht⟩:∃ t,L[i]?=some t:=⟨_,bA hlt⟩
   obtain⟨ax,cx,hh,J⟩:=e9.o.slice
   obtain⟨ba,oa,f2,c0⟩:=J i t ht
   subst f2;cases hh;have q1:=jaa c0 E.o.ext;rcases HN.o t (bI ht)with hnode |⟨hbad,hq⟩
   case inr =>
    have d1:=Hd hbad;have HQ:=Hd hq
    obtain⟨n,hn⟩:=vE jaV
    have Z:=Hd (show n.refs.length=16 by rw[hn];rfl);have hg:=d1.o wr (f0.o.ext E.o.ext);unfold jwT at hg;rw[<-hn]at hg;clear J c0 ht hbad hn hq;go_wp2_with fail
    refine hg.mono ?_;rintro e w4 ⟨rfl,hE⟩;have b4:=Hd (E.o.ext.trans hE);clear hE hg q1;unfold jae.V;go_wp2_with (refine jal Tryz.allocNode rfl rfl ?_;intro W3 b5 b6;refine jah (vs:=n.cells) rfl rfl rfl rfl b5 (by rw[n.cells_len Z.o];rfl) (by rw[n.cells_len Z.o];exact Tryz.szNode) (jae.one _) ?_;intro W4 c1 b7;have K:Ext w4 W4:=b6.trans' b7 (fun x q e=>by have e:x=w4.heap.size:=e;omega))
    go_ret2;exact .inl ⟨rfl,b4.o.trans K,HQ.o⟩
   have a0:=Hd (joN a7.o ht hnode)
   obtain⟨n0,d8⟩:=hnode
   have c2:=jdd d8;have d9:=Hd (jpN ht);have e0:=Hd (show itOf t=⟨t,jaF (nodeOf t),0,0⟩from rfl)
   obtain⟨n,e1⟩:=vE (nodeOf t)
   rw[<-e1]at c2 e0;have f9:=jih c2
   obtain⟨e2,g,hg⟩:=c2
   have HG:=Hd hg;have Z:=Hd ((hg.one (inlP g)).refs);have e3:=Hd e2;clear J d8 e1 e2 hg c0 ht;go_wp2_with fail
   rw[e3.o];refine vH (jji (inlP g) wr n HG.o) fun w4 b4=>?_;rw[<-e3.o];clear q1;unfold jae.V;go_wp2_with (refine jal Tryz.allocNode rfl rfl ?_;intro W3 b5 b6;refine jah (vs:=n.cells) rfl rfl rfl rfl b5 (by rw[n.cells_len Z.o];rfl) (by rw[n.cells_len Z.o];exact Tryz.szNode) (jae.one _) ?_;intro W4 c1 b7;have K:Ext w4 W4:=b6.trans' b7 (fun x q e=>by have e:x=w4.heap.size:=e;omega))
   have c3:=Hd (b4.o.trans K);have e4:=Hd c1;clear b5 b6 c1 b7 K b4;refine vH (of_t _ _ [t] (by simp) (jcN W4 [t] 9) (HC.o.ext ((E.o.ext.trans c3.o).alloc _))) fun w6 hE=>?_;rw[jdN];have c4:=((ExtR W4).alloc (.cells #[.string t] 9)).trans hE;have c5:=Hd (c3.o.trans c4);have f3:=Hd (e4.o.keeps c4 (fun h=>h));have z:=Hd (E.o.keeps c5.o);have A:=z.o.at'.look (shaB t) false;have c6:=Hd (jvr (L:=G) (k:=ky t));have a4:Hid ((shaB t).data.toList=ky t):=rfl;have c7:=Hd (show addG (G.map kvI) t=if (G.map kvI).any (fun x=>decide (ky t=x.1))then G.map kvI else G.map kvI++[(ky t,itOf t)]from rfl);rw[a4.o]at A;simp only[cL,if_false]at A
   obtain⟨sh,e5⟩:=vE (shaB t)
   rw[<-e5]at A a4 ⊢
   obtain⟨kt,e6⟩:=vE (ky t)
   rw[<-e6]at A a4 c6 c7;clear c4 c3 e4 e5 e6;cases ha:atL G kt with
   | some x =>
    rw[ha]at A;unfold ptrO at A;simp only at A;have hz:addG (G.map kvI) t=G.map kvI:=by rw[c7.o,c6.o,ha];rfl
    have HZ:=Hd hz;clear ha hz;go_wp2_with fail
    go_roundw
    case rel =>
     exact⟨i+1,by omega,by go_num,a0.o,G,⟨z.o.ext,z.o.at',by rw[d9.o, <-z.o.is,HZ.o],z.o.new,z.o.news⟩,b9.o.rk ((RK.refl _).ext c5.o) (fun x q=>(E.o.at'.items x q).lt)⟩
    case measure=>exact vJ
   | none =>
    rw[ha]at A;unfold ptrO at A;simp only at A;have hz:addG (G.map kvI) t=G.map kvI++[(kt,itOf t)]:=by rw[c7.o,c6.o,ha];rfl
    have HZ:=Hd hz;have HA:=Hd ha;have a3:=jax w6 _ n Z.o f3.o;unfold jae.V at a3;clear ha hz;go_wp2_with (refine jaf 132 (.tmp 7) rfl rfl _ _ rfl a3 ?_)
    refine (jkd g n HG.o w6).mono ?_;rintro e H ⟨v8,rfl,a5,d2⟩;have c9:=a5.ext;have a1:=a5.new;have a9:=a5.own
    obtain⟨a8,c8,rfl⟩:=a5.sl
    have S8:=z.o.keeps c9;have e7:=S8.at'.ext ((ExtR H).alloc (.cells #[.string t,.slice a8 (jaF n).length c8,.int .i64 0,.int .i64 0] 83));have d0:=Blk.new H (.cells #[.string t,.slice a8 (jaF n).length c8,.int .i64 0,.int .i64 0] 83);have e8:jeI (H.alloc (.cells #[.string t,.slice a8 (jaF n).length c8,.int .i64 0,.int .i64 0] 83)) H.heap.size (itOf t):=by
     rw[e0.o]
     exact⟨_,d0,jbl a9 ((ExtR H).alloc _)⟩
    obtain⟨ob,g0,O⟩:=e7.put sh (by rw[a4.o];exact HA.o) e8 (fun x q e=>by have:=(S8.at'.items x q).lt;omega)
    rw[a4.o]at O;have b0:Ext w ((H.alloc (.cells #[.string t,.slice a8 (jaF n).length c8,.int .i64 0,.int .i64 0] 83)).putObj bg ob):=(S8.ext.alloc _).putObj (.inr S8.new) _;have d3:=S8.ext.size;have b2:RK wr H:=((RK.refl _).ext c5.o).ext c9;have X:∃ es ck,Blk ((H.alloc (.cells #[.string t,.slice a8 (jaF n).length c8,.int .i64 0,.int .i64 0] 83)).putObj bg ob) bg (.map es ck):=by
     obtain⟨es,ck,h1,_⟩:=O.mp
     exact⟨_,ck,h1⟩
    obtain⟨g1,g2,X⟩:=X
    have a2:=(b2.ext ((ExtR H).alloc (.cells #[.string t,.slice a8 (jaF n).length c8,.int .i64 0,.int .i64 0] 83))).put (jad.onePut _ bg ob) X;have b3:=Hd (show jmw w ((H.alloc (.cells #[.string t,.slice a8 (jaF n).length c8,.int .i64 0,.int .i64 0] 83)).putObj bg ob) (G++[(kt,H.heap.size,itOf t)])from fun x q c r=>by
     rcases bR.1 q with q | q
     ·exact b9.o.rk a2 (fun x q=>(E.o.at'.items x q).lt) x q c r
     ·rw[bO.1 q]at r
      obtain⟨rv,r1,r2⟩:=r
      have f4:H.heap.size≠bg:=fun e=>by
       obtain⟨_,_,h1,_⟩:=S8.at'.mp
       have:=h1.lt;omega
      have hq:((H.alloc (.cells #[.string t,.slice a8 (jaF n).length c8,.int .i64 0,.int .i64 0] 83)).putObj bg ob).cell? ⟨H.heap.size,1,none⟩=some (.slice a8 (jaF n).length c8):=(d0.keeps (jad.onePut _ bg ob) f4).cell (i:=1) vF;have r1:_=some rv:=r1;rw[hq]at r1;have e:=bV r1;rw[<-e]at r2
      have:=a1 c r2
      have:=z.o.ext.size
      omega)
    have d4:=Hd b0;have d5:=Hd O;have f5:Hid (w.heap.size<=H.heap.size):=S8.ext.size;clear b2 X a2 d3 b0 O e8 d0 e7 S8 a9 a1 c9 a5 d2 a3 A;go_wp2_with fail
    go_roundw
    case rel =>
     refine⟨i+1,by omega,by go_num,a0.o,G++[(kt,H.heap.size,itOf t)],⟨d4.o,d5.o,?_,z.o.new,?_⟩,b3.o⟩
     ·rw[d9.o, <-z.o.is,HZ.o,bY];rfl
     ·intro x q
      rcases bR.1 q with q | q
      ·exact z.o.news x q
      ·simp only[bO]at q;subst q;exact f5.o
    case measure=>exact vJ
  ·have f6:i=L.length:=vO
   subst f6;have HS:=Hd (show ReS w bg G L wr by have:=E.o;rwa [cG]at this);clear E;go_wp2_with fail
   go_ret2;exact .inr ⟨by have h:=a7.o;rwa [cG]at h,bg,G,rfl,HS.o,b9.o⟩
def okM(S G:vT)(M:vM)(x:vB):Bool:=memB (ja8 M) x ||(atL S x.data.toList).isSome ||(atL G x.data.toList).isSome
theorem joj(w0:vW)(s bm:Nat)(room:Int)(S G:vT)(bg b:Nat)(h:jaL w0 s bm room S)(hG:jdg w0 bg G)(W:vW)(M:vM)(hM:Meet w0 s S bg b M W)(x:vB)(hl:M.length<=1000000) :
  vQ 84 #[.string x,.pointer (some ⟨b+4,0,none⟩),.pointer (some ⟨b,0,none⟩),.pointer (some ⟨b+2,0,none⟩),.pointer (some ⟨b+1,0,none⟩)] W fun e w'=>e=.returned (.bool (okM S G M x))/\Meet w0 s S bg b (M++[x]) w':=by
 have HM:=Hd hM;have HS:=Hd h
 obtain⟨es,ck,h5,h6⟩:=hM.tab
 obtain⟨v,n,h1,h2,h3,h4⟩:=hM.var
 obtain⟨ad,cp,rfl⟩:=jaO h2
 obtain⟨cn,a6⟩:=vE (cntB M x)
 have f0:cn<=1000000:=by
  rw[a6];unfold cntB;refine bK iS ?_;rw[cC];exact hl
 have e6:=h6 x;rw[<-a6]at e6;have d0:(Instr.lookup 98 (.map (some (b+3))) (.string x) false).run Tryz.prog W=.ok (.int .i64 (cn:Int)) W:=by
  have:=jcq Tryz.ES Tryz.uMapSI h5 (Tryz.zeroI W) x.data.toList false
  rw[e6]at this;unfold cntV at this
  by_cases h0:cn=0
  ·rw[if_pos h0]at this;rw[h0];exact this
  ·rw[if_neg h0]at this;exact this
 obtain⟨a7,a0⟩:=vE (jbj es x.data.toList (.int .i64 ((cn:Int)+1)) ck)
 obtain⟨b3,a9⟩:=vE (if (jaS es x.data.toList).isSome then ck else ck+1)
 obtain⟨A,b4⟩:=vE (W.putObj (b+3) (.map (Tryz.ES.arr a7) b3))
 have d1:(Instr.mapUpdate 98 (.map (some (b+3))) (.string x) (.int .i64 ((cn:Int)+1))).run Tryz.prog W=.ok () A:=by
  have:=jb1 Tryz.ES Tryz.uMapSI h5 x.data.toList (.int .i64 ((cn:Int)+1))
  rw[<-a0, <-a9, <-b4]at this;exact this
 have B2:Blk A (b+3) (.map (Tryz.ES.arr a7) b3):=by rw[b4];exact h5.put_same _
 have e7:∀ y:vB,jaS a7 y.data.toList=cntV (cntB (M++[x]) y):=fun y=>by
  rw[a0,jcR,h6 y,jqI]
  by_cases hxy:y.data.toList=x.data.toList
  ·have e1:y=x:=ByteArray.ext (Array.ext' hxy)
   subst e1;rw[if_pos rfl,if_pos rfl, <-a6];unfold cntV;rw[if_neg vO];simp
  ·rw[if_neg hxy,if_neg (fun e=>hxy e.symm)];rfl
 have b0:(Instr.lookup 98 (.map (some (b+3))) (.string x) false).run Tryz.prog A=.ok (.int .i64 ((cn:Int)+1)) A:=by
  have:=jcq Tryz.ES Tryz.uMapSI B2 (Tryz.zeroI A) x.data.toList false
  rw[a0,jcR,if_pos rfl]at this;exact this
 have K2:jad (fun z=>z=b+3) W A:=by rw[b4];exact jad.onePut _ _ _
 have q9:W.cell? ⟨b+4,0,none⟩=some (.map (some (b+3))):=hM.c9.cell (i:=0) vF;have E2:Ext w0 A:=hM.ext.trans' K2 (fun y hy e=>by have e:y=_:=e;have:=hM.lo;omega);have C9:=hM.c9.keeps K2 vO;have f1:A.cell? ⟨b+4,0,none⟩=some (.map (some (b+3))):=C9.cell (i:=0) vF;have C3:=hM.c3.keeps K2 vO;have f2:A.cell? ⟨b,0,none⟩=some (.pointer (some ⟨s,0,none⟩)):=C3.cell (i:=0) vF;have C5:=hM.c5.keeps K2 vO;have V2:=h1.keeps K2 vO;have O2:=ja4 h2 K2 (fun z K e=>by have:=h4 z K;have e:z=_:=e;omega);have f3:A.cell? ⟨b+2,0,none⟩=some (.slice ad n cp):=V2.cell (i:=0) vF;have e5:A.frozen? ⟨b+2,0,none⟩=false:=V2.frozen;have qs:=(h.st.keeps E2 (fun g=>g)).cell (i:=1) (v:=.map (some bm)) vF;have E:=(h.mp.ext E2).look x false;simp only[cL,if_false]at E;have a2:=Hd (show memB (ja8 M) x=true↔cn≠0 from by
  rw[jfs,jaM,a6];unfold cntB;rw[<-Nat.pos_iff_ne_zero,gS,bH]
  exact⟨fun hm=>⟨x,hm,rfl⟩,fun ⟨y,hy,e⟩=>by rw[<-show y=x from ByteArray.ext (Array.ext' e)];exact hy⟩)
 have b7:=Hd (jnZ S M x);have b1:=Hd (show ∃ es ck,Blk A (b+3) (.map (Tryz.ES.arr es) ck)/\∀ y:vB,jaS es y.data.toList=cntV (cntB (M++[x]) y)from⟨a7,b3,B2,e7⟩);have d2:Hid (∀ W3:vW,Ext w0 W3->jdg W3 bg G):=fun _ e=>hG.ext e
 obtain⟨ok,q⟩:=vE (okM S G M x)
 rw[<-q];have a3:=Hd q;clear q;have f4:=Hd K2;have d3:=Hd C3;have d4:=Hd C5;have b5:=Hd C9;have b6:=Hd V2;have d5:=Hd O2;have d6:=Hd E2;have H4:=Hd h4;have H3:=Hd h3;have a4:=Hd hM.lo;have b2:Hid (frK S (M++[x])=frK S M->Meet w0 s S bg b (M++[x]) A):=(fun e=>⟨E2,hM.lo,C3,C5,C9,⟨a7,b3,B2,e7⟩,_,n,V2,by rw[e];exact O2,by rw[bF];omega,h4⟩);clear hM h h1 h2 h4 h5 h6 a6 e6 a0 a9 b4 B2 e7 K2 C3 C5 C9 V2 O2 E2 hG
 by_cases hc0:cn=0
 ·subst hc0
  have d7:memB (ja8 M) x=false:=by
   cases hm:memB (ja8 M) x with
   | false=>rfl
   | true=>exact absurd rfl (a2.o.1 hm)
  have b8:=Hd d7;have e8:(Instr.lookup 98 (.map (some (b+3))) (.string x) false).run Tryz.prog W=.ok (.int .i64 0) W:=d0;have e9:(Instr.mapUpdate 98 (.map (some (b+3))) (.string x) (.int .i64 1)).run Tryz.prog W=.ok () A:=d1;have e0:(Instr.lookup 98 (.map (some (b+3))) (.string x) false).run Tryz.prog A=.ok (.int .i64 1) A:=b0;clear d7 d0 d1 b0;cases hs:atL S x.data.toList with
  | some y =>
   rw[hs]at E;unfold ptrO at E;simp only at E;have a5:=Hd (show frK S (M++[x])=frK S M by rw[b7.o,b8.o,hs];rfl);have q:ok=true:=by rw[a3.o];unfold okM;rw[hs];simp
   subst q;clear hs a3;go_enter Tryz.func84,Tryz.ntmps84;go_wp2_with fail
   go_ret
   exact⟨rfl,b2.o a5.o⟩
  | none =>
   rw[hs]at E;unfold ptrO at E;simp only at E;have a5:=Hd (show frK S (M++[x])=frK S M++[x] by rw[b7.o,b8.o,hs];rfl);have q:ok=(atL G x.data.toList).isSome:=by rw[a3.o];unfold okM;rw[hs,b8.o];simp
   have a1:=Hd q;clear hs a3 q;have d8:n+1<=maxLen:=by have:=H3.o;unfold maxLen;omega
   have d9:(n+1) * 16<=140737488355328:=by have:=H3.o;omega
   cases hyg:atL G x.data.toList with
   | some yg =>
    have b9:=Hd hyg;have q:ok=true:=by rw[a1.o,hyg];rfl
    subst q;clear hyg a1;go_enter Tryz.func84,Tryz.ntmps84
    obtain⟨i0,hi,c0,c1,c2⟩:=info_parts Tryz.infoStr
    go_wp2_with (at_builtin;refine jcY _ rfl (.tmp 24) (.tmp 26) 22 rfl 9 i0 _ 1 16 Tryz.uStrs hi c0 c1 c2 rfl vI (.slice ad n cp) n _ rfl (jbl d5.o ((ExtR A).alloc _)) ⟨A.heap.size,0,none⟩ 1 1 [.string x] rfl rfl (ja5 (Blk.new A _)) (by simp[Value.oneCell']) d8 d9 ?_;intro v' O r1 r2 J;obtain⟨Q,X,rfl⟩:=jaO r1;have K6:jad (fun z=>(Value.slice ad n cp).ownBlock=some z) A O:=((jad.refl _ A).alloc _).trans r2;have nO:∀ z,z < b+5->¬(Value.slice ad n cp).ownBlock=some z:=(fun z K e=>by have:=H4.o z e;omega);have Z:=b6.o.keeps K6 (nO _ vO);have e2:O.cell? ⟨b+2,0,none⟩=some (.slice ad n cp):=Z.cell (i:=0) vF;have e3:O.frozen? ⟨b+2,0,none⟩=false:=Z.frozen;have K7:jad (fun z=>z=b+2) O (O.setCell ⟨b+2,0,none⟩ (.slice Q (n+1) X)):=jad.oneSet O ⟨b+2,0,none⟩ _;have a8:=(d4.o.keeps K6 (nO _ vO)).keeps K7 vO;have e4:=a8.cell (i:=0) (v:=.map (some bg)) vF;have E7:Ext w0 (O.setCell ⟨b+2,0,none⟩ (.slice Q (n+1) X)):=(d6.o.trans' K6 (fun y hy e=>by have:=H4.o y e;have:=a4.o;omega)).trans' K7 (fun y hy e=>by have e:y=_:=e;have:=a4.o;omega);have H:=(d2.o _ E7).look x false;rw[b9.o]at H;unfold ptrO at H;simp only[cL,if_false]at H)
    go_ret
    refine⟨rfl,E7,a4.o,(d3.o.keeps K6 (nO _ vO)).keeps K7 vO,a8,(b5.o.keeps K6 (nO _ vO)).keeps K7 vO,?_,.slice Q (n+1) X,n+1,Z.set_same (i:=0) _,?_,?_,?_⟩
    ·obtain⟨c4,c6,c7,c8⟩:=b1.o
     exact⟨c4,c6,(c7.keeps K6 (nO _ vO)).keeps K7 vO,c8⟩
    ·rw[a5.o,bY]
     refine ja4 r1 K7 (fun z K e=>?_);have e:z=b+2:=e;rcases J with J | J
     ·have:=H4.o z (J ▸ K);omega
     ·have h9:=J z K;rw[bN]at h9;have:=b6.o.lt;omega
    ·have:=H3.o;rw[bF];exact Nat.succ_le_succ this
    ·intro z K
     rcases J with J | J
     ·exact H4.o z (J ▸ K)
     ·have h9:=J z K;rw[bN]at h9;have:=b5.o.lt;omega
   | none =>
    have b9:=Hd hyg;have q:ok=false:=by rw[a1.o,hyg];rfl
    subst q;clear hyg a1;go_enter Tryz.func84,Tryz.ntmps84
    obtain⟨i0,hi,c0,c1,c2⟩:=info_parts Tryz.infoStr
    go_wp2_with (at_builtin;refine jcY _ rfl (.tmp 24) (.tmp 26) 22 rfl 9 i0 _ 1 16 Tryz.uStrs hi c0 c1 c2 rfl vI (.slice ad n cp) n _ rfl (jbl d5.o ((ExtR A).alloc _)) ⟨A.heap.size,0,none⟩ 1 1 [.string x] rfl rfl (ja5 (Blk.new A _)) (by simp[Value.oneCell']) d8 d9 ?_;intro v' O r1 r2 J;obtain⟨Q,X,rfl⟩:=jaO r1;have K6:jad (fun z=>(Value.slice ad n cp).ownBlock=some z) A O:=((jad.refl _ A).alloc _).trans r2;have nO:∀ z,z < b+5->¬(Value.slice ad n cp).ownBlock=some z:=(fun z K e=>by have:=H4.o z e;omega);have Z:=b6.o.keeps K6 (nO _ vO);have e2:O.cell? ⟨b+2,0,none⟩=some (.slice ad n cp):=Z.cell (i:=0) vF;have e3:O.frozen? ⟨b+2,0,none⟩=false:=Z.frozen;have K7:jad (fun z=>z=b+2) O (O.setCell ⟨b+2,0,none⟩ (.slice Q (n+1) X)):=jad.oneSet O ⟨b+2,0,none⟩ _;have a8:=(d4.o.keeps K6 (nO _ vO)).keeps K7 vO;have e4:=a8.cell (i:=0) (v:=.map (some bg)) vF;have E7:Ext w0 (O.setCell ⟨b+2,0,none⟩ (.slice Q (n+1) X)):=(d6.o.trans' K6 (fun y hy e=>by have:=H4.o y e;have:=a4.o;omega)).trans' K7 (fun y hy e=>by have e:y=_:=e;have:=a4.o;omega);have H:=(d2.o _ E7).look x false;rw[b9.o]at H;unfold ptrO at H;simp only[cL,if_false]at H)
    go_ret
    refine⟨rfl,E7,a4.o,(d3.o.keeps K6 (nO _ vO)).keeps K7 vO,a8,(b5.o.keeps K6 (nO _ vO)).keeps K7 vO,?_,.slice Q (n+1) X,n+1,Z.set_same (i:=0) _,?_,?_,?_⟩
    ·obtain⟨c4,c6,c7,c8⟩:=b1.o
     exact⟨c4,c6,(c7.keeps K6 (nO _ vO)).keeps K7 vO,c8⟩
    ·rw[a5.o,bY]
     refine ja4 r1 K7 (fun z K e=>?_);have e:z=b+2:=e;rcases J with J | J
     ·have:=H4.o z (J ▸ K);omega
     ·have h9:=J z K;rw[bN]at h9;have:=b6.o.lt;omega
    ·have:=H3.o;rw[bF];exact Nat.succ_le_succ this
    ·intro z K
     rcases J with J | J
     ·exact H4.o z (J ▸ K)
     ·have h9:=J z K;rw[bN]at h9;have:=b5.o.lt;omega
 ·have f5:¬((cn:Int)+1<=1):=vO
  have a5:=Hd (show frK S (M++[x])=frK S M by rw[b7.o,a2.o.2 hc0];rfl);have q:ok=true:=by rw[a3.o];unfold okM;rw[a2.o.2 hc0];simp
  subst q;clear a3;go_enter Tryz.func84,Tryz.ntmps84;go_wp2_with fail
  go_ret
  exact⟨rfl,b2.o a5.o⟩
structure Fair(G:vT):Prop where
 few:G.length<=1000
 refs:∀ y∈G,y.2.2.refs.length<=16
def has2(S G:vT)(x:vB):Prop:=(atL S x.data.toList).isSome=true\/(atL G x.data.toList).isSome=true
structure jfE(S G:vT)(root:vB)(M:vM)(i:Nat):Prop where
 is:M=root ::((frK S M).take i).flatMap (jca G)
 le:i<=(frK S M).length
 inG:∀ x∈M,has2 S G x
theorem jgW{G:vT}(h:Fair G):∀ l:vM,(l.flatMap (jca G)).length<=16 * l.length
 | []=>by simp
 | x :: r=>by
  have e:=jgW h r
  have:(jca G x).length<=16:=by
   unfold jca;split
   ·rename_i y hy;exact h.refs y (ja6 hy).1
   ·simp
  rw[cF,bF,bP];omega
theorem jfE.len{S G:vT}{root:vB}{M:vM}{i:Nat}(h:jfE S G root M i)(hs:Fair G):M.length<=1+16 * i:=by
 have:=jgW hs ((frK S M).take i)
 rw[fB]at this;have e:=congrArg List.length h.is;rw[bP]at e;omega
theorem jfE.at'{S G:vT}{root:vB}{M:vM}{i:Nat}(h:jfE S G root M i){x:vB}(hx:x∈frK S M):(atL G x.data.toList).isSome=true:=by
 have e:=jfW.1 hx;rcases h.inG x e.1 with h | h
 ·rw[e.2]at h;cases h
 ·exact h
theorem jhv{S G:vT}{M:vM}(h:∀ x∈frK S M,(atL G x.data.toList).isSome=true):(frK S M).length<=G.length:=by
 have q:((frK S M).map fun x=>x.data.toList).Nodup:=by
  have:=jlt S M
  generalize frK S M=l at this;induction l with
  | nil=>simp
  | cons z r ih =>
   rw[dH]at this;rw[bL,dH]
   exact⟨fun A=>by obtain⟨y,o,e⟩:=bH.1 A;exact this.1 (jmF e ▸ o),ih this.2⟩
 have:=gD q (l₂:=G.map (·.1)) (fun k E=>by
  obtain⟨x,H,e⟩:=bH.1 E
  obtain⟨y,o⟩:=dQ.1 (h x H)
  exact bH.2 ⟨y,(ja6 o).1,by rw[(ja6 o).2,e]⟩)
 simpa using this
theorem jfE.step{S G:vT}{root:vB}{M:vM}{i:Nat}(h:jfE S G root M i){x:vB}(hx:(frK S M)[i]?=some x)(hr:∀ r∈jca G x,has2 S G r):jfE S G root (M++jca G x) (i+1):=by
 obtain⟨X,q⟩:=jnY S M (jca G x)
 have z:i < (frK S M).length:=(bU.1 hx).1
 refine⟨?_,?_,?_⟩
 ·have e:(frK S (M++jca G x)).take (i+1)=(frK S M).take i++[x]:=by
   rw[q,gE vO,cE,hx];rfl
  rw[e,dL]
  have:=h.is
  generalize frK S M=l at this;rw[this]
  simp
 ·rw[q,bF];omega
 ·intro y o
  rcases bR.1 o with o | o
  ·exact h.inG y o
  ·exact hr y o
theorem jxW{S G:vT}{M:vM}{x:vB}(h:okM S G M x=true)(hM:∀ y∈M,has2 S G y):has2 S G x:=by
 unfold okM at h;simp only[Bool.or_eq_true]at h;rcases h with (h | h) | h
 ·exact hM x ((jaM _ _).1 ((jfs _ _).1 h))
 ·exact .inl h
 ·exact .inr h
theorem jwd{S G:vT}{M:vM}{x:vB}(h:okM S G M x=false):¬ has2 S G x:=by
 unfold okM at h;simp only[gM]at h;rintro (e | e)
 ·rw[h.1.2]at e;cases e
 ·rw[h.2]at e;cases e
def jw9(w0:vW)(s:Nat)(S G:vT)(bg b:Nat)(root:vB)(wv iv:vV)(W:vW):Prop:=wv=.bool true/\∃ (i:Nat) (M:vM),iv=.int .i64 i/\jfE S G root M i/\Meet w0 s S bg b M W
def jvk(w0:vW)(s:Nat)(S G:vT)(bg b:Nat)(M R:vM)(wv jv:vV)(W:vW):Prop:=wv=.bool true/\∃ j:Nat,jv=.int .i64 j/\j<=R.length/\Meet w0 s S bg b (M++R.take j) W/\∀ r∈R.take j,has2 S G r
def RhP(w0:vW)(S G:vT)(root:vB)(e:Ending)(w':vW):Prop:=(e=.returned (.tuple #[.slice none 0 0,.int .i64 2])/\Ext w0 w'/\∃ x r,r∈jca G x/\¬ has2 S G r)\/∃ v n M,e=.returned (.tuple #[v,.int .i64 0])/\jfE S G root M (frK S M).length/\SRow w0 w' v n (frK S M)
theorem jni(w0:vW)(s bm:Nat)(room:Int)(S G:vT)(bg:Nat)(h:jaL w0 s bm room S)(hG:jdg w0 bg G)(hs:Fair G)(root:vB)(hr:(atL G root.data.toList).isSome=true) :
  vQ 44 #[.pointer (some ⟨s,0,none⟩),.string root,.map (some bg)] w0 (RhP w0 S G root):=by
 have HS:=Hd h;have HG:=Hd hG;have a1:=Hd hs;have HR:=Hd hr;have c3:=Tryz.makeMapSI;clear h hG hs hr;go_enter Tryz.func44,Tryz.ntmps44;go_wp2_with fail
 go_step3;go_wp2_with fail
 refine vC (joj w0 s bm room S G bg w0.heap.size HS.o HG.o _ [] (jrC w0 s S bg) root (by simp)) fun w5 H=>?_;rw[show okM S G [] root=true by unfold okM;rw[HR.o];simp];have HM:=Hd H;clear H c3
 obtain⟨b,hb⟩:=vE w0.heap.size
 rw[show w0.heap.size+1+1+1+1=w0.heap.size+4 from rfl,show w0.heap.size+1+1+1=w0.heap.size+3 from rfl,show w0.heap.size+1+1=w0.heap.size+2 from rfl];rw[<-hb]at HM ⊢;clear hb;go_wp2_with fail
 go_step3;go_wp2_with fail
 go_loopw [11,12] (fun wv iv wr=>jw9 w0 s S G bg b root wv iv wr) (fun _ iv _=>1001 - (intOf iv).toNat)
 case atStart =>
  refine⟨rfl,0,[root],rfl,⟨by simp,cB _,fun x e=>by simp at e;subst e;exact .inr HR.o⟩,HM.o⟩
 case round =>
  obtain⟨rfl,i,M,rfl,Q,H⟩:=hrel
  obtain⟨v,n,A,h2,h3,h4⟩:=H.var
  obtain⟨ad,cp,rfl⟩:=jaO h2
  have hn:(frK S M).length=n:=by have:=h2.1;simpa using this
  have a9:=jhv (S:=S) (M:=M) (fun x e=>Q.at' e);have d6:=a1.o.few;have q8:=A.cell (i:=0) (v:=.slice ad n cp) vF;have Z:=Q.le
  by_cases hlt:i < n
  ·have b1:(i:Int) < (n:Int):=vO
   obtain⟨x,e⟩:∃ x,(frK S M)[i]?=some x:=⟨_,bA vO⟩
   obtain⟨ax,cx,hh,J⟩:=(jjv h2).slice
   obtain⟨ba,oa,c4,b0⟩:=J i x e
   subst c4;cases hh
   obtain⟨y,K⟩:=dQ.1 (Q.at' (bI e))
   have hI:=HG.o.items y (ja6 K).1;have a2:=jfx K;have c6:=a1.o.refs y (ja6 K).1
   obtain⟨rv,b3,a3⟩:=hI.cells
   obtain⟨ar,cr,rfl⟩:=jaO a3
   obtain⟨R,hR⟩:=vE y.2.2.refs
   have Q5:=Hd (H.c5.cell (i:=0) (v:=.map (some bg)) vF);have Q8:=Hd q8;have QA:=Hd b0;have QR:=Hd ((b3.keeps H.ext (fun g=>g)).cell (i:=1) (v:=.slice ar y.2.2.refs.length cr) vF);have b4:=Hd (HG.o.ext H.ext);have HY:=Hd K;have b5:=Hd (fun hr=>Q.step e hr);have c7:=Hd Q.inG;have c8:=Hd (Q.len a1.o);have b6:=Hd (jjv a3);have b7:=Hd H;rw[a2, <-hR]at b5;rw[<-hR]at QR b6 c6;have c9:=Hd (show R=jca G x by rw[hR,a2]);have a8:i<=1000:=vO
   obtain⟨yb,a4⟩:=vE y.2.1
   rw[<-a4]at QR;have d0:=Hd a4;clear a2 hR a4 a3 b3 hI K e J b0 A h2 Q H hn a9 Z;go_wp2_with fail
   refine jak [0,1,2,3,4,5,6,7,8,9,10] Ext ExtR ExtT vY vY vY ?_;refine qKL ⟨b+1,0,none⟩ _ rfl (fun w1 A=>jac Tryz.underlying73 rfl (jaa Q5.o ((jam _).trans A))) ?_;refine vS ?_;refine qKL ⟨b+2,0,none⟩ _ rfl (fun w1 A=>jac Tryz.underlying22 rfl (jaa Q8.o ((jam _).trans A))) ?_;refine vS ?_;iterate 2 refine vK ?_
   refine qKL ⟨ba,oa+i,none⟩ _ rfl (fun w1 A=>jac Tryz.underlying9 rfl (jaa QA.o ((jam _).trans A))) ?_;refine vS ?_;refine jcp _ (.pointer (some ⟨yb,0,none⟩)) rfl vY rfl (fun w1 A=>by
    have e:=(b4.o.ext ((jam _).trans A)).look x false;rw[HY.o]at e;unfold ptrO at e;simp only[cL,if_false]at e;rw[<-d0.o]at e;simp[execOp,Act.eval,e,bT,Result.andThen,cI]) ?_
   refine vS ?_;refine jcp _ (.pointer (some ⟨yb,0,none⟩)) rfl vY rfl (fun w1 _=>by kernel_rfl) ?_;refine vS ?_
   refine vK ?_
   refine qKL ⟨yb,1,none⟩ _ rfl (fun w1 A=>jac Tryz.underlying22 rfl (jaa QR.o ((jam _).trans A))) ?_;refine vS ?_;iterate 2 refine vK ?_
   refine qKE (fun w3 he=>?_);have d1:=Hd (b7.o.keeps ((jam _).trans he));clear he b7 Q5 Q8 QA QR b4 HY q8;go_wp2_with fail
   go_loopw [11,36] (fun wv jv d2=>jvk w0 s S G bg b M R wv jv d2) (fun _ jv _=>R.length - (intOf jv).toNat)
   case atStart=>exact⟨rfl,0,rfl,cB _,by rw[List.take_zero,bS];exact d1.o,fun r hr=>by cases hr⟩
   case round =>
    obtain⟨rfl,j,rfl,hj,E,b8⟩:=hrel
    have O:=Hd b8;clear b8
    by_cases hlt2:j < R.length
    ·have b2:(j:Int) < (R.length:Int):=vO
     obtain⟨z,hz⟩:∃ z,R[j]?=some z:=⟨_,bA hlt2⟩
     obtain⟨d7,d8,d3,q⟩:=b6.o.slice
     obtain⟨d9,e0,a7,a0⟩:=q j z hz
     subst a7;cases d3;have q2:=jaa a0 E.ext;have b9:=Hd hz;have HT:=Hd (show M++R.take (j+1)=M++R.take j++[z] by rw[cE,hz, <-bW];rfl);have HL:=Hd (show (M++R.take j).length<=1000000 by have:=c8.o;rw[bF,fB];omega);have c0:=Hd E;clear q a0 E hz;go_wp2_with fail
     refine vC (joj w0 s bm room S G bg b HS.o HG.o _ _ c0.o z HL.o) fun w9 a5=>?_;rw[<-HT.o]at a5;have X:=Hd a5
     obtain⟨ok,a6⟩:=vE (okM S G (M++R.take j) z)
     rw[<-a6];have c1:=Hd a6;clear a5 c0 q2 a6;cases ok with
     | false =>
      go_wp2_with fail
      go_ret2;exact .inl ⟨rfl,X.o.ext,x,z,by rw[<-c9.o];exact bI b9.o,jwd c1.o.symm⟩
     | true =>
     go_wp2_with fail
     go_roundw
     case rel =>
      refine⟨rfl,j+1,by go_num,by omega,X.o,joN O.o b9.o (jxW c1.o.symm fun y K=>?_)⟩
      rcases bR.1 K with K | K
      ·exact c7.o y K
      ·exact O.o y K
     case measure=>exact vJ
    ·have d4:j=R.length:=vO
     subst d4;rw[cG]at E;have X:=Hd E;clear E;go_wp2_with fail
     go_roundw
     case rel=>exact⟨rfl,i+1,M++R,by go_num,b5.o (by have h:=O.o;rwa [cG]at h),X.o⟩
     case measure=>exact vJ
  ·have c2:i=(frK S M).length:=vO
   have HP:=Hd (show jfE S G root M (frK S M).length by rw[<-c2];exact Q);have d5:=Hd (show SRow w0 wr (.slice ad n cp) n (frK S M)from⟨⟨_,_,rfl⟩,h2,H.ext,fun z hz=>by have:=h4 z hz;have:=H.lo;omega⟩);have b1:¬(i:Int) < (n:Int):=vO
   clear c2 Q H A h2 h4 hn a9 Z;go_wp2_with fail
   go_ret2;exact .inr ⟨.slice ad n cp,n,M,rfl,HP.o,d5.o⟩
theorem jjj{L:vM}{G:vT}(h:G.map kvI=readG L)(hL:∀ t∈L,∃ n,jbi t n)(hl:L.length<=1000):Fair G:=by
 refine⟨?_,fun y o=>?_⟩
 ·have:=(je6 L).2.2
  rw[<-h,cC]at this;exact bK this hl
 ·obtain⟨t,q,_,e⟩:=jc0 h o
  rw[e]
  obtain⟨n,z⟩:=hL t q
  exact jih (jdd z)
theorem jiA{S G:vT}{root:vB}{M:vM}{i:Nat}(h:jfE S G root M i){r:vB}(hr:r∈M):(atL (S++jcO G (frK S M)) r.data.toList).isSome=true:=by
 rw[jxk];cases hs:atL S r.data.toList with
 | some y=>rfl
 | none =>
  obtain⟨y,e⟩:=dQ.1 (h.at' (jfW.2 ⟨hr,hs⟩))
  have o:y∈jcO G (frK S M):=List.mem_filterMap.2 ⟨r,jfW.2 ⟨hr,hs⟩,e⟩;cases hp:atL (jcO G (frK S M)) r.data.toList with
  | some z=>rfl
  | none=>exact absurd (ja6 e).2.symm (jjO.1 hp y o)
structure AddY(w:World)(s bm:Nat)(room:Int)(S:vT)(L:vM)(top:vB)(G:vT)(M:vM)(e:Ending)(w':World):Prop where
 given:G.map kvI=readG L
 nodes:∀ t∈L,∃ n,jbi t n
 news:∀ y∈G,w.heap.size<=y.2.1
 path:jfE S G (shaB top) M (frK S M).length
 fits:¬ room - S.length < (frK S M).length
 res:e=.returned (.tuple #[.string (shaB top),.int .i64 0])
 st:jaL w' s bm room (jjU (shaB top).data.toList (jev ((frK S M).flatMap (jca G)) (S++jcO G (frK S M))))
 kp:jad (fun z=>z=bm\/z∈S.map (·.2.1)) w w'
 rk:RK w w'
 rows:jmw w w' G
def juJ(Q:Prop)(room:Int)(S:vT)(L:vM)(k:Int):Prop:=(k=2/\Q)\/(k=2/\∃ G,G.map kvI=readG L/\∃ x r,r∈jca G x/\¬ has2 S G r)\/(k=3/\∃ top G M,L[0]?=some top/\G.map kvI=readG L/\jfE S G (shaB top) M (frK S M).length/\room - S.length < (frK S M).length)
def jkU(Q:Prop)(w:vW)(s bm:Nat)(room:Int)(S:vT)(L:vM)(e:Ending)(w':vW):Prop:=(∃ k:Int,juJ Q room S L k/\k≠0/\e=.returned (.tuple #[.string ⟨#[]⟩,.int .i64 k])/\Ext w w')\/∃ top G M,L[0]?=some top/\AddY w s bm room S L top G M e w'
theorem jmz(w:vW)(hc:jbV w)(hGE:ErrT w)(s bm:Nat)(room:Int)(S:vT)(h:jaL w s bm room S)(v:vV)(L:vM)(hv:RdS w v L)(Q:Prop)(hL:AnyQ Q L)(hll:L.length<=1000)(top:vB)(htop:L[0]?=some top)(hr0:0<=room)(hr1:room<=9223372036854775807)(hS:S.length<=100000)(hSu:∀ x∈S,0<=x.2.2.used/\x.2.2.used<=1000000000)(hSh:∀ x∈S,0<=x.2.2.held/\x.2.2.held<=1000000000) :
  vQ 14 #[.pointer (some ⟨s,0,none⟩),v] w (jkU Q w s bm room S L):=by
 have h0:L≠[]:=fun e=>by subst e;cases htop
 have k1:0 < L.length:=gB.2 h0
 obtain⟨a,c,rfl,_⟩:=hv.slice
 have HR:=Hd (jsA w hc hGE _ L hv hll h0 Q hL);have HC:=Hd hc;have HV:=Hd hv;have HL:=Hd hL;have HS:=Hd h;have O:=Hd htop;have g7:=Hd hSu;have d2:=Hd hSh;clear hc h hv hL htop h0 hSu hSh;go_enter Tryz.func14,Tryz.ntmps14;go_wp2_with fail
 refine HR.o.mono ?_;rintro e w1 (⟨rfl,hE,hq⟩ |⟨a0,bg,G,rfl,hG,e1⟩)
 ·have HE:=Hd hE
  have HQ:=Hd hq;clear hE HR hq;go_wp2_with fail
  go_ret2;exact .inl ⟨2,.inl ⟨rfl,HQ.o⟩,by decide,rfl,HE.o⟩
 have b3:=Hd a0;have g8:=Hd e1;have g9:Hid (∀ x∈G,x.2.1 < w1.heap.size):=fun x q=>(hG.at'.items x q).lt;have h2:=Hd hG.ext;clear a0 e1
 obtain⟨ax,cx,hh,A⟩:=HV.o.slice
 obtain⟨ba,oa,a6,a7⟩:=A 0 top O.o
 subst a6;cases hh;have q1:=jaa a7 hG.ext;have HG:=Hd hG;rw[gU]at q1;clear A a7 hG HR;go_wp2_with fail
 refine vH (of_t _ _ [top] (by simp) (jcN w1 [top] 9) (HC.o.ext (HG.o.ext.alloc _))) fun w2 hE=>?_;rw[jdN];have c7:=((ExtR w1).alloc (.cells #[.string top] 9)).trans hE;have E:=Hd (HG.o.keeps c7);have h3:=Hd c7
 obtain⟨rt,b8⟩:=vE (shaB top)
 have b9:=Hd b8;have h4:=Hd (show (atL G rt.data.toList).isSome=true by rw[b8];exact jly HG.o.is (bI O.o));rw[<-b8];clear c7 b8 q1;go_wp2_with fail
 have c0:=Hd (jjj E.o.is b3.o hll);have e2:=Hd (HS.o.ext E.o.ext);refine (jni w2 s bm room S G bg e2.o E.o.at' c0.o rt h4.o).mono ?_;rintro e w3 (⟨rfl,hE,e3⟩ |⟨v3,n,M,rfl,hP,hF⟩)
 ·have HE:=Hd (E.o.ext.trans hE)
  have h5:=Hd e3;clear hE e3;go_wp2_with fail
  go_ret2;exact .inl ⟨2,.inr (.inl ⟨rfl,G,E.o.is,h5.o⟩),by decide,rfl,HE.o⟩
 have d3:=jhv (S:=S) (M:=M) (fun x q=>hP.at' q);have k2:=c0.o.few;have hn:(frK S M).length=n:=by have:=hF.len;simpa using this
 obtain⟨ad,cp,rfl⟩:=hF.sl
 have HP:=Hd hP;have HF:=Hd hF
 obtain⟨F,c8⟩:=vE (frK S M)
 rw[<-c8]at HF hn d3;have J:=Hd c8;have h6:=Hd (E.o.keeps hF.ext);have e4:=Hd (e2.o.ext hF.ext);clear hP hF c8;go_wp2_with fail
 refine vH (jwx w3 s bm room S e4.o hr0 hr1 vO) fun w4 Z=>?_
 obtain⟨m,hm⟩:=vE (room - (S.length:Int))
 rw[<-hm];have HM:=Hd hm;clear hm
 by_cases hfull:m < (n:Int)
 ·go_wp2_with fail
  go_ret2;exact .inl ⟨3,.inr (.inr ⟨rfl,top,G,M,O.o,E.o.is,by rw[<-b9.o];exact HP.o,by rw[<-J.o,hn, <-HM.o];exact hfull⟩),by decide,rfl,(E.o.ext.trans HF.o.ext).trans Z.o⟩
 ·have d4:=Hd (show RK w1 w4 from(((RK.refl w1).ext h3.o).ext HF.o.ext).ext Z.o)
  have e5:Ad1 w4 s bm bg room S G F (.slice ad n cp) 0 w4:=⟨jad.refl _ _,by rw[List.take_zero];show jaL w4 s bm room (S++[]);rw[bS];exact e4.o.ext Z.o,h6.o.at'.ext Z.o,by rw[hn];exact jbl HF.o.own Z.o⟩;have e6:=Hd e5;have c1:=HS.o.mp.mp
  obtain⟨_,_,c1,_⟩:=c1
  have g6:=c1.lt;have h7:Hid (∀ z,(Value.slice ad n cp).ownBlock=some z->z≠bm):=(fun z hz e=>by have:=HF.o.new z hz;have:=E.o.ext.size;omega);have h8:Hid (bg≠bm):=(fun e=>by have:=E.o.new;omega);have h9:Hid (∀ x∈S,∀ y∈G,x.2.1≠y.2.1):=(fun x q y hy e=>by have:=(HS.o.mp.items x q).lt;have:=E.o.news y hy;omega);have i0:=Hd (show F.Nodup by rw[J.o];exact jlt S M);have i1:Hid (∀ x∈F,atL S x.data.toList=none):=(fun x q=>by rw[J.o]at q;exact (jfW.1 q).2);have e7:Hid (∀ x∈F,(atL G x.data.toList).isSome=true):=(fun x q=>by rw[J.o]at q;exact HP.o.at' q);have k4:=Hd (HS.o.st);subst hn;clear e5 c1;go_wp2_with fail
  rw[show decide (m < (F.length:Int))=false from decide_eq_false (Int.not_lt.2 hfull)];go_loopw [46] (fun iv wr=>AdR1 w4 s bm bg room S G F (.slice ad F.length cp) iv wr/\RK w1 wr) (fun iv _=>F.length - (intOf iv).toNat)
  case atStart=>exact⟨⟨0,cB _,rfl,e6.o⟩,d4.o⟩
  case round =>
   obtain⟨⟨i,hi,rfl,H⟩,e8⟩:=hrel
   have e9:=Hd e8;clear e8;have HA:=Hd H
   by_cases hlt:i < F.length
   ·have b1:(i:Int) < (F.length:Int):=vO
    obtain⟨x,q⟩:∃ x,F[i]?=some x:=⟨_,bA hlt⟩
    obtain⟨ax,cx,hh,A⟩:=(jjv H.row).slice
    obtain⟨c2,c3,a6,a7⟩:=A i x q
    subst a6;cases hh
    obtain⟨y,hy⟩:=dQ.1 (e7.o x (bI q))
    have Q1:=Hd (H.st.st.cell (i:=1) (v:=.map (some bm)) vF);have f0:=Hd H.gv;have HX:=Hd q;have HY:=Hd hy
    obtain⟨yb,a8⟩:=vE y.2.1
    have f1:=Hd a8;clear A q hy H a8;go_wp2_with fail
    refine jas [0,1,2,3,4,5,6,7,8] [8] Ext ExtR ExtT vY vY vY ?_
    refine vP ?_
    refine qA _ (.pointer (some ⟨s,0,none⟩)) rfl (fun w1=>by kernel_rfl) ?_;refine vS ?_
    refine vP ?_
    refine qL ⟨s,1,none⟩ _ rfl (fun w1 h1=>jac Tryz.underlying73 rfl (jaa Q1.o ((jam _).trans h1))) ?_;refine vS ?_;iterate 3 refine vP ?_
    refine jrE _ (.pointer (some ⟨yb,0,none⟩)) rfl vY rfl (fun w1 h1=>by
     have q:=(f0.o.ext ((jam _).trans h1)).look x false;rw[HY.o]at q;unfold ptrO at q;simp only[cL,if_false]at q;rw[<-f1.o]at q;simp[execOp,Act.eval,q,bT,Result.andThen,cI]) ?_
    refine vS ?_;refine qH _ rfl (fun w5 he K hK=>?_);have f2:=HA.o.ext ((jam _).trans he)
    obtain⟨ob,f3,c9⟩:=f2.put h9.o h8.o h7.o i0.o i1.o HX.o HY.o
    rw[<-f1.o]at f3;have f4:=Hd c9
    obtain⟨k5,k6,b4,_⟩:=c9.st.mp.mp
    have d5:=Hd ((e9.o.ext ((jam _).trans he)).put (jad.onePut _ bm ob) b4);clear b4;clear f2 c9 he HA Q1 f0 a7;go_simp;refine hK _ _ ?_;clear hK K;refine qE (fun w7 he=>?_);have i2:=Hd (f4.o.ext he);have d6:=Hd (d5.o.ext he);clear he f4 f3;go_wp2_with fail
    go_roundw
    case rel=>exact⟨⟨i+1,by omega,by go_num,i2.o⟩,d6.o⟩
    case measure=>exact vJ
   ·have i3:i=F.length:=vO
    subst i3
    obtain⟨S1,a9⟩:=vE (S++jcO G F)
    have c4:=Hd a9;have b0:=Hd (show Ad2 wr s bm bg room S1 G F (.slice ad F.length cp) [] wr from⟨jad.refl _ _,by have:=H.st;rw[cG]at this;rw[a9];exact this,⟨G,H.gv,fun k=>rfl⟩,H.row⟩);have HU:=Hd (show ∀ x∈S1,0<=x.2.2.used/\x.2.2.used<=1000000000 from fun x q=>by
     rw[a9]at q;rcases bR.1 q with q | q
     ·exact g7.o x q
     ·obtain⟨t,ht,_,e⟩:=jc0 E.o.is (jb5 q).1
      rw[e];exact⟨Int.le_refl _,by show (0:Int)<=1000000000;decide⟩)
    have i4:=Hd (show ∀ r∈F.flatMap (jca G),(atL S1 r.data.toList).isSome=true from fun r hr=>by
     rw[a9,J.o];refine jiA HP.o ?_
     have:=HP.o.is
     rw[cG, <-J.o]at this;rw[this];exact bC _ hr)
    obtain⟨w5,a4⟩:=vE wr
    have i5:=Hd a4;have d7:=Hd (show RK w1 w5 by rw[a4];exact e9.o);rw[<-a4]at b0;have b0:=Hd (show Ad2 w5 s bm bg room S1 G F (.slice ad F.length cp) [] wr by rw[<-a4];exact b0.o);have f5:=Hd (show jad (fun z=>z=bm) w4 w5 by rw[a4];exact H.kp);clear e6 H HA a9 a4;go_wp2_with fail
    go_loopw [61] (fun iv wr=>AdR2 w5 s bm bg room S1 G F (.slice ad F.length cp) iv wr/\RK w1 wr) (fun iv _=>F.length - (intOf iv).toNat)
    case atStart=>exact⟨⟨0,cB _,rfl,b0.o⟩,by rw[<-i5.o];exact d7.o⟩
    case round =>
     obtain⟨⟨i,k7,rfl,H⟩,b5⟩:=hrel
     have a3:=Hd b5;clear b5
     by_cases hlt2:i < F.length
     ·have b1:(i:Int) < (F.length:Int):=vO
      obtain⟨x,q⟩:∃ x,F[i]?=some x:=⟨_,bA hlt2⟩
      obtain⟨ax,cx,hh,A⟩:=(jjv H.row).slice
      obtain⟨c2,c3,a6,a7⟩:=A i x q
      subst a6;cases hh
      obtain⟨y,hy⟩:=dQ.1 (e7.o x (bI q))
      obtain⟨G',d0,f6⟩:=H.gv
      have hk:=f6 x.data.toList;rw[hy]at hk
      obtain⟨y',d1,hk⟩:=fA.1 hk
      have a5:=d0.look x false;rw[d1]at a5;unfold ptrO at a5;simp only[cL,if_false]at a5
      obtain⟨rv,f7,c5⟩:=(d0.items y' (ja6 d1).1).cells
      have f8:y'.2.2.refs=jca G x:=by rw[jfx hy];exact congrArg (fun z=>z.2.2) hk
      obtain⟨R,hR⟩:=vE (jca G x)
      rw[f8, <-hR]at c5
      obtain⟨ar,cr,rfl⟩:=jaO c5
      have qr:=f7.cell (i:=1) (v:=.slice ar R.length cr) vF
      obtain⟨T,hT⟩:=vE ((F.take i).flatMap (jca G))
      have i6:=Hd (show (F.take (i+1)).flatMap (jca G)=T++R by rw[cE,q,dL,hT,hR];simp);have i7:=Hd (show T.length<=16000 by
       have:=jgW c0.o (F.take i)
       rw[hT];rw[fB]at this;omega)
      have f9:=Hd (show R.length<=16 by rw[hR,jfx hy];exact c0.o.refs y (ja6 hy).1);have i8:Hid (∀ r∈R,(atL S1 r.data.toList).isSome=true):=(fun r hr=>i4.o r (cO.2 ⟨x,bI q,by rw[<-hR];exact hr⟩));rw[<-hT]at H;have g0:=Hd (show AdR3 w5 s bm bg room S1 G F (.slice (some ⟨c2,c3,none⟩) F.length cp) T R (.slice ar R.length cr) (.int .i64 0) wr from⟨0,cB _,rfl,by rw[List.take_zero,bS];exact H,c5⟩)
      obtain⟨yb,a8⟩:=vE y'.2.1
      rw[<-a8]at a5 qr;clear A q hy d0 f6 hk d1 f7 c5 f8 hR hT H a8;go_wp2_with fail
      go_loopw [72] (fun jv g1=>AdR3 w5 s bm bg room S1 G F (.slice (some ⟨c2,c3,none⟩) F.length cp) T R (.slice ar R.length cr) jv g1/\RK w1 g1) (fun jv _=>R.length - (intOf jv).toNat)
      case atStart=>exact⟨g0.o,a3.o⟩
      case round =>
       obtain⟨⟨j,hj,rfl,hB,c6⟩,b6⟩:=hrel
       have b7:=Hd b6;clear b6
       by_cases hlt3:j < R.length
       ·have b2:(j:Int) < (R.length:Int):=vO
        obtain⟨z,hz⟩:∃ z,R[j]?=some z:=⟨_,bA hlt3⟩
        obtain⟨k8,k9,i9,X⟩:=(jjv c6).slice
        obtain⟨l0,l1,d8,k3⟩:=X j z hz
        subst d8;cases i9;have qs:=hB.st.st.cell (i:=1) (v:=.map (some bm)) vF
        obtain⟨zb,u,d9,qu,fu,j0,j1,g2,a1⟩:=hB.bump HU.o (by have:=i7.o;have:=f9.o;rw[bF,fB];omega) z (i8.o z (bI hz))
        have l2:=f9.o;have j2 : -9223372036854775808<=u+1:=vO
        have j3:u+1<=9223372036854775807:=vO
        have g3:=Hd (bB (show Ad2 w5 s bm bg room S1 G F (.slice (some ⟨c2,c3,none⟩) F.length cp) (T++R.take (j+1)) _ by rw[cE,hz, <-bW];exact g2) (a1 _ _ _ c6));clear X hz hB c6 g2 a1 a5 qr;go_wp2_with fail
        go_roundw
        case rel=>exact⟨⟨j+1,by omega,by go_num,g3.o.1,g3.o.2⟩,b7.o.set zb (.inl rfl) _⟩
        case measure=>exact vJ
       ·have j4:j=R.length:=vO
        subst j4;rw[cG, <-i6.o]at hB;have j5:=Hd hB;clear hB c6 g0 a5 qr;go_wp2_with fail
        go_roundw
        case rel=>exact⟨⟨i+1,by omega,by go_num,j5.o⟩,b7.o⟩
        case measure=>exact vJ
     ·have e0:i=F.length:=vO
      subst e0;rw[cG]at H;have l3:=Hd H;have a2:(atL S1 rt.data.toList).isSome=true:=by
       rw[c4.o,J.o];exact jiA HP.o (by rw[HP.o.is];exact bD)
      have j6:=Hd (show ∀ x∈S1,0<=x.2.2.held/\x.2.2.held<=1000000000 from fun x q=>by
       rw[c4.o]at q;rcases bR.1 q with q | q
       ·exact d2.o x q
       ·obtain⟨t,ht,_,e⟩:=jc0 E.o.is (jb5 q).1
        rw[e];exact⟨Int.le_refl _,by show (0:Int)<=1000000000;decide⟩)
      have qs:=H.st.st.cell (i:=1) (v:=.map (some bm)) vF
      obtain⟨zb,u,d9,qu,fu,j0,j1,g4,g5⟩:=H.hold j6.o rt a2
      have j2 : -9223372036854775808<=u+1:=vO
      have j3:u+1<=9223372036854775807:=vO
      have j7:=Hd g4;have j8:=Hd (((E.o.ext.trans HF.o.ext).trans Z.o).mono (G:=fun z=>z=bm\/z∈S.map (·.2.1)) (fun _ _ g=>g.elim));have j9:=Hd g5;have k0:=Hd f5.o;clear H b0 f5 g4 g5 a2;go_wp2_with fail
      go_ret2;refine .inr ⟨top,G,M,O.o,E.o.is,b3.o,E.o.news,by rw[<-b9.o];exact HP.o,by rw[<-J.o, <-HM.o];exact Int.not_lt.2 hfull,by rw[b9.o];rfl,?_,?_,((RK.refl w).ext h2.o).trans (a3.o.set zb (.inr rfl) _),g8.o.rk (a3.o.set zb (.inr rfl) _) g9.o⟩
      ·rw[<-J.o, <-c4.o, <-b9.o];exact j7.o
      ·refine (jad.trans' (F:=fun z=>z=bm\/z∈S.map (·.2.1)) j8.o k0.o (fun z hz e=>.inl e)).trans' j9.o (fun z hz e=>?_)
       rw[c4.o,bY]at e;rcases bR.1 e with e | e
       ·exact .inr e
       ·obtain⟨y,hy,rfl⟩:=bH.1 e
        have:=E.o.news y (jb5 hy).1
        omega
def ComP(w:vW)(s bm:Nat)(room:Int)(S:vT)(l:vL)(cs:List Chg)(e:Ending)(w':vW):Prop:=
 (ja3 l cs≠0/\e=.returned (.tuple #[.string ⟨#[]⟩,.int .i64 (ja3 l cs)])/\Ext w w')\/(ja3 l cs=0/\∃ w1,Ext w w1/\jkU False w1 s bm room S (newM S (ja2 l cs)) e w')
theorem ComP.bad{w w':vW}{s bm:Nat}{room:Int}{S:vT}{l:vL}{cs:List Chg}{x:Int}(h:ja3 l cs=x)(h0:x≠0)(hE:Ext w w'):ComP w s bm room S l cs (.returned (.tuple #[.string ⟨#[]⟩,.int .i64 x])) w':=by
 subst h;exact .inl ⟨h0,rfl,hE⟩
theorem ComP.go{w w1 w':vW}{s bm:Nat}{room:Int}{S:vT}{l:vL}{cs:List Chg}{L:vM}{e:Ending}(h:ja3 l cs=0)(hL:L=newM S (ja2 l cs))(hE:Ext w w1)(hA:jkU False w1 s bm room S L e w'):ComP w s bm room S l cs e w':=by
 subst hL;exact .inr ⟨h,w1,hE,hA⟩
theorem jg5{S:vT}{m:vL}(h:jap m=0):(newM S m).length<=119:=by
 unfold newM;rw[bP];have e:=jlu S (belowM m);have o:=jk4 h;omega
theorem jrP{S:vT}{m:vL}(h:jap m=0){t:vB}(ht:t∈newM S m):t∈jao (jav m):=by
 unfold newM at ht;have e:jao (jav m)=(jav m).text :: belowM m:=by rw[jhq h];show jao (.mk _ _)=_;rw[jao];rfl
 rw[e];rcases bJ.1 ht with rfl | ht
 ·exact bD
 ·unfold freshU at ht
  exact bC _ ((jaM _ _).1 (cH.1 ht).1)
theorem jrQ{S:vT}{m:vL}(h:jap m=0):∀ t∈newM S m,∃ n,jbi t n:=fun t e=>by
 obtain⟨n,o,_⟩:=(jho h).node t ((jaM _ _).2 (jrP h e))
 exact⟨n,o⟩
theorem jti(w:vW)(hc:jbV w)(he:ErrT w)(s bm:Nat)(room:Int)(S:vT)(hs:jaL w s bm room S)(hN:jhJ S)(l:vL)(h:HasM S l)(u:vV)(cs:List Chg)(hu:RdC w u cs)(hnc:cs.length<=9223372036854775807)(hsc:∀ c∈cs,c.key.size<=9223372036854775807/\c.value.size<=9223372036854775807)(hr0:0<=room)(hr1:room<=9223372036854775807)(hS:S.length<=100000)(hSu:∀ x∈S,0<=x.2.2.used/\x.2.2.used<=1000000000)(hSh:∀ x∈S,0<=x.2.2.held/\x.2.2.held<=1000000000) :
  vQ 20 #[.pointer (some ⟨s,0,none⟩),.string (rootM l),u] w (ComP w s bm room S l cs):=by
 have HU:=Hd (jye w hc he s bm room S hs hN l h u cs hu hnc hsc);have K:=Hd (bB hc he);have a2:=Hd hs;have HB:=Hd (bB hS (bB hSu hSh));have HR:=Hd (bB hr0 hr1)
 obtain⟨a,c,a4⟩:=hu.sl
 subst a4
 obtain⟨rt,O⟩:=vE (rootM l)
 rw[<-O]at HU ⊢;clear O hs hN h hc he hu hnc hsc hS hSu hSh hr0 hr1;go_enter Tryz.func20,Tryz.ntmps20;go_wp2_with fail
 refine HU.o.mono ?_;rintro e w1 Q;unfold UpdP at Q
 by_cases h0:ja3 l cs=0
 case neg =>
  rw[if_neg h0]at Q
  obtain⟨rfl,hE⟩:=Q
  have E:=Hd hE
  obtain⟨x0,H⟩:=vE (ja3 l cs)
  have a5:=Hd H.symm;rw[<-H]at h0 ⊢;have H0:=Hd h0;have a8:(x0 != 0)=true:=by simpa using h0
  have a9:(x0 == 0)=false:=by simpa using h0
  clear hE H h0;go_wp2_with fail
  go_ret2;exact ComP.bad a5.o H0.o E.o
 rw[if_pos h0]at Q
 obtain⟨r,rfl,X⟩:=Q
 have H0:=Hd h0;have q:=jcb h0;have q:jap (ja2 l cs)=0:=q;have J:=jg5 (S:=S) q;have Z:=Hd X.rd;have E:=Hd X.ext;have a0:=Hd (jgN (jrQ (S:=S) q));have z:Hid ((newM S (ja2 l cs))[0]?=some (jav (ja2 l cs)).text):=rfl
 obtain⟨L,hL⟩:=vE (newM S (ja2 l cs))
 rw[<-hL]at Z a0 z J X;have a1:=Hd hL;have a6:=Hd J
 obtain⟨a3,c3,e3⟩:=X.sl
 subst e3
 obtain⟨top,A⟩:=vE (jav (ja2 l cs)).text
 rw[<-A]at z;clear X hL h0 q J A;go_wp2_with fail
 refine (jmz w1 (K.o.1.ext E.o) (K.o.2.ext E.o) s bm room S (a2.o.ext E.o) _ L Z.o False a0.o (by have:=a6.o;omega) top z.o HR.o.1 HR.o.2 HB.o.1 HB.o.2.1 HB.o.2.2).mono ?_;intro e w2 hA;have HA:=Hd hA;rcases hA with⟨k,_,_,rfl,_⟩ |⟨_,_,_,_,hY⟩
 ·go_wp2_with fail
  go_ret2;exact ComP.go H0.o a1.o E.o HA.o
 ·have a7:=hY.res
  subst a7;clear hY;go_wp2_with fail
  go_ret2;exact ComP.go H0.o a1.o E.o HA.o
def jgy(S:vT):vM:=S.flatMap fun y=>y.2.2.refs
structure Cnt(S:vT):Prop where
 used:∀ x∈S,x.2.2.used=(cK (jgy S) x.1:Int)
 shut:∀ r∈jgy S,r.data.toList∈S.map (·.1)
 held:∀ x∈S,0<=x.2.2.held
 r16:∀ x∈S,x.2.2.refs.length<=16
def jeM(S:vT):Int:=(S.map fun x=>x.2.2.held).sum
theorem Cnt.none:Cnt []:=⟨by simp,by simp[jgy],by simp,by simp⟩
theorem jsh{S:vT}(h:∀ x∈S,x.2.2.refs.length<=16):(jgy S).length<=16 * S.length:=by
 induction S with
 | nil=>simp[jgy]
 | cons x r ih =>
  have q:=ih fun y o=>h y (bC _ o);have z:=h x bD;have e:jgy (x :: r)=x.2.2.refs++jgy r:=by simp[jgy]
  rw[e,bF,bP];omega
theorem jxp(T:vM)(k:Key):cK T k<=T.length:=by
 unfold cK;have:=iS (a:=k) (l:=T.map (·.data.toList));rwa [cC]at this
def jvc(S:vT):Prop:=∀ x∈S,0 < x.2.2.used+x.2.2.held
end
theorem jk0{S G:vT}{M:vM}{top:vB}:jgy (addS S G M top)=jgy S++(frK S M).flatMap (jca G):=by
 rw[jdh];have h:=jqw ((frK S M).flatMap (jca G)) (shaB top) (S++jcO G (frK S M));unfold jgy;rw[h,dL, <-jjx]
theorem jd2{S G:vT}{M:vM}{top:vB}:(addS S G M top).map (·.1)=(S++jcO G (frK S M)).map (·.1):=by rw[jdh,jqv]
theorem jvB{S G:vT}{L M:vM}{top:vB}(hc:Cnt S)(hG:G.map kvI=readG L)(hf:Fair G)(hP:jfE S G (shaB top) M (frK S M).length):Cnt (addS S G M top):=by
 have E:∀ r∈(frK S M).flatMap (jca G),r∈M:=fun r q=>by
  have:=hP.is
  rw[cG]at this;rw[this];exact bC _ q
 refine⟨fun x A=>?_,fun r q=>?_,fun x A=>?_,fun x A=>?_⟩
 ·rw[jk0,jxo]
  rw[jdh]at A
  obtain⟨z,o,rfl⟩:=bH.1 A
  show z.2.2.used+((cK ((frK S M).flatMap (jca G)) z.1:Nat):Int)=((cK (jgy S) z.1+cK ((frK S M).flatMap (jca G)) z.1:Nat):Int);rcases bR.1 o with o | o
  ·have:=hc.used z o;omega
  ·obtain⟨H,f,J,K⟩:=jb5 o
   obtain⟨t,O,_,e⟩:=jc0 hG H
   have Z:cK (jgy S) z.1=0:=jvz fun r q Q=>by
    have:=hc.shut r q
    rw[Q,K, <-jdV,(jfW.1 J).2]at this;cases this
   have X:z.2.2.used=0:=by rw[e];rfl
   omega
 ·rw[jd2]
  rw[jk0]at q;rcases bR.1 q with q | q
  ·rw[bY];exact cA _ (hc.shut r q)
  ·exact jdV.1 (jiA hP (E r q))
 ·rw[jdh]at A
  obtain⟨z,o,rfl⟩:=bH.1 A
  show 0<=z.2.2.held+((cK [shaB top] z.1:Nat):Int);rcases bR.1 o with o | o
  ·have:=hc.held z o;omega
  ·obtain⟨t,O,_,e⟩:=jc0 hG (jb5 o).1
   have X:z.2.2.held=0:=by rw[e];rfl
   omega
 ·rw[jdh]at A
  obtain⟨z,o,rfl⟩:=bH.1 A
  show z.2.2.refs.length<=16;rcases bR.1 o with o | o
  ·exact hc.r16 z o
  ·exact hf.refs z (jb5 o).1
theorem jtF{S G:vT}{L M:vM}{top:vB}(hc:Cnt S)(hfl:jvc S)(hG:G.map kvI=readG L)(hP:jfE S G (shaB top) M (frK S M).length):jvc (addS S G M top):=fun x E=>by
 rw[jdh]at E
 obtain⟨z,o,rfl⟩:=bH.1 E
 show 0 < z.2.2.used+((cK ((frK S M).flatMap (jca G)) z.1:Nat):Int)+(z.2.2.held+((cK [shaB top] z.1:Nat):Int));rcases bR.1 o with o | o
 ·have:=hfl z o;omega
 ·obtain⟨q,f,A,H⟩:=jb5 o
  obtain⟨t,K,_,e⟩:=jc0 hG q
  have O:z.2.2.used=0:=by rw[e];rfl
  have Q:z.2.2.held=0:=by rw[e];rfl
  have J:=(jfW.1 A).1
  have:=hP.is
  rw[cG]at this;rw[this]at J;rcases bJ.1 J with h | h
  ·have:1<=cK [shaB top] z.1:=by rw[H,h];exact juQ (by simp)
   omega
  ·have:1<=cK ((frK S M).flatMap (jca G)) z.1:=by rw[H];exact juQ h
   omega
theorem juB(T:vM)(r:vB)(S:vT):jeM (S.map (jk5 T r))=jeM S+((S.map (·.1)).count r.data.toList:Int):=by
 induction S with
 | nil=>simp[jeM]
 | cons x l ih =>
  have e:∀ (a:Nd5) b,jeM (a :: b)=a.2.2.held+jeM b:=fun a b=>by unfold jeM;rw[bL,List.sum_cons]
  rw[bL,e,e,ih,bL,List.count_cons];have o:(jk5 T r x).2.2.held=x.2.2.held+((cK [r] x.1:Nat):Int):=rfl;have q:cK [r] x.1=if x.1=r.data.toList then 1 else 0:=by
   have:=jjV r [] x.1
   rw[this];simp[cK]
  rw[o,q]
  by_cases hx:x.1=r.data.toList
  ·rw[if_pos hx,if_pos (by simp[hx])];push_cast;omega
  ·rw[if_neg hx,if_neg (by simpa using hx)];push_cast;omega
theorem jwz(A B:vT):jeM (A++B)=jeM A+jeM B:=by unfold jeM;rw[bY,List.sum_append]
theorem joM:∀ {B:vT},(∀ x∈B,x.2.2.held=0)->jeM B=0
 | [],_=>rfl
 | x :: r,h=>by
  have e:jeM (x :: r)=x.2.2.held+jeM r:=by unfold jeM;rw[bL,List.sum_cons]
  rw[e,h x bD,joM fun y o=>h y (bC _ o)];rfl
theorem jlc:∀ {l:List Key},l.Nodup->∀ {k:Key},k∈l->l.count k=1
 | [],_,_,o=>by cases o
 | x :: r,h,k,o=>by
  rw[dH]at h;rw[List.count_cons]
  by_cases e:x=k
  ·subst e
   rw[List.count_eq_zero_of_not_mem h.1];simp
  ·have o:k∈r:=(bJ.1 o).resolve_left fun q=>e q.symm
   rw[jlc h.2 o];simp[e]
theorem jwy{S G:vT}{L M:vM}{top:vB}(hn:((addS S G M top).map (·.1)).Nodup)(hG:G.map kvI=readG L)(hP:jfE S G (shaB top) M (frK S M).length):jeM (addS S G M top)=jeM S+1:=by
 have o:(shaB top).data.toList∈(S++jcO G (frK S M)).map (·.1):=jdV.1 (jiA hP (by rw[hP.is];exact bD));rw[jd2]at hn;rw[jdh,juB,jwz,joM (B:=jcO G (frK S M)) (fun x q=>by
  obtain⟨t,z,_,e⟩:=jc0 hG (jb5 q).1
  rw[e];rfl),jlc hn o]
 omega
theorem jrs{S G:vT}{M:vM}{top:vB}:(addS S G M top).length<=S.length+(frK S M).length:=by
 rw[jdh,cC,bF]
 have:(jcO G (frK S M)).length<=(frK S M).length:=iI _ _
 omega
theorem jtK{S G:vT}{L M:vM}{top:vB}{n:Int}(h:∀ x∈S,x.2.2.held<=n)(h0:0<=n)(hG:G.map kvI=readG L):∀ x∈addS S G M top,x.2.2.held<=n+1:=fun x q=>by
 rw[jdh]at q
 obtain⟨z,o,rfl⟩:=bH.1 q
 show z.2.2.held+((cK [shaB top] z.1:Nat):Int)<=n+1;have A:=jxp [shaB top] z.1;rw[iP]at A;rcases bR.1 o with o | o
 ·have:=h z o;omega
 ·obtain⟨t,E,_,e⟩:=jc0 hG (jb5 o).1
  have H:z.2.2.held=0:=by rw[e];rfl
  omega
structure Kp(U:vM)(S:vT):Prop where
 is:∀ x∈S,∃ t∈U,x.1=ky t/\x.2.2.text=t/\x.2.2.refs=jaF (nodeOf t)
 cnt:Cnt S
 full:jvc S
theorem Kp.none(U:vM):Kp U []:=⟨by simp,Cnt.none,fun x e=>by cases e⟩
theorem Kp.mono{U V:vM}{S:vT}(h:Kp U S)(hs:∀ t∈U,t∈V):Kp V S:=
 ⟨fun x o=>by obtain⟨t,q,e⟩:=h.is x o;exact⟨t,hs t q,e⟩,h.cnt,h.full⟩
theorem Kp.text{U:vM}{S:vT}(hU:InjL U)(h:Kp U S){t:vB}(ht:t∈U)(hk:ky t∈S.map (·.1)):∃ x,atL S (ky t)=some x/\x∈S/\x.2.2.text=t/\x.2.2.refs=jaF (nodeOf t):=by
 obtain⟨x,o⟩:=dQ.1 (jdV.2 hk)
 obtain⟨q,z⟩:=ja6 o
 obtain⟨A,e,E,H,J⟩:=h.is x q
 have:A=t:=ju1 hU e ht (E.symm.trans z)
 subst this
 exact⟨x,o,q,H,J⟩
theorem Kp.shut{U:vM}{S:vT}(hU:InjL U)(h:Kp U S){t:vB}(ht:t∈U)(hk:ky t∈S.map (·.1)){r:vB}(hr:r∈jaF (nodeOf t)):r.data.toList∈S.map (·.1):=by
 obtain⟨x,_,e,_,o⟩:=h.text hU ht hk
 exact h.cnt.shut r (cO.2 ⟨x,e,by rw[o];exact hr⟩)
def jkV(U:vM):Prop:=∀ t∈U,∃ n,jbi t n
theorem Kp.bd{U:vM}{S:vT}(h:Kp U S)(hl:S.length<=5000):∀ x∈S,0<=x.2.2.used/\x.2.2.used<=1000000000:=fun x e=>by
 have o:=h.cnt.used x e;have q:=jxp (jgy S) x.1;have z:=jsh h.cnt.r16;omega
theorem joE(w:vW){U:vM}(hU:InjL U){S:vT}(h:Kp U S){m:vL}(hm:jap m=0)(hs:∀ t∈jay m,t∈U)(e:ky (jav m).text∈S.map (·.1)):∀ t∈jay m,ky t∈S.map (·.1):=
 jup w hm (fun k=>k.data.toList∈S.map (fun x:Nd5=>x.1)) (fun t o q r e=>h.shut hU (hs t o) q e) e
theorem Kp.has(w:vW){U:vM}(hU:InjL U){S:vT}(h:Kp U S){m:vL}(hm:jap m=0)(hs:∀ t∈jay m,t∈U)(hr:ky (jav m).text∈S.map (·.1)):HasM S m:=
 ⟨hm,fun t e=>by
  have e:=(jaM (jao (jav m)) t).2 e
  obtain⟨x,o,_,q,_⟩:=h.text hU (hs t e) (joE w hU h hm hs hr t e)
  exact⟨x,o,q⟩⟩
theorem Kp.nodes{U:vM}{S:vT}(h:Kp U S)(hN:∀ t∈U,∃ n,jbi t n):∀ x∈S,∃ n,jbi x.2.2.text n:=fun x o=>by
 obtain⟨t,q,_,e,_⟩:=h.is x o
 rw[e];exact hN t q
theorem jcj{m:vL}(hm:jap m=0):jkV (jay m):=fun t e=>by
 obtain⟨n,o,_⟩:=(jho hm).node t e
 exact⟨n,o⟩
structure Part(S:vT)(m:vL)(L:vM):Prop where
 ok:jap m=0
 head:L[0]?=some (jav m).text
 sub:∀ t∈L,t∈jay m
 all:∀ t∈jay m,t∈L\/ky t∈S.map (·.1)
theorem jos(S:vT){m:vL}(hm:jap m=0):Part S m (jay m):=⟨hm,(jho hm).head,fun _ h=>h,fun _ h=>.inl h⟩
theorem Part.refs(w:vW){S:vT}{m:vL}{L:vM}(h:Part S m L){G:vT}(hG:G.map kvI=readG L){x r:vB}(o:r∈jca G x):has2 S G r:=by
 unfold jca at o;cases ha:atL G x.data.toList with
 | none=>rw[ha]at o;cases o
 | some y =>
  rw[ha]at o
  obtain⟨t,E,_,e⟩:=jc0 hG (ja6 ha).1
  have o:r∈y.2.2.refs:=o;rw[e]at o
  obtain⟨n,A,q⟩:=(jho h.ok).node t (h.sub t E)
  have o:r∈jaF (nodeOf t):=o;rw[jd9 w (jdd A) A]at o
  obtain⟨H,z,e⟩:=q r o
  subst e;rcases h.all H z with h1 | h1
  ·exact .inr (jly hG h1)
  ·exact .inl (jdV.2 h1)
theorem Part.why(w:vW){S:vT}{m:vL}{L:vM}(h:Part S m L){room k:Int}(hk:juJ False room S L k):k=3/\room < (S.length:Int)+(L.length:Int):=by
 rcases hk with⟨_,e⟩ |⟨_,G,hG,x,r,hr,hno⟩ |⟨rfl,top,G,M,_,hG,hP,hroom⟩
 ·exact e.elim
 ·exact absurd (h.refs w hG hr) hno
 ·have e:=jhv (S:=S) (M:=M) (fun x o=>hP.at' o)
  have q:=(je6 L).2.2;rw[<-hG,cC]at q
  exact⟨rfl,by omega⟩
theorem jlB(f:Nd5->Nd5)(hf:∀ x,(f x).1=x.1):∀ (L:vT) (k:Key),atL (L.map f) k=(atL L k).map f
 | [],k=>rfl
 | x :: L,k=>by
  unfold atL;rw[bL,fS,fS,hf];cases e:decide (k=x.1)with
  | true=>rfl
  | false=>exact jlB f hf L k
theorem jla(r:vB)(k:Key):cK [r] k=if k=r.data.toList then 1 else 0:=by
 have:=jjV r [] k
 rw[this];unfold cK;simp
structure AddK(w:World)(U:vM)(S:vT)(m:vL)(L:vM)(S':vT):Prop where
 kp:Kp U S'
 key:∀ k,k∈S'.map (·.1)↔k∈S.map (·.1)\/∃ t∈jay m,k=ky t
 held:∀ k,jtJ (atL S' k)=jtJ (atL S k)+if k=ky (jav m).text then 1 else 0
 sum:jeM S'=jeM S+1
 len:S'.length<=S.length+L.length
 blk:∀ x∈S',x.2.1∈S.map (·.2.1)\/w.heap.size<=x.2.1
 bd:∀ n:Int,0<=n->(∀ x∈S,x.2.2.held<=n)->∀ x∈S',x.2.2.held<=n+1
theorem Part.add(w:vW){U:vM}(hU:InjL U){S:vT}(hK:Kp U S){m:vL}{L:vM}(h:Part S m L)(hs:∀ t∈jay m,t∈U)(hl:L.length<=1000){s bm:Nat}{room:Int}{G:vT}{M:vM}{e:Ending}{w':vW}(hA:AddY w s bm room S L (jav m).text G M e w') :
  AddK w U S m L (addS S G M (jav m).text):=by
 have K:=hA.path;have J:=hA.given;have hF:=jjj J hA.nodes hl;have a2:((addS S G M (jav m).text).map (·.1)).Nodup:=hA.st.nd;have o:∀ x∈jcO G (frK S M),x∈G/\(∃ t∈L,x.1=ky t/\x.2.2=itOf t)/\atL S x.1=none:=fun x q=>by
  obtain⟨X,z,E,e⟩:=jb5 q
  exact⟨X,jc0 J X,by rw[e];exact (jfW.1 E).2⟩
 have a3:∀ x∈S++jcO G (frK S M),∃ t∈U,x.1=ky t/\x.2.2.text=t/\x.2.2.refs=jaF (nodeOf t):=fun x q=>by
  rcases bR.1 q with q | q
  ·exact hK.is x q
  ·obtain⟨t,O,e1,e2⟩:=(o x q).2.1
   exact⟨t,hs t (h.sub t O),e1,by rw[e2];rfl,by rw[e2];rfl⟩
 have Z:Kp U (addS S G M (jav m).text):=by
  refine⟨fun x' a0=>?_,jvB hK.cnt J hF K,jtF hK.cnt hK.full J K⟩
  rw[jdh]at a0
  obtain⟨x,q,rfl⟩:=bH.1 a0
  exact a3 x q
 have A:ky (jav m).text∈(addS S G M (jav m).text).map (·.1):=by
  rw[jd2];exact jdV.1 (jiA K (by rw[K.is];exact bD))
 have a1:∀ k,atL (addS S G M (jav m).text) k=(atL (S++jcO G (frK S M)) k).map (jk5 ((frK S M).flatMap (jca G)) (shaB (jav m).text)):=fun k=>by
  rw[jdh];exact jlB (jk5 ((frK S M).flatMap (jca G)) (shaB (jav m).text)) (fun _=>rfl) _ k
 refine⟨Z,fun k=>?_,fun k=>?_,jwy a2 J K,?_,fun x q=>?_,fun n hn hb=>jtK hb hn J⟩
 ·constructor
  ·intro H
   rw[jd2,bY,bR]at H;rcases H with H | H
   ·exact .inl H
   ·obtain⟨x,q,rfl⟩:=bH.1 H
    obtain⟨t,O,e1,_⟩:=(o x q).2.1
    exact .inr ⟨t,h.sub t O,e1⟩
  ·rintro (H |⟨t,O,rfl⟩)
   ·rw[jd2,bY,bR];exact .inl H
   ·exact joE w hU Z h.ok hs A t O
 ·rw[a1]
  have E:(if k=ky (jav m).text then (1:Int)else 0)=((cK [shaB (jav m).text] k:Nat):Int):=by
   rw[jla];unfold ky;split <;> rfl
  rw[E];unfold atL;rw[List.find?_append];cases hS:List.find? (fun x=>decide (k=x.1)) S with
  | some y =>
   have a4:=(ja6 (L:=S) (k:=k) hS).2;show y.2.2.held+((cK [shaB (jav m).text] y.1:Nat):Int)=y.2.2.held+_;rw[a4]
  | none =>
   cases hP2:List.find? (fun x=>decide (k=x.1)) (jcO G (frK S M))with
   | some y =>
    have hy:=ja6 (L:=jcO G (frK S M)) (k:=k) hP2
    obtain⟨t,O,e1,e2⟩:=(o y hy.1).2.1
    show y.2.2.held+((cK [shaB (jav m).text] y.1:Nat):Int)=0+_;rw[hy.2,e2];rfl
   | none =>
    show (0:Int)=0+_;rw[jla]
    have:k≠(shaB (jav m).text).data.toList:=fun e=>by
     have X:=a1 k;have Q:=jdV.2 A;unfold ky at Q;rw[<-e,X]at Q;unfold atL at Q;rw[List.find?_append,hS,hP2]at Q;cases Q
    rw[if_neg this];rfl
 ·have X:=jrs (S:=S) (G:=G) (M:=M) (top:=(jav m).text)
  have Q:=jhv (S:=S) (M:=M) (fun x q=>K.at' q);have h3:=(je6 L).2.2;rw[<-J,cC]at h3;omega
 ·rw[jdh]at q
  obtain⟨z,E,rfl⟩:=bH.1 q
  rcases bR.1 E with E | E
  ·exact .inl (bH.2 ⟨z,E,rfl⟩)
  ·exact .inr (hA.news z (o z E).1)
end Go.Proofs.YtmobgkphhbmhbaaGreatDoor
