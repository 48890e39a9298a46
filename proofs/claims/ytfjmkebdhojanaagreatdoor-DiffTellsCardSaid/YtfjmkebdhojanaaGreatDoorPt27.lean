/- Lemmas; each is under no condition but those that it states. -/
import Derived.Test.YtfjmkebdhojanaaGreatDoorPt24
import Derived.Test.YtfjmkebdhojanaaGreatDoorPt26
namespace Go.Proofs.YtfjmkebdhojanaaGreatDoor
set_option linter.unusedSimpArgs false
set_option linter.unusedVariables false
set_option maxRecDepth 100000
set_option maxHeartbeats 16000000
section
open Go Go.RowKit
attribute [local go_sem] Oper.semAt_some
theorem Tryz.infoPlc:(Tryz.prog.info? 98).map (fun i=>(i.zero,i.size,i.bytes))=some (some (.agg #[.string ⟨#[]⟩,.string ⟨#[]⟩]),2,32):=vY
theorem Tryz.uPlcs:Tryz.prog.underlying 57=some (.slice 98):=vY
theorem Tryz.sPlcs:jdv Tryz.prog 57 98 2 32:=jdv.mk' Tryz.uPlcs Tryz.infoPlc rfl vI
abbrev LRow(w0 w:vW)(v:vV)(n:Nat)(xs:List Pl):Prop:=ORow 98 2 w0 w v n (jca xs)
theorem Tryz.allocPlc(w:vW):(Instr.alloc 98 true (.tuple #[])).run Tryz.prog w=.ok (.pointer (some ⟨w.heap.size,0,none⟩)) (w.alloc (.cells [Value.string ⟨#[]⟩,.string ⟨#[]⟩].toArray 98)):=vY
theorem Tryz.szPlc:(Tryz.prog.info? 98).map (·.size)=some 2:=vY
theorem Tryz.isPlc:jgB (Tryz.prog.underlying 98)=true:=vY
theorem jcT(W:vW)(b:Nat)(x y:vB)(hB:Blk W b (.cells [Value.string x,.string y].toArray 98)):(Instr.loadAt 98 (.pointer (some ⟨b,0,none⟩))).run Tryz.prog W=.ok (.agg [Value.string x,.string y].toArray) W:=by
 obtain⟨A,e⟩:=jfS Tryz.isPlc
 exact jd9 e Tryz.szPlc (fun j v o=>by rw[jhO];exact hB.cellL o)
def plc1(n:jad)(p:vB)(i:Nat):List Pl:=if (n.refs.getD i ⟨#[]⟩).size=0 then []else [((p++n.path)++(if n.kind=3 then nib1 i else ⟨#[]⟩),n.refs.getD i ⟨#[]⟩)]
def belJ(n:jad)(p:vB)(j:Nat):List Pl:=(revJ j).flatMap (plc1 n p)
theorem jgn(n:jad)(p:vB){j:Nat}(h:j < 16):belJ n p (j+1)=belJ n p j++plc1 n p (15 - j):=by
 unfold belJ;rw[jtG h,dX];simp
theorem jvT(n:jad)(p:vB)(i:Nat):(plc1 n p i).reverse=plc1 n p i:=by unfold plc1;split <;> rfl
theorem jfB(n:jad)(p:vB):belJ n p 16=(jcF n p).reverse:=by
 have:=jpN (plc1 n p) (jvT n p) (List.range 16)
 exact List.reverse_eq_iff.1 this
theorem jcX(n:jad)(p:vB):∀ j,(belJ n p j).length<=j
 | 0=>bL _
 | j+1=>by
  by_cases h:j < 16
  ·have:=jcX n p j
   rw[jgn n p h,bC]
   have:(plc1 n p (15 - j)).length<=1:=by unfold plc1;split <;> simp
   omega
  ·have e:=jcX n p j
   have:belJ n p (j+1)=belJ n p j:=by unfold belJ revJ;rw[bN (by simp;omega),bN (by simp;omega)]
   rw[this];omega
theorem jtT{w:vW}(m b:Nat)(hB:Blk w b (.cells #[.int .u8 (m:Int)] 5))(hm:m < 16):(convert 120 9 (.slice (some ⟨b,0,none⟩) 1 1)).run Tryz.prog w=.ok (.string (nib1 m)) w:=by
 have e:(m:Int)=((UInt8.ofNat m).toNat:Int):=by rw[jox m vO]
 have o:w.ownsRow 0 5 1 (.slice (some ⟨b,0,none⟩) 1 1) 1 (jaK [UInt8.ofNat m]):=
  ⟨rfl,.inr ⟨_,1,_,rfl,cD _,hB,bL _,by unfold maxLen;omega,rfl,by rw[e];rfl⟩⟩
 exact jbB w Tryz.uBytes Tryz.uU8 Tryz.uStr o
theorem jnp{ops:Array Oper}{rest:List Oper}{d:Option Tmp}{ty:TypeId}{pos:String}{af:Array Edge}{x:Operand}{a:Act}{w:vW}{Q:Exit->Act->vW->Prop}(m b:Nat)(hx:a.eval x=.slice (some ⟨b,0,none⟩) 1 1)(hB:Blk w b (.cells #[.int .u8 (m:Int)] 5))(hm:m < 16)
  (h:wpList Tryz.prog ops Q rest (a.put d (.string (nib1 m))) w):wpList Tryz.prog ops Q (⟨d,.convert 120 9 x,ty,pos,af,none⟩ :: rest) a w:=by
 refine wpList_plain rfl fun K e=>jcd (v:=.string (nib1 m)) (w':=w) ?_ (e _ _ h);simp only[execOp,hx,cA,jtT m b hB hm,Result.andThen,cO]
def jyQ(W1:vW)(n:jad)(p:vB)(lv iv:vV)(wr:vW):Prop:=∃ j:Nat,j<=16/\iv=.int .i64 (15 - (j:Int))/\LRow W1 wr lv (belJ n p j).length (belJ n p j)
theorem jxl(W:vW)(n:jad)(hr:n.refs.length=16)(c2:n.path.size<=100)(p:vB)(hp:p.size<=100000) :
  vQ 48 #[n.V,.string p] W fun e w'=>∃ v,e=.returned v/\LRow W w' v (jcF n p).length (jcF n p).reverse:=by
 obtain⟨k,A,H,E⟩:=n
 have hr:E.length=16:=hr;have c2:A.size<=100:=c2;have hl:(jad.cells ⟨k,A,H,E⟩).length=19:=jad.cells_len _ hr;have HL:=Hd hl;have HR:=Hd hr;clear hl hr;unfold jad.V;have e0:(jad.cells ⟨k,A,H,E⟩)[0]?=some (.int .i64 k):=rfl;have e1:(jad.cells ⟨k,A,H,E⟩)[1]?=some (.string A):=rfl;rw[<-fJ, <-jfB];go_enter Tryz.func48,Tryz.ntmps48;go_wp2_with fail
 have hE:Ext W (W.alloc (.cells (jad.cells ⟨k,A,H,E⟩).toArray 103)):=(ExtR W).alloc _;have hB:=Blk.new W (.cells (jad.cells ⟨k,A,H,E⟩).toArray 103)
 obtain⟨W1,c3⟩:=vE (W.alloc (.cells (jad.cells ⟨k,A,H,E⟩).toArray 103))
 rw[<-c3]at hE hB ⊢;have HE:=Hd hE;have HB:=Hd hB;clear c3 hE hB;go_loopw [5,6] (fun lv iv wr=>jyQ W1 ⟨k,A,H,E⟩ p lv iv wr) (fun _ iv _=>(intOf iv+1).toNat)
 case atStart=>exact⟨0,by omega,rfl,ORow.nil _ _ (ExtR W1)⟩
 case round =>
  obtain⟨j,hj,rfl,hR⟩:=hrel
  by_cases hlt:j < 16
  ·obtain⟨m,hm⟩:=vE (15 - j)
   have a6:(15:Int) - (j:Int)=(m:Int):=vO
   have a0:m < 16:=vO
   rw[a6];have b1:(0:Int)<=(m:Int):=vO
   have b2:¬(m:Int) < 0:=vO
   have b3:(m:Int) < 16:=vO
   have b4:(m:Int).toNat=m:=vO
   have Z:=Hd (bB hm a6)
   obtain⟨r,c4⟩:∃ r,E[m]?=some r:=⟨_,bA (by rw[HR.o];exact a0)⟩
   have a2:=Hd c4;have a3:=Hd (HB.o.keeps hR.ext (fun h=>h));have q3:=a3.o.cellL (i:=3+m) (v:=.string r) (by
    show (_ :: _ :: _ :: E.map Value.string)[3+m]?=_;rw[show 3+m=m+1+1+1 by omega];simp[a2.o])
   have J:=Hd hR;clear hm a6 c4 hR
   by_cases hz:r.size=0
   ·obtain rfl:r=⟨#[]⟩:=jby hz
    go_wp2_with fail
    go_roundw
    case rel =>
     refine⟨j+1,by omega,by have:=Z.o.1;have:=Z.o.2;simp;omega,?_⟩
     have e:belJ ⟨k,A,H,E⟩ p (j+1)=belJ ⟨k,A,H,E⟩ p j:=by
      rw[jgn _ p hlt, <-Z.o.1];unfold plc1;rw[if_pos (by show (E.getD m ⟨#[]⟩).size=0;rw[bH,a2.o];rfl),bZ]
     rw[e];exact J.o
    case measure=>simp[intOf]
   ·have d4:r.toList.isEmpty=false:=by
     rw[bR];cases hd:r.data.toList with
     | nil=>exact absurd (congrArg List.length hd) hz
     | cons x l=>rfl
    have q1:=a3.o.cellL (i:=1) (v:=.string A) e1;have b5:¬(9223372036854775807 < p.size+A.size):=vO
    have a4:=Hd hlt;have HZ:=Hd hz;have HW:Hid (W.heap.size < wr.heap.size):=Hd a3.o.lt;have HX:=Hd (show ¬ wr.heap.size<=W.heap.size by have:=HW.o;omega);have Q1:=Hd q1;have Q3:=Hd q3;clear q1 hlt hz;go_wp2_with fail
    clear q3;refine jaC [0,1,2,3,4,5,6,7,8,9,10] [9,10] Ext (jae (fun z=>wr.heap.size<=z)) ExtR ExtT (fun x y z h k=>jae.trans h k) (fun x y h=>h.mono (fun _ _ h=>h.elim)) vY vY vY ?_;iterate 2 refine vD ?_
    refine qDL ⟨W.heap.size,1,none⟩ _ rfl (fun w2 h2=>jab Tryz.uStr rfl (jam (jaa Q1.o (jai _)) h2 HX.o)) ?_;refine vS ?_;iterate 4 refine vD ?_
    refine qDL ⟨W.heap.size,3+m,none⟩ _ rfl (fun w2 h2=>jab Tryz.uStr rfl (jam (jaa Q3.o (jai _)) h2 HX.o)) ?_;refine vS ?_
    refine vD ?_
    refine qDH _ rfl (fun w2 X K hK=>?_);have a5:=Hd (show Ext wr w2 from(jai _).trans X);clear X;go_simp;refine hK _ _ ((jae.refl _ w2).alloc _) ?_;clear hK K;refine qDH _ rfl (fun w3 X K hK=>?_);have c5:=(Blk.new w2 (.cells [Value.string ⟨#[]⟩,.string ⟨#[]⟩].toArray 98)).keeps X (fun h=>h);refine jjk (vs:=[Value.string (p++A),.string r]) rfl rfl rfl c5 rfl Tryz.szPlc (jei _ _) (fun W4 c6 a7=>?_);refine hK _ _ (a7.mono (fun z _ e=>by have e:z=w2.heap.size:=e;have:=a5.o.size;omega)) ?_;have c7:=Hd (show Ext wr W4 from((a5.o.alloc _).trans X).trans' a7 (fun z hz e=>by have e:z=w2.heap.size:=e;have:=a5.o.size;omega));have c8:=Hd c6;clear hK K X c5 c6 a7;refine vS ?_;refine qDE (fun w5 X=>?_);have a8:=Hd (c7.o.trans X);have O:=Hd (c8.o.keeps X (fun h=>h));clear X c7 c8
    obtain⟨pb,c9⟩:=vE w2.heap.size
    have d0:=Hd (show wr.heap.size<=pb by have:=a5.o.size;omega);rw[<-c9]at O ⊢;clear c9;have q0:=jaa (a3.o.cellL (i:=0) e0) a8.o;have a1:=Hd (ORow.mono J.o a8.o)
    by_cases hk:k=3
    ·subst hk
     have q5:=O.o.cell (i:=0) (v:=.string (p++A)) vF;have b7:¬(9223372036854775807 < p.size+A.size+(nib1 m).size):=by show ¬(_ < _+1);omega
     have Q:belJ ⟨3,A,H,E⟩ p (j+1)=belJ ⟨3,A,H,E⟩ p j++[((p++A)++nib1 m,r)]:=by
      rw[jgn _ p a4.o, <-Z.o.1];unfold plc1;have e:(jad.mk 3 A H E).refs.getD m ⟨#[]⟩=r:=by show E.getD m ⟨#[]⟩=r;rw[bH,a2.o];rfl
      rw[e,if_neg HZ.o,if_pos rfl]
     have a9:=Hd Q;have b0:(belJ ⟨3,A,H,E⟩ p j).length+1<=maxLen:=by have:=jcX ⟨3,A,H,E⟩ p j;unfold maxLen;omega
     have b8:((belJ ⟨3,A,H,E⟩ p j).length+1) * 32<=140737488355328:=by have:=jcX ⟨3,A,H,E⟩ p j;omega
     have B6:=(O.o.keeps ((ExtR w5).alloc (.cells #[.int .u8 (m:Int)] 5)) (fun h=>h));have q7:=B6.cell (i:=0) (v:=.string (p++A)) vF;have f7:=B6.frozen (i:=0);have d1:=Hd B6;clear Q B6;go_wp2_with (first
      |(refine jnp m w5.heap.size rfl (Blk.new w5 _) a0 ?_)
      |(refine jlv rfl pb 0 (.string ((p++A)++nib1 m)) rfl rfl rfl rfl vY q7 f7 ?_
        intro W8 b9;have c0:Blk W8 pb (.cells [Value.string ((p++A)++nib1 m),.string r].toArray 98):=by rw[b9];exact d1.o.set_same _
        have c1:Ext wr W8:=(a8.o.alloc _).trans' (by rw[b9];exact jae.oneSet _ _ _) (fun z hz e=>by have e:z=pb:=e;have:=d0.o;omega);clear b9;have q8:=c0.cell (i:=0) (v:=.string ((p++A)++nib1 m)) vF;have q9:=c0.cell (i:=1) (v:=.string r) vF;have d5:=Hd c1;have d2:=Hd (ORow.mono J.o c1);clear c1 c0)
      |(at_builtin;(refine jaO Tryz.sPlcs (ORow.mono d2.o ((ExtR W8).alloc _)) (.tmp 37) (.tmp 39) rfl rfl rfl (jaJ (Blk.new W8 _)) (news:=[.string ((p++A)++nib1 m),.string r]) (jei _ _) rfl rfl b0 b8 ?_;intro d3 w' r1 r2 r3)))
     go_roundw
     case rel=>exact⟨j+1,by have:=a4.o;omega,by have:=Z.o.1;have:=Z.o.2;simp;omega,by rw[a9.o,bC];unfold LRow;rw[jbb];exact r1⟩
     case measure=>simp[intOf]
    ·have b6:((k:Int) == 3)=false:=by simpa using (by omega:¬(k:Int)=3)
     have q5:=O.o.cell (i:=0) (v:=.string (p++A)) vF;have q6:=O.o.cell (i:=1) (v:=.string r) vF;have Q:belJ ⟨k,A,H,E⟩ p (j+1)=belJ ⟨k,A,H,E⟩ p j++[(p++A,r)]:=by
      rw[jgn _ p a4.o, <-Z.o.1];unfold plc1;have e:(jad.mk k A H E).refs.getD m ⟨#[]⟩=r:=by show E.getD m ⟨#[]⟩=r;rw[bH,a2.o];rfl
      rw[e,if_neg HZ.o,if_neg hk,jfA]
     have a9:=Hd Q;have b0:(belJ ⟨k,A,H,E⟩ p j).length+1<=maxLen:=by have:=jcX ⟨k,A,H,E⟩ p j;unfold maxLen;omega
     have b8:((belJ ⟨k,A,H,E⟩ p j).length+1) * 32<=140737488355328:=by have:=jcX ⟨k,A,H,E⟩ p j;omega
     clear Q;go_wp2_with (at_builtin;(refine jaO Tryz.sPlcs (ORow.mono a1.o ((ExtR w5).alloc _)) (.tmp 37) (.tmp 39) rfl rfl rfl (jaJ (Blk.new w5 _)) (news:=[.string (p++A),.string r]) (jei _ _) rfl rfl b0 b8 ?_;intro d3 w' r1 r2 r3))
     go_roundw
     case rel=>exact⟨j+1,by have:=a4.o;omega,by have:=Z.o.1;have:=Z.o.2;simp;omega,by rw[a9.o,bC];unfold LRow;rw[jbb];exact r1⟩
     case measure=>simp[intOf]
  ·obtain rfl:j=16:=vO
   have b1:(15:Int) - ((16:Nat):Int) = -1:=vO
   rw[b1];have J:=Hd hR;clear hR;go_wp2_with fail
   go_ret
   exact⟨_,rfl,⟨J.o.sl,J.o.own,HE.o.trans J.o.ext,fun b hb=>bJ HE.o.size (J.o.new b hb)⟩⟩
theorem jBL(W:vW)(r:vB)(hr:r.size<=100000):vR 46 #[.string r] W (.agg #[.string ⟨#[]⟩,.string (jao r)]):=by
 unfold vR vQ;go_in;go_wp2_with (refine jaj Tryz.allocPlc rfl rfl ?_;intro X A E)
 refine vC (jea X r vO) fun w2 H=>?_;have J:=A.keeps H (fun h=>h);have K:=Hd (E.trans H);clear H A E;go_wp2_with (refine jah (vs:=[Value.string ⟨#[]⟩,.string (jao r)]) rfl rfl rfl rfl J rfl Tryz.szPlc (jei _ _) ?_;intro W8 O Q)
 have Z:(loadVar 98 ⟨W.heap.size,0,none⟩).run Tryz.prog W8=.ok (.agg [Value.string ⟨#[]⟩,.string (jao r)].toArray) W8:=by
  have:=jcT W8 _ _ _ O
  simpa [Instr.loadAt,Instr.sureAddr,cA,Result.andThen]using this
 refine bodyPost_ret (jbJ rfl rfl Z) rfl ?_
 exact⟨rfl,K.o.trans' Q (fun x hx e=>by have e:x=W.heap.size:=e;omega)⟩
theorem jjj{t T:TypeId}{by':Nat}(I:jdv Tryz.prog t T 2 by'){ops:Array Oper}{rest:List Oper}{d:Option Tmp}{ty:TypeId}{pos:String}{af:Array Edge}{a:Act}{w1 w0 w:vW}{Q:Exit->Act->vW->Prop}{s x:Operand}{v pv:vV}{n m N:Nat}{xs:List vV}{ys:vL}
  (hR:ORow T 2 w0 w v n xs) (hP:ORow T 2 w1 w pv m (jca ys)) (hN:n+m=N) (hs:a.eval s=v) (hx:a.eval x=pv) (h63:N<=1000000) (hb:by'<=1000)
  (h:∀ v' w',ORow T 2 w0 w' v' N (xs++jca ys)->jae (fun b=>v.ownBlock=some b) w w'->(v'.ownBlock=v.ownBlock\/∀ b,v'.ownBlock=some b->w.heap.size<=b)->wpList Tryz.prog ops Q rest (a.put d v') w') :
  wpList Tryz.prog ops Q (⟨d,.call { callee:=.builtin .append,args:=#[s,x],argTypes:=#[t,t] },ty,pos,af,none⟩ :: rest) a w:=by
 subst hN
 obtain⟨J,⟨rfl,K⟩ |⟨g,o,A,rfl,K,h4,h5,h6,h7⟩⟩:=hP.own
 ·subst K
  have E:ys=[]:=by
   rw[jdF]at J;exact bE vO
  subst E
  obtain⟨ad,c,rfl⟩:=hR.sl
  have H:n<=c:=by
   obtain⟨_,⟨e,e2⟩ |⟨g,o,A,e,_,_,k5,_⟩⟩:=hR.own
   ·omega
   ·obtain⟨_,_,e⟩:=cN e;omega
  refine jeX I hs hx H (h _ _ ?_ (jae.refl _ _) (.inl rfl));simpa [jca]using hR
 ·exact jaO I hR s x rfl hs hx (fun j u O=>hP.own.cells (g:=g) rfl j u O) (fun u X=>by
   obtain⟨y,_,Z⟩:=cU.1 X
   exact jei _ _ u Z) (by rw[jdF]at J ⊢;omega) rfl (by unfold maxLen;omega) (bJ (Nat.mul_le_mul_left _ hb) vO) h
def lenV:vV->Nat
 | .slice _ n _=>n
 | _=>0
structure WkR(S:vT)(out Mall:List Pl)(Rall:vL)(W1:World)(mv lv tv:Value)(wr:World)(M0:List Pl)(L0:vL)(ts:List Pl)(k:Nat)(M:List Pl)(R:vL):Prop where
 met:LRow W1 wr mv M0.length M0
 ent:ERow W1 wr lv L0.length L0
 tod:LRow W1 wr tv ts.length ts.reverse
 ap1:∀ b,tv.ownBlock=some b->mv.ownBlock≠some b/\lv.ownBlock≠some b
 ap2:∀ b,mv.ownBlock=some b->lv.ownBlock≠some b
 cnt:k+M0.length=400
 wx:jcD S out k ts M R
 e1:M0++M=Mall
 e2:L0++R=Rall
 tsl:ts.length<=1+16 * M0.length
 lle:L0.length<=M0.length
def jxh(S:vT)(out Mall:List Pl)(Rall:vL)(W1:vW)(mv lv tv:vV)(wr:vW):Prop:=∃ M0 L0 ts k M R,WkR S out Mall Rall W1 mv lv tv wr M0 L0 ts k M R
def jy2(w:vW)(t:Pl)(out:List Pl)(iv:vV)(wr:vW):Prop:=∃ i:Nat,i<=out.length/\iv=.int .i64 i/\Ext w wr/\∀ q∈out.take i,q≠t
theorem jwv{S:vT}{out:List Pl}{k:Nat}{ts M:List Pl}{R:vL}(h:jcD S out k ts M R)(h0:k=0\/ts=[]):M=[]/\R=[]:=by
 cases h with
 | nil=>exact⟨rfl,rfl⟩
 | full=>exact⟨rfl,rfl⟩
 | skip=>rcases h0 with h0 | h0 <;> cases h0
 | no=>rcases h0 with h0 | h0 <;> cases h0
 | go=>rcases h0 with h0 | h0 <;> cases h0
theorem jnN(xs:vL)(n:Nat):(jca xs).take (n * 2)=jca (xs.take n):=by
 induction xs generalizing n with
 | nil=>simp[jca]
 | cons x r ih =>
  cases n with
  | zero=>simp[jca]
  | succ n =>
   have:=ih n
   unfold jca at *;rw[dV,cG,cG, <-this,show (n+1) * 2=n * 2+1+1 by omega];rfl
theorem jlg{T:TypeId}{sz:Nat}{w0 w:vW}{a:Option Addr}{n c:Nat}{xs:List vV}(h:ORow T sz w0 w (.slice a n c) n xs):n<=c:=by
 obtain⟨_,⟨e,E⟩ |⟨g,o,A,e,_,_,H,_⟩⟩:=h.own
 ·omega
 ·obtain⟨_,_,e⟩:=cN e;omega
theorem LRow.pop{W1 wr:vW}{g c:Nat}{t:Pl}{ts:List Pl}(h:LRow W1 wr (.slice (some ⟨g,0,none⟩) (t :: ts).length c) (t :: ts).length (t :: ts).reverse):LRow W1 wr (.slice (some ⟨g,0,none⟩) ts.length c) ts.length ts.reverse:=by
 have e:=jpy (m:=ts.length) h.own (by simp);rw[jnN,gR,gL (by simp),bN (by simp)]at e
 exact⟨⟨_,_,rfl⟩,e,h.ext,fun b hb=>h.new b hb⟩
theorem LRow.last{W1 wr:vW}{g c:Nat}{t:Pl}{ts:List Pl}(h:LRow W1 wr (.slice (some ⟨g,0,none⟩) (t :: ts).length c) (t :: ts).length (t :: ts).reverse):wr.cell? ⟨g,ts.length * 2,none⟩=some (.string t.1)/\wr.cell? ⟨g,ts.length * 2+1,none⟩=some (.string t.2):=by
 have e:(t :: ts).reverse[ts.length]?=some t:=by rw[gR,cQ (by simp)];simp
 obtain⟨o,A⟩:=jdE _ _ _ e
 exact⟨by rw[h.own.cellAt (ts.length * 2) (by simp only[bF];omega),o],by rw[h.own.cellAt (ts.length * 2+1) (by simp only[bF];omega),A]⟩
theorem jgS{T:TypeId}{sz:Nat}{w0 w:vW}{a:Option Addr}{n c:Nat}{xs:List vV}(h:ORow T sz w0 w (.slice a n c) n xs)(hn:n≠0):∃ g,a=some ⟨g,0,none⟩:=by
 obtain⟨_,⟨e,o⟩ |⟨g,A,E,e,_,_,H,_⟩⟩:=h.own
 ·exact absurd o hn
 ·obtain⟨e,_,_⟩:=cN e;exact⟨g,e⟩
theorem WkR.go{S:vT}{out Mall:List Pl}{Rall:vL}{W1:vW}{mv lv tv mv' lv' tv':vV}{w3 wr:vW}{M0:List Pl}{L0:vL}{t:Pl}{ts:List Pl}{k:Nat}{M M2:List Pl}{R R2:vL}{n:jad}
  (h:WkR S out Mall Rall W1 mv lv tv w3 M0 L0 (t :: ts) (k+1) M R) (e1:M=t :: M2) (e2:R=entN n t.1++R2) (hx:jcD S out k (jcF n t.1++ts) M2 R2)
  (met:LRow W1 wr mv' (M0.length+1) (M0++[t])) {m:Nat} (hm:m=(L0++entN n t.1).length) (ent:ERow W1 wr lv' m (L0++entN n t.1)) {q:Nat} (hq:q=ts.length) (tod:LRow W1 wr tv' (q+(jcF n t.1).length) (ts.reverse++(jcF n t.1).reverse))
  (a1:∀ b,tv'.ownBlock=some b->mv'.ownBlock≠some b) (a2:∀ b,tv'.ownBlock=some b->lv'.ownBlock≠some b) (a3:∀ b,mv'.ownBlock=some b->lv'.ownBlock≠some b):jxh S out Mall Rall W1 mv' lv' tv' wr:=by
 subst hm hq;have hb:(jcF n t.1).length<=16:=by rw[<-fJ, <-jfB];exact jcX n t.1 16
 have o:(entN n t.1).length<=1:=by
  unfold entN keyR;split
  ·exact cD _
  ·split <;> simp
 have e:=h.tsl;have A:=h.cnt;have E:=h.lle;simp only[bF]at e
 refine⟨M0++[t],L0++entN n t.1,jcF n t.1++ts,k,M2,R2,by rw[bC];exact met,ent,?_,fun b hb=>⟨a1 b hb,a2 b hb⟩,a3,by rw[bC];simp;omega,hx,?_,?_,?_,?_⟩
 ·rw[bC,List.reverse_append,gN];exact tod
 ·rw[<-h.e1,e1];simp
 ·rw[<-h.e2,e2];simp
 ·rw[bC,bC];simp;omega
 ·rw[bC,bC];simp;omega
theorem jug{S:vT}{out:List Pl}{k:Nat}{t:Pl}{ts M:List Pl}{R:vL}(h:jcD S out (k+1) (t :: ts) M R)(ht:t∈out):jcD S out (k+1) ts M R:=by
 cases h with
 | skip _ _ _ _ _ _ h=>exact h
 | no _ _ _ _ _ h1=>exact absurd ht h1
 | go _ _ _ _ _ _ h1=>exact absurd ht h1
theorem jyI{S:vT}{out:List Pl}{k:Nat}{t:Pl}{ts M:List Pl}{R:vL}(h:jcD S out (k+1) (t :: ts) M R)(ht:t ∉ out) :
  (jg0 S t.2 none/\jcD S out (k+1) ts M R)\/∃ n M' R',M=t :: M'/\R=entN n t.1++R'/\t.1.size<=10000/\jg0 S t.2 (some n)/\jcD S out k (jcF n t.1++ts) M' R':=by
 cases h with
 | skip _ _ _ _ _ h1 h=>exact absurd h1 ht
 | no _ _ _ _ _ h1 h2 h=>exact .inl ⟨h2,h⟩
 | go _ _ _ n M' R' h1 h2 h3 h=>exact .inr ⟨n,M',R',rfl,rfl,h2,h3,h⟩
theorem jem{u v v':vV}{w:vW}(h:∀ b,u.ownBlock=some b->b < w.heap.size)(ha:∀ b,u.ownBlock=some b->v.ownBlock≠some b)(r3:v'.ownBlock=v.ownBlock\/∀ b,v'.ownBlock=some b->w.heap.size<=b):∀ b,u.ownBlock=some b->v'.ownBlock≠some b:=fun b hb e=>by
 rcases r3 with r3 | r3
 ·exact ha b hb (r3 ▸ e)
 ·have:=r3 b e;have:=h b hb;omega
theorem jhw{T:TypeId}{sz:Nat}{w0 w w':vW}{u v:vV}{n:Nat}{xs:List vV}(h:ORow T sz w0 w v n xs)(k:jae (fun b=>u.ownBlock=some b) w w')(ha:∀ b,v.ownBlock=some b->u.ownBlock≠some b)(hn:∀ b,u.ownBlock=some b->w0.heap.size<=b):ORow T sz w0 w' v n xs:=
 h.keeps k (fun b hb e=>ha b hb e) (fun b hb e=>by have:=hn b e;omega)
theorem WkR.pop{S:vT}{out Mall:List Pl}{Rall:vL}{W1:vW}{mv lv:vV}{g c n:Nat}{wr wr':vW}{M0:List Pl}{L0:vL}{t:Pl}{ts:List Pl}{k:Nat}{M:List Pl}{R:vL}
  (h:WkR S out Mall Rall W1 mv lv (.slice (some ⟨g,0,none⟩) (t :: ts).length c) wr M0 L0 (t :: ts) (k+1) M R) (hn:n=ts.length) (hx:jcD S out (k+1) ts M R) (e:Ext wr wr'):jxh S out Mall Rall W1 mv lv (.slice (some ⟨g,0,none⟩) n c) wr':=by
 subst hn;have o:=LRow.pop h.tod
 refine⟨M0,L0,ts,k+1,M,R,ORow.mono h.met e,ORow.mono h.ent e,ORow.mono o e,fun b hb=>h.ap1 b hb,h.ap2,h.cnt,hx,h.e1,h.e2,?_,h.lle⟩
 have:=h.tsl
 simp only[bF]at this;omega
theorem Tryz.plcFields:jhd (Tryz.prog.underlying 98) [(false,9,0),(false,9,1)]=true:=vY
theorem Tryz.plcHeld:Tryz.prog.stoodInHeld 98=false:=vY
theorem jwQ(x y x' y':vB)(w:vW):(binOp .eql 98 (.agg #[.string x,.string y]) (.agg #[.string x',.string y'])).run Tryz.prog w=.ok (.bool (x == x' && y == y')) w:=by
 obtain⟨f,g,X,E,H,J,K,O,Q⟩:=jxF Tryz.plcFields
 have e:∀ (u v:vV) w,(part 9 #[u,v] 0).run Tryz.prog w=.ok u w:=fun u v w=>by
  simp[part,cA,Tryz.strAgg,Result.andThen,cO]
 have o:∀ (u v:vV) w,(part 9 #[u,v] 1).run Tryz.prog w=.ok v w:=fun u v w=>by
  simp[part,cA,Tryz.strAgg,Result.andThen,cO]
 have Z:∀ d,(Op.equalIn (d+2) 98 (.agg #[.string x,.string y]) (.agg #[.string x',.string y'])).run Tryz.prog w=.ok (x == x' && y == y') w:=fun d=>by
  rw[Op.equalIn];simp only[cA,run_underlying X,Result.andThen];simp[cA,Result.andThen,Sem.run,Tryz.plcHeld,E,H,J,K,O,Q,e,o,jxE];cases (x == x')with
  | false=>simp[cO]
  | true =>
   simp[cA,Result.andThen,Sem.run,Tryz.plcHeld,E,H,J,K,O,Q,e,o,jxE];cases (y == y') <;> simp[cO]
 have A:(Op.equal 98 (.agg #[.string x,.string y]) (.agg #[.string x',.string y'])).run Tryz.prog w=.ok (x == x' && y == y') w:=Z 9998;simp only[binOp,cA,A,Result.andThen,cO]
def jA7(W:vW)(M:List Pl)(R:vL)(e:Ending)(w':vW):Prop:=∃ u v,e=.returned (.tuple #[u,v])/\LRow W w' u M.length M/\ERow W w' v R.length R
theorem jp7(W:vW)(s bm:Nat)(room:Int)(S:vT)(hs:jaT W s bm room S)(r:vB)(hr:r.size<=100000)(ov:vV)(out:List Pl)(ho:RdP W ov out)(hol:out.length<=100000){M:List Pl}{R:vL}(hW:jcD S out 400 [(⟨#[]⟩,jao r)] M R) :
  vQ 22 #[.pointer (some ⟨s,0,none⟩),.string r,ov] W (jA7 W M R):=by
 have HS:=Hd hs;have HO:=Hd ho;have HW:=Hd hW
 obtain⟨oa,oc,k5⟩:=ho.sl
 have k6:=Hd hol;subst k5;clear hs ho hW hol;go_enter Tryz.func22,Tryz.ntmps22;go_wp2_with fail
 go_step3;go_wp2_with fail
 refine vH (jBL W r hr) fun w1 HE=>?_;go_wp2_with fail
 obtain⟨w2,d6⟩:=vE (w1.alloc (.cells #[.string ⟨#[]⟩,.string (jao r)] 98))
 have h4:=Hd (show Ext W w2 by rw[d6];exact HE.o.alloc _);have h5:LRow W w2 (.slice (some ⟨w1.heap.size,0,none⟩) 1 1) 1 [(⟨#[]⟩,jao r)]:=by rw[d6];exact ORow.lit #[.string ⟨#[]⟩,.string (jao r)] HE.o vI rfl
 rw[<-d6];clear d6;have k7:=Hd h5;clear h5;go_step3;go_wp2_with fail
 go_loopw [8,9,10] (fun mv lv tv wr=>jxh S out M R W mv lv tv wr) (fun mv _ tv _=>(400 - lenV mv) * 18+lenV tv)
 case atStart =>
  exact⟨[],[],[(⟨#[]⟩,jao r)],400,M,R,ORow.nil _ _ h4.o,ORow.nil _ _ h4.o,k7.o,(by intro b hb;constructor <;> intro e <;> cases e),(by intro b hb;cases hb),rfl,HW.o,rfl,rfl,by simp,bL _⟩
 case round =>
  obtain⟨w3,k8⟩:=vE wr
  subst k8
  obtain⟨Z,L0,ts,k,M',R',hK⟩:=hrel
  obtain⟨ma,mc,rfl⟩:=hK.met.sl
  obtain⟨la,lc,rfl⟩:=hK.ent.sl
  obtain⟨ta,c,rfl⟩:=hK.tod.sl
  have A:=Hd hK;have m5:=hK.cnt;clear hK
  by_cases hend:k=0\/ts=[]
  ·have hz:=jwv A.o.wx hend
   have hM:Z=M:=by have:=A.o.e1;rw[hz.1,bZ]at this;exact this
   have hR:L0=R:=by have:=A.o.e2;rw[hz.2,bZ]at this;exact this
   have HF:=Hd (show LRow W w3 (.slice ma Z.length mc) M.length M/\ERow W w3 (.slice la L0.length lc) R.length R by rw[<-hM, <-hR];exact⟨A.o.met,A.o.ent⟩);clear hz hM hR
   by_cases hts:ts.length=0
   ·rw[hts]
    go_wp2_with fail
    go_ret2
    exact⟨_,_,rfl,HF.o.1,HF.o.2⟩
   ·have c1:(0:Int) < (ts.length:Int):=vO
    have c2:¬(Z.length:Int) < 400:=by
     rcases hend with h | h
     ·omega
     ·rw[h]at hts;exact absurd rfl hts
    go_wp2_with fail
    go_ret2
    exact⟨_,_,rfl,HF.o.1,HF.o.2⟩
  ·obtain⟨k,rfl⟩:∃ k',k=k'+1:=⟨k - 1,by omega⟩
   obtain⟨t,ts,rfl⟩:∃ t ts',ts=t :: ts':=by
    cases ts with
    | nil=>exact absurd (.inr rfl) hend
    | cons t ts=>exact⟨t,ts,rfl⟩
   obtain⟨g,rfl⟩:=jgS A.o.tod (by simp)
   clear hend
   obtain⟨n,hn⟩:=vE ts.length
   have HN:=Hd hn;have hl:(t :: ts).length=n+1:=by rw[hn];rfl
   rw[hl];have c1:(0:Int) < (n:Int)+1:=vO
   have c2:(Z.length:Int) < 400:=vO
   have m7:n<=10000:=by have:=A.o.tsl;rw[hl]at this;omega
   have H:=A.o.tod;rw[hl]at H;have k4:=Hd H;clear hn hl
   obtain⟨p,x⟩:=t
   have hq:=by
    have h:=H;rw[HN.o]at h;exact LRow.last (t:=(p,x)) h
   rw[<-HN.o]at hq
   obtain⟨q1,q2⟩:=hq
   have c3:(n:Int)<=(c:Int):=by have:=jlg H;omega
   clear H;go_wp2_with (refine jaj Tryz.allocPlc rfl rfl ?_;intro W5 h6 h7;refine jah (vs:=[Value.string p,.string x]) rfl rfl rfl rfl h6 rfl Tryz.szPlc (jei _ _) ?_;intro W6 h8 h9)
   have d9:Hid (Ext w3 W6):=(h7.trans' h9 (fun z hz e=>by have e:z=w3.heap.size:=e;omega));have i0:=Hd h8;have e0:=Hd (bL w3.heap.size);clear h6 h7 h8 h9 q1 q2
   obtain⟨pb,i1⟩:=vE w3.heap.size
   rw[<-i1]at i0 ⊢;have e0:=Hd (show w3.heap.size<=pb by omega);clear i1;go_loopw [42] (fun iv w7=>jy2 W6 (p,x) out iv w7) (fun iv _=>out.length - (intOf iv).toNat)
   case atStart=>exact⟨0,cD _,rfl,ExtR W6,by simp⟩
   case round =>
    obtain⟨w7,k9⟩:=vE wr
    subst k9
    obtain⟨i,hi,rfl,e3,b8⟩:=hrel
    have b5:=Hd e3;have a8:=Hd b8;have b6:=Hd (i0.o.keeps e3 (fun h=>h));clear e3 b8
    by_cases hlt:i < out.length
    ·have d1:(i:Int) < (out.length:Int):=vO
     obtain⟨q,hq⟩:∃ q,out[i]?=some q:=⟨_,bA hlt⟩
     have m8:i<=100000:=by have:=k6.o;omega
     rcases HO.o with⟨_,_,_,h0⟩ |⟨b,o,c',hh,hb,hc,hcell⟩
     ·rw[h0]at hlt;cases hlt
     cases hh
     obtain⟨q1,q2⟩:=hcell i q hq
     have e4:=(A.o.met.ext.trans d9.o).trans b5.o;have q1:=jaa q1 e4;have q2:=jaa q2 e4;have HQ:=Hd hq;clear hcell hb hc e4 hq
     obtain⟨qa,qb⟩:=q
     have i2:=Hd hlt;clear hlt
     by_cases he:qa=p/\qb=x
     ·obtain⟨rfl,rfl⟩:=he
      have e5:∀ w,(binOp .eql 98 (.agg #[.string qa,.string qb]) (.agg #[.string qa,.string qb])).run Tryz.prog w=.ok (.bool true) w:=fun w=>by rw[jwQ,jen,jen];simp
      go_wp2_with (first
       |(refine jaj Tryz.allocPlc rfl rfl ?_;intro W8 e6 e7;refine jah (vs:=[Value.string qa,.string qb]) rfl rfl rfl rfl e6 rfl Tryz.szPlc (jei _ _) ?_;intro W9 O Q;have a7:Ext w7 W9:=e7.trans' Q (fun z hz e=>by have e:z=w7.heap.size:=e;omega);have a9:=Hd (b6.o.keeps a7 (fun h=>h)))
       |(refine jaf 98 (.tmp 11) rfl rfl _ _ rfl (jcT W9 pb qa qb a9.o) ?_)
       |(refine jaf 98 (.tmp 13) rfl rfl _ _ rfl (jcT W9 _ qa qb O) ?_)
       |(refine jfx (.tmp 46) (.tmp 47) rfl rfl _ _ _ rfl rfl vY (e5 _) ?_))
      refine vS ?_;have e8:=Hd ((d9.o.trans b5.o).trans a7);clear a7;go_roundw
      case rel=>exact WkR.pop A.o HN.o (jug A.o.wx (bI HQ.o)) e8.o
      case measure=>simp[lenV]
     ·have e5:∀ w,(binOp .eql 98 (.agg #[.string p,.string x]) (.agg #[.string qa,.string qb])).run Tryz.prog w=.ok (.bool false) w:=fun w=>by
       rw[jwQ,jen,jen]
       have:(decide (p=qa) && decide (x=qb))=false:=by
        rw[Bool.and_eq_false_iff]
        by_cases h1:p=qa
        ·right;exact decide_eq_false fun h2=>he ⟨h1.symm,h2.symm⟩
        ·left;exact decide_eq_false h1
       rw[this]
      have l0:=Hd he;clear he;go_wp2_with (first
       |(refine jaj Tryz.allocPlc rfl rfl ?_;intro W8 e6 e7;refine jah (vs:=[Value.string qa,.string qb]) rfl rfl rfl rfl e6 rfl Tryz.szPlc (jei _ _) ?_;intro W9 O Q;have a7:Ext w7 W9:=e7.trans' Q (fun z hz e=>by have e:z=w7.heap.size:=e;omega);have a9:=Hd (b6.o.keeps a7 (fun h=>h)))
       |(refine jaf 98 (.tmp 11) rfl rfl _ _ rfl (jcT W9 pb p x a9.o) ?_)
       |(refine jaf 98 (.tmp 13) rfl rfl _ _ rfl (jcT W9 _ qa qb O) ?_)
       |(refine jfx (.tmp 46) (.tmp 47) rfl rfl _ _ _ rfl rfl vY (e5 _) ?_))
      have e8:=Hd (b5.o.trans a7);clear a7;go_roundw
      case rel=>exact⟨i+1,by have:=i2.o;omega,by go_num,e8.o,by
       rw[bW,HQ.o];intro y hy;rcases bU.1 hy with hy | hy
       ·exact a8.o y hy
       ·simp at hy;rw[hy];exact fun e=>l0.o ⟨congrArg Prod.fst e,congrArg Prod.snd e⟩⟩
      case measure=>have:=i2.o;simp[intOf];omega
    ·obtain rfl:i=out.length:=vO
     have d1:¬(out.length:Int) < (out.length:Int):=vO
     have c0:(p,x) ∉ out:=fun hm=>a8.o (p,x) (by rw[cL];exact hm) rfl;have g0:=Hd c0;have e9:=Hd (d9.o.trans b5.o);have i3:=Hd (HS.o.ext (A.o.met.ext.trans e9.o));have q4:=b6.o.cell (i:=1) (v:=.string x) vF;clear c0 hi a8 b5;rcases jyI A.o.wx g0.o with⟨hR,hx⟩ |⟨nd,M2,R2,e1,e2,i4,hR,hx⟩
     ·have HR:=Hd hR
      have b7:=Hd hx;clear hR hx;go_wp2_with fail
      refine vH (jl2 w7 s bm room S i3.o HR.o) fun W8 hE=>?_;have d7:=Hd (e9.o.trans hE);unfold jad.V;go_wp2_with (refine jaj Tryz.allocNode rfl rfl ?_;intro W9 O Q;refine jah (vs:=jaH.cells) rfl rfl rfl rfl O rfl Tryz.szNode jaH.one ?_;intro J a3 a0)
      have a1:=Hd (d7.o.trans (Q.trans' a0 (fun z hz e=>by have e:z=W8.heap.size:=e;omega)));clear O Q a3 a0;refine (jkO J).mono ?_;rintro e l1 ⟨rfl,rfl⟩;go_wp2_with fail
      go_roundw
      case rel=>exact WkR.pop A.o HN.o b7.o a1.o
      case measure=>simp[lenV]
     ·obtain⟨dg,hg⟩:=hR.good
      have b0:=hg.one (inlP dg);have m9:=b0.path;have f0:=b0.refs;have i4:p.size<=10000:=i4;have i5:=Hd f0;have c4:=Hd (nd.cells_len f0);have HR:=Hd hR;have b7:=Hd hx;have f8:=Hd e1;have b1:=Hd e2;clear hR hx e1 e2 hg b0 f0;go_wp2_with fail
      refine vC (joU w7 s bm room S i3.o HR.o) fun W8 hE=>?_;have d7:=Hd (e9.o.trans hE);have i6:=Hd (b6.o.keeps hE (fun h=>h));clear hE q4;unfold jad.V;go_wp2_with (refine jaj Tryz.allocNode rfl rfl ?_;intro W9 O Q;refine jah (vs:=nd.cells) rfl rfl rfl rfl O (by rw[c4.o];rfl) (by rw[c4.o];exact Tryz.szNode) nd.one ?_;intro J a3 a0)
      have b2:Ext W8 J:=Q.trans' a0 (fun z hz e=>by have e:z=W8.heap.size:=e;omega);have a1:=Hd (d7.o.trans b2);have c5:=Hd (i6.o.keeps b2 (fun h=>h));have c6:=Hd a3;clear O Q a3 a0 b2 i6 b6
      obtain⟨nb,i7⟩:=vE W8.heap.size
      have c7:=Hd (show w3.heap.size<=nb by have:=d7.o.size;omega);rw[<-i7]at c6 ⊢;clear i7;refine (jhk J).mono ?_;rintro e l1 ⟨rfl,rfl⟩
      -- met
      have l2:Z.length+1<=maxLen:=by unfold maxLen;omega
      have l3:(Z.length+1) * 32<=140737488355328:=vO
      have l4:=Hd (ORow.mono A.o.met a1.o);have i8:=Hd (ORow.mono A.o.ent a1.o);have i9:LRow W w3 (.slice (some ⟨g,0,none⟩) n c) n ts.reverse:=by have:=LRow.pop A.o.tod;rw[<-HN.o]at this;exact this
      have j0:=Hd (ORow.mono i9 a1.o);clear i9;have j1:Hid (∀ z,w3.heap.size<=z->¬(Value.slice ma Z.length mc).ownBlock=some z):=(fun z hz e=>by have:=A.o.met.lt z e;omega);go_wp2_with (first
       |(refine jaf 98 (.tmp 11) rfl rfl _ _ rfl (jcT J pb p x c5.o) ?_)
       |(at_builtin;(refine jaO Tryz.sPlcs (ORow.mono l4.o ((ExtR J).alloc _)) (.tmp 60) (.tmp 62) rfl rfl rfl (jaJ (Blk.new J _)) (news:=[.string p,.string x]) (jei _ _) rfl rfl l2 l3 ?_;intro n0 j2 r1 X r3;have c8:=Hd ((c6.o.alloc _).keeps X (j1.o _ c7.o));have c9:=Hd ((c5.o.alloc _).keeps X (j1.o _ e0.o));have g2:=Hd (jhw (ORow.mono j0.o ((ExtR J).alloc _)) X (fun b hb=>(A.o.ap1 b hb).1) A.o.met.new);have g4:=Hd (jhw (ORow.mono i8.o ((ExtR J).alloc _)) X (fun b hb e=>A.o.ap2 b e hb) A.o.met.new);have j3:=Hd (jem (ORow.mono j0.o ((ExtR J).alloc _)).lt (fun b hb=>(A.o.ap1 b hb).1) r3);have d8:=Hd (jem (ORow.mono i8.o ((ExtR J).alloc _)).lt (fun b hb e=>A.o.ap2 b e hb) r3);have g5:=Hd r1;have l5:=c9.o.cell (i:=0) (v:=.string p) vF;obtain⟨j4,j5,rfl⟩:=r1.sl;clear r1 X r3))
       |(refine jaf 103 (.tmp 14) rfl rfl _ _ rfl (jaq j2 nb nd i5.o c8.o) ?_))
      refine (jxl j2 nd i5.o vO p vO).mono ?_;rintro e j6 ⟨bv,rfl,a4⟩;have l6:(jcF nd p).length<=16:=by rw[<-fJ, <-jfB];exact jcX nd p 16
      obtain⟨q,hq⟩:=vE (n+(jcF nd p).length)
      have HQ:=Hd hq;have m6:=Hd a4.ext;have j7:=Hd a4;have j8:q<=1000000:=vO
      have j9:Hid (∀ z,w3.heap.size<=z->¬(Value.slice (some ⟨g,0,none⟩) n c).ownBlock=some z):=(fun z hz e=>by have:=A.o.tod.lt z e;omega);have d0:=Hd (ORow.mono g5.o a4.ext);have d2:=Hd (ORow.mono g4.o a4.ext);have d3:=Hd (ORow.mono g2.o a4.ext);have g6:=Hd (c8.o.keeps a4.ext (fun h=>h));have g7:=Hd (c9.o.keeps a4.ext (fun h=>h));clear a4 hq l6 l5;have d4:∀ (K:vV) (E:vW),ORow 98 2 W E K q (jca ts.reverse++jca (jcF nd p).reverse)->jae (fun b=>(Value.slice (some ⟨g,0,none⟩) n c).ownBlock=some b) j6 E->(K.ownBlock=(Value.slice (some ⟨g,0,none⟩) n c).ownBlock\/∀ b,K.ownBlock=some b->j6.heap.size<=b) ->
        LRow W E (.slice j4 (Z.length+1) j5) (Z.length+1) (Z++[(p,x)])/\ERow W E (.slice la L0.length lc) L0.length L0/\LRow W E K q (ts.reverse++(jcF nd p).reverse)/\(∀ b,K.ownBlock=some b->(Value.slice j4 (Z.length+1) j5).ownBlock≠some b)/\(∀ b,K.ownBlock=some b->(Value.slice la L0.length lc).ownBlock≠some b)/\Blk E nb (.cells nd.cells.toArray 103)/\Blk E pb (.cells [Value.string p,.string x].toArray 98):=fun K E r1 X r3=>by
       refine⟨?_,jhw d2.o X (fun b hb e=>(A.o.ap1 b e).2 hb) A.o.tod.new,?_,?_,?_,g6.o.keeps X (j9.o _ c7.o),g7.o.keeps X (j9.o _ e0.o)⟩
       ·have:=jhw d0.o X (fun b hb e=>j3.o b e hb) A.o.tod.new
        unfold LRow;rw[jbb];exact this
       ·unfold LRow;rw[jbb];exact r1
       ·exact fun b hb e=>jem d0.o.lt (fun b hb e=>j3.o b e hb) r3 b e hb
       ·exact fun b hb e=>jem d2.o.lt (fun b hb e=>(A.o.ap1 b e).2 hb) r3 b e hb
      have d5:=Hd d4;clear d4
      by_cases hv:nd.value.size=0
      ·have l7:nd.value.toList.isEmpty=true:=by
        rw[bR]
        have:nd.value.data.toList=[]:=bE hv
        rw[this];rfl
       have a5:entN nd p=[]:=by unfold entN;rw[if_pos hv]
       have a6:=Hd a5;clear a5 hv;go_wp2_with (refine jjj Tryz.sPlcs d3.o j7.o HQ.o.symm rfl rfl j8 vI ?_;intro K E r1 X r3;obtain⟨f1,f2,f3,f4,f5,f6,f7⟩:=d5.o K E r1 X r3;have k0:=f6.cellL (i:=2) (v:=.string nd.value) rfl;have HF:=Hd (bB f1 (bB f2 (bB f3 (bB f4 f5))));obtain⟨l8,l9,rfl⟩:=r1.sl;clear r1 X r3 f1 f2 f3 f4 f5 f6 f7)
       go_roundw
       case rel =>
        obtain⟨f1,f2,f3,f4,f5⟩:=HF.o
        exact WkR.go A.o f8.o b1.o b7.o f1 (show L0.length=(L0++entN nd p).length by rw[a6.o,bZ]) (by rw[a6.o,bZ];exact f2) HN.o (by rw[<-HQ.o];exact f3) f4 f5 (fun b hb e=>d8.o b e hb)
       case measure =>
        have:=HQ.o
        have:(jcF nd p).length<=16:=by rw[<-fJ, <-jfB];exact jcX nd p 16
        show (400 - (Z.length+1)) * 18+q < (400 - Z.length) * 18+(n+1);omega
      ·have l7:nd.value.toList.isEmpty=false:=by
        rw[bR];cases hd:nd.value.data.toList with
        | nil=>exact absurd (congrArg List.length hd) hv
        | cons x l=>rfl
       have b9:¬(9223372036854775807 < p.size+nd.path.size):=vO
       have g8:(p++nd.path).size<=1000000:=by rw[bV];omega
       have HV:=Hd hv;clear hv;go_wp2_with (refine jjj Tryz.sPlcs d3.o j7.o HQ.o.symm rfl rfl j8 vI ?_;intro K E r1 X r3;obtain⟨f1,f2,f3,f4,f5,f6,f7⟩:=d5.o K E r1 X r3;have k0:=f6.cellL (i:=2) (v:=.string nd.value) rfl;have m0:=f6.cellL (i:=1) (v:=.string nd.path) rfl;have m1:=f7.cell (i:=0) (v:=.string p) vF;have HF:=Hd (bB f1 (bB f2 (bB f3 (bB f4 f5))));have g9:=Hd f6;obtain⟨l8,l9,rfl⟩:=r1.sl;clear r1 X r3 f1 f2 f3 f4 f5 f6 f7)
       refine vC (jsB E (p++nd.path) g8) fun f9 b3=>?_;unfold keyV;have a2:=Hd b3;have n1:=(g9.o.keeps b3 (fun h=>h)).cellL (i:=2) (v:=.string nd.value) rfl;clear b3 k0 m0 m1;cases hko:jdj (p++nd.path)with
       | false =>
        have a5:entN nd p=[]:=by unfold entN keyR;rw[if_neg HV.o,if_neg (by rw[hko];exact Bool.false_ne_true)]
        have a6:=Hd a5;clear a5 hko;go_wp2_with fail
        go_roundw
        case rel =>
         obtain⟨f1,f2,f3,f4,f5⟩:=HF.o
         exact WkR.go A.o f8.o b1.o b7.o (ORow.mono f1 a2.o) (show L0.length=(L0++entN nd p).length by rw[a6.o,bZ]) (by rw[a6.o,bZ];exact ORow.mono f2 a2.o) HN.o (by rw[<-HQ.o];exact ORow.mono f3 a2.o) f4 f5 (fun b hb e=>d8.o b e hb)
        case measure =>
         have:=HQ.o
         have:(jcF nd p).length<=16:=by rw[<-fJ, <-jfB];exact jcX nd p 16
         show (400 - (Z.length+1)) * 18+q < (400 - Z.length) * 18+(n+1);omega
       | true =>
        have a5:entN nd p=[(jbu (p++nd.path),nd.value)]:=by unfold entN keyR;rw[if_neg HV.o,if_pos hko]
        have a6:=Hd a5;clear a5 hko
        obtain⟨k1,b4⟩:=vE (jbu (p++nd.path))
        have h3:=Hd b4;have n2:L0.length<=400:=by have:=A.o.lle;omega
        have m2:L0.length+1<=maxLen:=by unfold maxLen;omega
        have m3:(L0.length+1) * 32<=140737488355328:=vO
        rw[if_pos rfl, <-b4];clear b4;go_wp2_with (at_builtin;(refine jaO Tryz.sEnts (ORow.mono (ORow.mono HF.o.2.1 a2.o) ((ExtR f9).alloc _)) (.tmp 83) (.tmp 88) rfl rfl rfl (jaJ (Blk.new f9 _)) (news:=[.string k1,.string nd.value]) (jei _ _) rfl rfl m2 m3 ?_;intro n3 n4 r1 X r3))
        have m4:=Hd r1;have k2:=Hd X;have k3:=Hd r3
        obtain⟨n5,n6,rfl⟩:=r1.sl
        clear r1 X r3;go_roundw
        case rel =>
         obtain⟨f1,f2,f3,f4,f5⟩:=HF.o
         have hx:=a2.o.trans ((ExtR f9).alloc (.cells #[.string k1,.string nd.value] 42));have g1:=jhw (ORow.mono f1 hx) k2.o (fun b hb e=>d8.o b e hb) f2.new;have g3:=jhw (ORow.mono f3 hx) k2.o (fun b hb e=>f5 b hb e) f2.new;refine WkR.go A.o f8.o b1.o b7.o g1 (m:=L0.length+1) (by rw[a6.o,bC];rfl) (by rw[a6.o];unfold ERow;rw[jbb, <-h3.o];exact m4.o) HN.o (by rw[<-HQ.o];exact g3) f4 ?_ ?_
         ·exact jem (ORow.mono f3 hx).lt f5 k3.o
         ·exact jem (ORow.mono f1 hx).lt (fun b hb e=>d8.o b e hb) k3.o
        case measure =>
         have:=HQ.o
         have:(jcF nd p).length<=16:=by rw[<-fJ, <-jfB];exact jcX nd p 16
         show (400 - (Z.length+1)) * 18+q < (400 - Z.length) * 18+(n+1);omega
end
section
open Go Go.RowKit
def rowE(e:Pair):Pair:=(jbv e.1,e.2)
theorem jn4(e:Pair):keyE (rowE e)=e:=by unfold keyE rowE;rw[jfK]
theorem jnt(l:vL):absP ⟨#[]⟩ l=l:=by
 unfold absP
 conv=>rhs;rw[<-List.map_id l]
 exact dI fun q _=>by rw[jpt];rfl
theorem jyc(x:vB):preB ⟨#[]⟩ x=true:=(jds _ _).2 ⟨x.data.toList,rfl⟩
theorem jtQ{e:Pair}{l:vL}:rowE e∈jaP l↔e∈l:=by
 constructor
 ·intro h
  obtain⟨p,o,h⟩:=bK.1 h
  have:=congrArg keyE h
  rw[show ((jbv p.1,p.2):Pair)=rowE p from rfl,jn4,jn4]at this;rw[<-this];exact o
 ·exact fun h=>bK.2 ⟨e,h,rfl⟩
theorem jp0{l:vL}(h:jaz l=0)(out:List Pl):jnf out l=l.filter fun e => !jeR (metT [] l) out (jbv e.1):=by
 have E:=jbD (jaD h);have A:metT [] l=topP l ::(jck ⟨#[]⟩ (jaP l)).flatMap fun k=>metF [] 12 k.1 k.2:=by unfold metT;rw[if_neg (cM)]
 unfold jnf
 by_cases ho:topP l∈out
 ·rw[if_pos ho,eq_comm,iD]
  intro e H;rw[A,jfV,show (topP l).1=⟨#[]⟩from rfl,jyc];simp[ho]
 ·rw[if_neg ho,jmA (f:=11) out ⟨#[]⟩ E (jow out 11),jnt]
  have o:∀ P:Pair->Bool,(((jaP l).filter P).map keyE)=l.filter fun e=>P (rowE e):=fun P=>by
   show (((l.map rowE).filter P).map keyE)=_;rw[List.filter_map,dN];rw[dI (f:=keyE ∘ rowE) (g:=id) fun e _=>jn4 e,List.map_id];rfl
  rw[o];refine List.filter_congr fun e H=>?_;rw[A,jfV,decide_eq_false ho];rfl
theorem jsT{l:vL}(h:jaz l=0){q:Pl}(e:q∈metT [] l):q=topP l\/(0 < q.1.size/\∃ m,jkn 12 ⟨#[]⟩ (jaP l) q m):=by
 have A:=jbD (jaD h);unfold metT at e;rw[if_neg (cM)]at e;rcases bM.1 e with e | e
 ·exact .inl e
 ·obtain⟨k,E,e⟩:=cU.1 e
  have o:=jgb (f:=11) A k E
  obtain⟨m,H⟩:=jvR 11 _ _ o.rows o.ne q e
  refine .inr ⟨?_,m,jml (f:=11) A E e H⟩;have J:=jk7 (jkS 11 _ _ o.rows q e);have K:=o.more;have O:(⟨#[]⟩:vB).size=0:=rfl;omega
theorem jqG{f g:Nat}{l m:vL}(A:jap f l)(hm:jap g m){U:vM}(hU:InjL U)(h1:∀ x∈jav (jac (f+1) l),32<=x.size->x∈U)(h2:∀ x∈jav (jac (g+1) m),32<=x.size->x∈U) :
  jjv (jaA (jbp (jac (f+1) l))) (jaA (jbp (jac (g+1) m))):=by
 have o:∀ {f:Nat} {l:vL},jap f l->(∀ x∈jav (jac (f+1) l),32<=x.size->x∈U)->∀ x∈jaA (jbp (jac (f+1) l)),x∈U:=fun {f l} A h x e=>by
  by_cases hz:(jac (f+1) l).text.size < 32
  ·unfold jbp at e
   rw[if_pos hz]at e;cases e
  ·rw[jgA hz]at e
   refine h x e ?_;rcases jvg A e with rfl | h
   ·omega
   ·exact h
 exact fun x e y E=>hU x (o A h1 x e) y (o hm h2 y E)
theorem jv2(w:vW){l m:vL}(hl:jap 12 l)(hm:jap 12 m)(nl:l≠[])(nm:m≠[]){U:vM}(hU:InjL U)(h1:∀ x∈jav (jac 13 l),32<=x.size->x∈U)(h2:∀ x∈jav (jac 13 m),32<=x.size->x∈U)(h:refT l=refT m):l=m:=by
 obtain⟨e,o⟩:=jjf ((good 12 l hl).2.1 nl) ((good 12 m hm).2.1 nm) h (jqG hl hm hU h1 h2)
 exact jmE w 12 l m hl hm o e
theorem jp8(w:vW){a b:vL}(ha:jaz a=0)(hb:jaz b=0){U:vM}(hU:InjL U)(h1:∀ x∈jav (jaG a),x∈U)(h2:∀ x∈jav (jaG b),x∈U){e:Pair}(h:jeR (metT [] a) (metT [] b) (jbv e.1)=true)(he:e∈a):e∈b:=by
 obtain⟨q,J,h⟩:=fP.1 h
 obtain⟨E,K⟩:q∈metT [] b/\preB q.1 (jbv e.1)=true:=by
  have:=iM.1 h
  exact⟨of_decide_eq_true this.1,this.2⟩
 rcases jsT ha J with e1 |⟨e1,m,hm⟩ <;> rcases jsT hb E with e2 |⟨e2,n,hn⟩
 ·have O:(topP a).2=(topP b).2:=by rw[<-e1, <-e2]
  have Q:shaB (jaG a).text=shaB (jaG b).text:=jkk (jbd _) (jbd _) O
  have:=hU _ (h1 _ (jbW _)) _ (h2 _ (jbW _)) Q
  rw[<-jwq w ha hb (fun x A y X=>hU x (h1 x A) y (h2 y X)) this];exact he
 ·rw[e1]at e2;exact absurd e2 (Nat.lt_irrefl 0)
 ·rw[e2]at e1;exact absurd e1 (Nat.lt_irrefl 0)
 ·have:m=n:=jv2 w hm.rows hn.rows hm.ne hn.ne hU (fun x A o=>h1 x (hm.text x A o)) (fun x A o=>h2 x (hn.text x A o)) (hm.ref.symm.trans hn.ref)
  subst this;have Z:=hm.down (rowE e) (by rw[jnt];exact jtQ.2 he) K;have H:=hn.up _ Z;rw[jnt]at H;exact jtQ.1 H
theorem jp9(A B:List Pl)(e:vB):jeR A B e=jeR B A e:=by
 unfold jeR;rw[jB,fP,fP];constructor <;>
 ·rintro⟨q,o,h⟩
  have:=iM.1 h
  exact⟨q,of_decide_eq_true this.1,by rw[iM];exact⟨decide_eq_true o,this.2⟩⟩
theorem jkP(x:vB):jbc x x=false:=gD.2 fun h=>lt_irrefl _ ((jbl _ _).1 h)
theorem jms(x y:vB)(h:jbc x y=true):jbc y x=false:=gD.2 fun k=>jmu _ _ ((jbl _ _).1 h) ((jbl _ _).1 k)
theorem jhq(x y z:vB)(h:jbc x y=true)(k:jbc y z=true):jbc x z=true:=(jbl _ _).2 (jdV _ _ _ ((jbl _ _).1 h) ((jbl _ _).1 k))
theorem jsJ(x y:vB)(h:jbc x y=false)(k:jbc y x=false):x=y:=by
 rcases jiN x.data.toList y.data.toList with h1 | h1 | h1
 ·rw[(jbl _ _).2 h1]at h;cases h
 ·exact jbo h1
 ·rw[(jbl _ _).2 h1]at k;cases k
theorem jm0{l:vL}(h:jaz l=0):jlA l:=(jaD h).rise.imp fun {p q} h=>(jbl _ _).2 h
theorem jd2{l:vL}(h:jaz l=0)(P:Pair->Bool):jaz (l.filter P)=0:=
 jpx (fun p e=>jn9 h p (cP.1 e).1) ((jaD h).rise.filter _) (bJ (dF _ _) (jaD h).len)
theorem jvK(w:vW){a b:vL}(ha:jaz a=0)(hb:jaz b=0){U:vM}(hU:InjL U)(h1:∀ x∈jav (jaG a),x∈U)(h2:∀ x∈jav (jaG b),x∈U) :
  jaz (jnf (metT [] b) a)=0/\jaz (jnf (metT [] a) b)=0/\jcs (jnf (metT [] b) a) (jnf (metT [] a) b)=jcs a b:=by
 rw[jp0 ha,jp0 hb]
 refine⟨jd2 ha _,jd2 hb _,?_⟩
 unfold jcs;rw[if_pos ⟨jd2 ha _,jd2 hb _⟩,if_pos ⟨ha,hb⟩];rw[show (fun e:Pair => !jeR (metT [] b) (metT [] a) (jbv e.1))=fun e:Pair => !jeR (metT [] a) (metT [] b) (jbv e.1) by funext e;rw[jp9]];exact jsb jkP jms jhq jsJ (fun e=>jeR (metT [] a) (metT [] b) (jbv e.1)) a b (jm0 ha) (jm0 hb) fun e o =>
  ⟨jp8 w ha hb hU h1 h2 o,jp8 w hb ha hU h2 h1 (by rw[jp9];exact o)⟩
inductive jb6 (S:vT) (out:vM):vM->vM->vM->Prop
 | nil (L:vM):jb6 S out L [] L
 | seen (L:vM) (h:vB) (hs R:vM):(h∈L\/h∈out)->jb6 S out L hs R->jb6 S out L (h :: hs) R
 | no (L:vM) (h:vB) (hs R:vM):h ∉ L->h ∉ out->h.size=32->atL S h.data.toList=none->jb6 S out L hs R->jb6 S out L (h :: hs) R
 | go (L:vM) (h:vB) (hs:vM) (y:Nd5) (n:jad) (R:vM):h ∉ L->h ∉ out->h.size=32->L.length+1<=S.length->atL S h.data.toList=some y->jbs y.2.2.text n->jb6 S out (L++[h]) ((jaL n).reverse++hs) R->jb6 S out L (h :: hs) R
theorem jss{d:Nat}{n:jad}(hg:jbS (InlD d) n):∀ h∈jaL n,h.size=32:=by
 intro h o
 obtain⟨r,A,e⟩:=List.mem_filterMap.1 o
 by_cases hz:r.size=0
 ·rw[jby hz,jfj]at e;cases e
 rcases jpc hg r A hz with⟨k,h1,h2⟩ |⟨m,hm⟩
 ·rw[h2,jep h1]at e
  rw[<-bO e];exact h1
 ·rw[jdS (inlP d) hm]at e;cases e
theorem jsI{α:Type}[DecidableEq α]:∀ {a b:List α},a.Nodup->(∀ x∈a,x∈b)->a.length<=b.length
 | [],b,_,_=>cD _
 | x :: a,b,hn,h=>by
  rw[fF]at hn
  have:=jsI (b:=b.erase x) hn.2 fun y o=>(List.mem_erase_of_ne (fun e=>by subst e;exact hn.1 o)).2 (h y (bD _ o))
  rw[List.length_erase_of_mem (h x bG)]at this
  have:=List.length_pos_of_mem (h x bG)
  simp only[bF];omega
structure jhC(S:vT)(L:vM):Prop where
 nodup:L.Nodup
 there:∀ h∈L,h.data.toList∈S.map (·.1)
theorem jhC.len{S:vT}{L:vM}(h:jhC S L):L.length<=S.length:=by
 have:=jsI (a:=L.map fun x:vB=>x.data.toList) (b:=S.map (·.1)) ?_ fun x A=>?_
 ·simpa using this
 ·have:∀ {L:vM},L.Nodup->(L.map fun x:vB=>x.data.toList).Nodup:=fun {L} h=>by
   induction L with
   | nil=>exact .nil
   | cons x L ih =>
    rw[fF]at h;rw[bS,fF]
    refine⟨fun E=>?_,ih h.2⟩
    obtain⟨y,o,e⟩:=bK.1 E
    rw[jbo e]at o;exact h.1 o
  exact this h.nodup
 ·obtain⟨y,o,rfl⟩:=bK.1 A
  exact h.there y o
theorem jhC.add{S:vT}{L:vM}(h:jhC S L){k:vB}(hk:k ∉ L){y:Nd5}(hy:atL S k.data.toList=some y):jhC S (L++[k]):=by
 refine⟨fL.2 ⟨h.nodup,by simp,fun a A b hb=>?_⟩,fun x o=>?_⟩
 ·rw[bY.1 hb]
  exact fun e=>hk (e ▸ A)
 ·rcases bU.1 o with o | o
  ·exact h.there x o
  ·rw[bY.1 o]
   obtain⟨E,H⟩:=jba hy
   exact bK.2 ⟨y,E,H⟩
theorem jpI{S:vT}(hN:AllN S)(out:vM):∀ (m:Nat) (L A:vM),jhC S L->S.length<=L.length+m->(∀ h∈A,h.size=32)->∃ R,jb6 S out L A R:=by
 intro m;induction m with
 | zero =>
  intro L A K X;induction A with
  | nil=>exact fun _=>⟨L,.nil L⟩
  | cons h A ih =>
   intro o
   obtain⟨R,H⟩:=ih fun x E=>o x (bD _ E)
   by_cases h1:h∈L\/h∈out
   ·exact⟨R,.seen L h A R h1 H⟩
   ·cases hy:atL S h.data.toList with
    | none=>exact⟨R,.no L h A R (fun e=>h1 (.inl e)) (fun e=>h1 (.inr e)) (o h bG) hy H⟩
    | some y =>
     have:=(K.add (fun e=>h1 (.inl e)) hy).len
     rw[bC]at this;simp at this;omega
 | succ m ihm =>
  intro L A K X;induction A with
  | nil=>exact fun _=>⟨L,.nil L⟩
  | cons h A ih =>
   intro o
   by_cases h1:h∈L\/h∈out
   ·obtain⟨R,H⟩:=ih fun x E=>o x (bD _ E)
    exact⟨R,.seen L h A R h1 H⟩
   ·cases hy:atL S h.data.toList with
    | none =>
     obtain⟨R,H⟩:=ih fun x E=>o x (bD _ E)
     exact⟨R,.no L h A R (fun e=>h1 (.inl e)) (fun e=>h1 (.inr e)) (o h bG) hy H⟩
    | some y =>
     obtain⟨n,O⟩:=hN y (jba hy).1
     have J:=K.add (fun e=>h1 (.inl e)) hy;have Q:=J.len;rw[bC]at Q
     obtain⟨R,H⟩:=ihm (L++[h]) ((jaL n).reverse++A) J (by rw[bC];simp;omega) fun x E=>by
      rcases bU.1 E with E | E
      ·obtain⟨_,g,Z⟩:=O
       exact jss Z x (List.mem_reverse.1 E)
      ·exact o x (bD _ E)
     exact⟨R,.go L h A y n R (fun e=>h1 (.inl e)) (fun e=>h1 (.inr e)) (o h bG) (by simpa using Q) hy O H⟩
theorem jj8{S:vT}{out L hs R:vM}(h:jb6 S out L hs R):∀ x∈L,x∈R:=by
 induction h with
 | nil L=>exact fun x e=>e
 | seen L h hs R _ _ ih=>exact ih
 | no L h hs R _ _ _ _ _ ih=>exact ih
 | go L h hs y n R _ _ _ _ _ _ _ ih=>exact fun x e=>ih x (dH _ e)
theorem ji1{S:vT}{out L hs R:vM}(h:jb6 S out L hs R):L.Nodup->R.Nodup:=by
 induction h with
 | nil L=>exact id
 | seen L h hs R _ _ ih=>exact ih
 | no L h hs R _ _ _ _ _ ih=>exact ih
 | go L h hs y n R h1 _ _ _ _ _ _ ih =>
  exact fun o=>ih (fL.2 ⟨o,by simp,fun a A b hb=>by rw[bY.1 hb];exact fun e=>h1 (e ▸ A)⟩)
theorem jmT{S:vT}{out L hs R:vM}(h:jb6 S out L hs R)(Q:vB->Prop)(hQ:∀ (k:vB) (y:Nd5) (n:jad),Q k->atL S k.data.toList=some y->jbs y.2.2.text n->∀ x∈jaL n,Q x) :
  (∀ x∈hs,Q x)->∀ x∈R,x∈L\/(Q x/\x ∉ out/\x.data.toList∈S.map (·.1)):=by
 induction h with
 | nil L=>exact fun _ x e=>.inl e
 | seen L h hs R _ _ ih=>exact fun o=>ih fun x e=>o x (bD _ e)
 | no L h hs R _ _ _ _ _ ih=>exact fun o=>ih fun x e=>o x (bD _ e)
 | go L h hs y n R h1 h2 h3 _ h4 h5 _ ih =>
  intro o x e;have A:=o h bG;rcases ih (fun z E=>by
   rcases bU.1 E with E | E
   ·exact hQ h y n A h4 h5 z (List.mem_reverse.1 E)
   ·exact o z (bD _ E)) x e with h6 | h6
  ·rcases bU.1 h6 with h6 | h6
   ·exact .inl h6
   ·rw[bY.1 h6]
    obtain⟨H,J⟩:=jba h4
    exact .inr ⟨A,h2,bK.2 ⟨y,H,J⟩⟩
  ·exact .inr h6
theorem jqT{S:vT}{out L hs R:vM}(h:jb6 S out L hs R)(hL:∀ k∈L,∀ y n,atL S k.data.toList=some y->jbs y.2.2.text n->∀ x∈jaL n,x∈L\/x∈hs\/x∈out\/atL S x.data.toList=none)(w:vW) :
  (∀ x∈hs,x∈R\/x∈out\/atL S x.data.toList=none)/\∀ k∈R,∀ y n,atL S k.data.toList=some y->jbs y.2.2.text n->∀ x∈jaL n,x∈R\/x∈out\/atL S x.data.toList=none:=by
 induction h with
 | nil L =>
  refine⟨fun x e=>(cM e).elim,fun k o y n E O x e=>?_⟩
  rcases hL k o y n E O x e with h | h | h
  ·exact .inl h
  ·exact (cM h).elim
  ·exact .inr h
 | seen L h hs R E hR ih =>
  obtain⟨J,K⟩:=ih fun k o y n A H x e=>by
   rcases hL k o y n A H x e with h | h | h
   ·exact .inl h
   ·rcases bM.1 h with rfl | h
    ·exact E.elim .inl fun h=>.inr (.inr (.inl h))
    ·exact .inr (.inl h)
   ·exact .inr (.inr h)
  refine⟨fun x e=>?_,K⟩
  rcases bM.1 e with rfl | e
  ·exact E.elim (fun h=>.inl (jj8 hR _ h)) fun h=>.inr (.inl h)
  ·exact J x e
 | no L h hs R E O h3 h4 hR ih =>
  obtain⟨J,K⟩:=ih fun k o y n A H x e=>by
   rcases hL k o y n A H x e with h | h | h
   ·exact .inl h
   ·rcases bM.1 h with rfl | h
    ·exact .inr (.inr (.inr h4))
    ·exact .inr (.inl h)
   ·exact .inr (.inr h)
  refine⟨fun x e=>?_,K⟩
  rcases bM.1 e with rfl | e
  ·exact .inr (.inr h4)
  ·exact J x e
 | go L h hs y n R E O h3 _ h4 h5 hR ih =>
  obtain⟨J,K⟩:=ih fun k o X Q A H x e=>by
   rcases bU.1 o with o | o
   ·rcases hL k o X Q A H x e with h | h | h
    ·exact .inl (dH _ h)
    ·rcases bM.1 h with rfl | h
     ·exact .inl (by simp)
     ·exact .inr (.inl (gA _ h))
    ·exact .inr (.inr h)
   ·obtain rfl:=bY.1 o
    rw[h4]at A;obtain rfl:=bO A
    obtain⟨Z,g1,a2⟩:=h5
    obtain⟨b1,g2,b2⟩:=H
    obtain rfl:n=Q:=jdl w a2 b2 (Z.symm.trans b1);exact .inr (.inl (dH _ (List.mem_reverse.2 e)))
  refine⟨fun x e=>?_,K⟩
  rcases bM.1 e with rfl | e
  ·exact .inl (jj8 hR _ (by simp))
  ·exact J x (gA _ e)
theorem ju6(G:vB->Prop):∀ (f:Nat) (l:vL),jap f l->(∀ t∈jav (jac (f+1) l),∀ n,jbs t n->G (shaB t)->∀ h∈jaL n,G h)->G (shaB (jac (f+1) l).text)->∀ t∈jav (jac (f+1) l),G (shaB t):=by
 intro f;induction f with
 | zero =>
  intro l h _ E t o;have Q:jas (jac 0) l=[]:=by have:=jbI h;unfold jas;rw[if_pos vO]
  have H:jav (jac (0+1) l)=(jac (0+1) l).text :: jaA (jas (jac 0) l):=by
   show jav (.mk (jaQ (jar (jac 0) l)) (jas (jac 0) l))=_;rw[jav];rfl
  rw[H,Q]at o;simp[jaA]at o;rw[o];exact E
 | succ f ih =>
  intro l h O E t o;have H:jav (jac (f+1+1) l)=(jac (f+1+1) l).text :: jaA (jas (jac (f+1)) l):=by
   show jav (.mk (jaQ (jar (jac (f+1)) l)) (jas (jac (f+1)) l))=_;rw[jav];rfl
  have A:=O _ (jbW _) (jar (jac (f+1)) l) ⟨rfl,f+1,(good (f+1) l h).1⟩ E;rw[jd5 (f+1) l h]at A;rw[H]at o;rcases bM.1 o with rfl | o
  ·exact E
  ·obtain⟨K,J,o⟩:=jbE.1 o
   have X:=A _ (bK.2 ⟨K,J,rfl⟩)
   obtain⟨g,m,e,rfl,Z,_⟩:=jid h J
   obtain rfl:f=g:=vO
   exact ih m Z (fun x hx=>O x (by rw[H];exact bD _ (jbE.2 ⟨_,J,hx⟩))) X t o
theorem jmU(w:vW){S:vT}{b:vL}(h:HasM S b){out R:vM}(hR:jb6 S out [] [shaB (jaG b).text] R)(ho:∀ t∈jav (jaG b),shaB t∈out->∀ n,jbs t n->∀ x∈jaL n,x∈out) :
  ∀ k,k∈R↔(∃ t∈jav (jaG b),k=shaB t)/\k ∉ out:=by
 have hr:=jbD (jaD h.ok);have hT:=(jhN h.ok).node;have o:∀ t∈jav (jaG b),∃ y,atL S (shaB t).data.toList=some y/\y.2.2.text=t:=fun t E=>h.has t E;have h1:=jmT hR (fun k=>∃ t∈jav (jaG b),k=shaB t) (fun k y n ⟨t,E,A⟩ hy H x J=>by
  subst A
  obtain⟨y',Q,X⟩:=o t E
  rw[Q]at hy;obtain rfl:=bO hy;rw[X]at H
  obtain⟨Z,K,hh⟩:=hT t ((jaV _ _).2 E)
  obtain⟨a1,g1,a2⟩:=H
  obtain⟨b1,g2,b2⟩:=K
  obtain rfl:n=Z:=jdl w a2 b2 (a1.symm.trans b1)
  obtain⟨t',O,e⟩:=hh x J
  exact⟨t',(jaV _ _).1 O,e⟩) (fun x J=>by rw[bY.1 J];exact⟨_,jbW _,rfl⟩)
 obtain⟨h2,h3⟩:=jqT hR (fun k A=>(cM A).elim) w
 have h4:∀ t∈jav (jaG b),shaB t∈R\/shaB t∈out:=ju6 (fun k=>k∈R\/k∈out) 12 (jaP b) hr (fun t E n H A x J=>by
   obtain⟨y,Q,X⟩:=o t E
   rcases A with A | A
   ·rcases h3 _ A y n Q (by rw[X];exact H) x J with h | h | h
    ·exact .inl h
    ·exact .inr h
    ·obtain⟨Z,K,hh⟩:=hT t ((jaV _ _).2 E)
     obtain⟨a1,g1,a2⟩:=H
     obtain⟨b1,g2,b2⟩:=K
     obtain rfl:n=Z:=jdl w a2 b2 (a1.symm.trans b1)
     obtain⟨t',O,e⟩:=hh x J
     obtain⟨y',e3,_⟩:=o t' ((jaV _ _).1 O)
     rw[e,e3]at h;cases h
   ·exact .inr (ho t E A n H x J)) (by
  rcases h2 _ bG with h | h | h
  ·exact .inl h
  ·exact .inr h
  ·obtain⟨y,Q,_⟩:=o _ (jbW (jaG b))
   rw[Q]at h;cases h)
 refine fun k=>⟨fun A=>?_,fun ⟨⟨t,E,e⟩,H⟩=>?_⟩
 ·rcases h1 k A with h |⟨h,h',_⟩
  ·exact (cM h).elim
  ·exact⟨h,h'⟩
 ·subst e
  exact (h4 t E).resolve_right H
theorem jvN(w:vW){a b:vL}(ha:jaz a=0){U:vM}(hU:InjL U)(h1:∀ x∈jav (jaG a),x∈U)(h2:∀ x∈jav (jaG b),x∈U){A:vM}(hA:∀ k,k∈A↔∃ t∈jav (jaG a),k=shaB t) :
  ∀ t∈jav (jaG b),shaB t∈A->∀ n,jbs t n->∀ x∈jaL n,x∈A:=by
 intro t J K n O x Q
 obtain⟨H,o,e⟩:=(hA _).1 K
 obtain rfl:=hU t (h2 t J) H (h1 H o) e
 obtain⟨X,E,Z⟩:=(jhN ha).node t ((jaV _ _).2 o)
 obtain⟨a1,g1,a2⟩:=O
 obtain⟨b1,g2,b2⟩:=E
 obtain rfl:n=X:=jdl w a2 b2 (a1.symm.trans b1)
 obtain⟨t2,h3,e⟩:=Z x Q
 exact (hA x).2 ⟨t2,(jaV _ _).1 h3,e⟩
end
section
open Go Go.RowKit
attribute [local go_sem] Oper.semAt_some
theorem jxL(W:vW)(x:vB):vQ 134 #[.string x] W fun e w'=>e=.returned (.tuple #[])/\w'=W:=by
 unfold vQ;go_in;go_wp2_with fail
 refine bodyPost_end (results_none rfl _ _ _) rfl ?_
 exact⟨rfl,rfl⟩
theorem jBb(W:vW)(s bm:Nat)(room:Int)(S:vT)(hs:jaT W s bm room S)(k:vB)(y:Nd5)(hy:atL S k.data.toList=some y)(f:Nat)(n:jad)(hg:jbS (InlD f) n)(ht:y.2.2.text=jaQ n) :
  vR 133 #[.pointer (some ⟨s,0,none⟩),.string k,.func (.func 134) #[] #[]] W (.tuple #[n.V,.bool true]):=by
 have hn:=(hg.one (inlP f)).refs;have HN:=Hd hn;have HG:=Hd hg;have HL:=Hd (n.cells_len hn);have A:=fun w (h:jaT w s bm room S)=>jjc w s bm room S k h;rw[hy]at A;simp only[gQ,optV]at A;have K:=Hd A;have HS:=Hd hs
 obtain⟨t,O⟩:=vE y.2.2.text
 rw[<-O]at K ht;have HT:=Hd ht;clear A hs hg ht hn hy O;go_enter Tryz.func133,Tryz.ntmps133;go_wp2_with (refine jaj Tryz.allocNode rfl rfl ?_;intro W1 Q H)
 refine vC (K.o W1 (HS.o.ext H)) fun w3 J=>?_;have X:=Hd (Q.keeps J (fun h=>h));have Z:=Hd (H.trans J);clear J Q H;go_wp2_with fail
 refine (jxL w3 t).mono ?_;rintro e w4 ⟨rfl,rfl⟩;go_wp2_with fail
 rw[HT.o];refine vC (jjT (inlP f) w4 n HG.o) fun w5 J=>?_;rw[<-HT.o];have E:=X.o.keeps J (fun h=>h);have a1:=Hd J;clear J X;unfold jad.V;go_wp2_with (first |(refine jaj Tryz.allocNode rfl rfl ?_;intro W5 a4 a2;refine jah (vs:=n.cells) rfl rfl rfl rfl a4 (by rw[HL.o];rfl) (by rw[HL.o];exact Tryz.szNode) n.one ?_;intro W6 a5 a3;have a0:=(E.keeps a2 (fun h=>h)).keeps a3 (by have:=E.lt;omega)) |(refine jaf 103 (.tmp 10) rfl rfl _ _ rfl (jaq _ _ n HN.o a5) ?_) |(refine jah (vs:=n.cells) rfl rfl rfl rfl a0 (by rw[HL.o];rfl) (by rw[HL.o];exact Tryz.szNode) n.one ?_;intro W8 a6 a7))
 refine bodyPost_ret (jaF rfl rfl rfl (jaw W8 _ n HN.o a6)) rfl ?_;have a8:Ext W W6:=(((Z.o.trans a1.o).trans a2)).trans' a3 (fun x hx e=>by have e:x=w5.heap.size:=e;have:=a1.o.size;have:=Z.o.size;omega)
 exact⟨rfl,a8.trans' a7 (fun x hx e=>by have e:x=W.heap.size:=e;omega)⟩
section
variable (w0:vW) (s bm:Nat) (room:Int) (S:vT) (rb:Nat)
structure RdS0:Prop where
 st:jaT w0 s bm room S
 nodes:jic S
 new:w0.heap.size<=rb
def jri(f:Nat):Prop:=∀ n d,jbS (InlD d) n->∀ (W:vW) (left:Nat),Ext w0 W->RdAt W rb s left->left<=f->left<=160->vQ 135 #[.pointer (some ⟨rb,0,none⟩),n.V] W (RdO W rb s (jbU (gRef S) f n left))
def RefC(f:Nat):Prop:=∀ r d,MayP (InlD d) r->∀ (W:vW) (left:Nat),Ext w0 W->RdAt W rb s left->left<=f->left<=160->vQ 159 #[.pointer (some ⟨rb,0,none⟩),.string r] W (RdO W rb s ((gRef S r).bind fun m=>jbU (gRef S) f m left))
noncomputable def gHash(h:vB):Option jad:=(atL S h.data.toList).map fun x=>nodeOf x.2.2.text
def jyZ(f:Nat):Prop:=∀ h,∀ (W:vW) (left:Nat),Ext w0 W->RdAt W rb s left->left<=f->left<=160->vQ 108 #[.pointer (some ⟨rb,0,none⟩),.string h] W (RdO W rb s ((gHash S h).bind fun m=>jbU (gRef S) f m left))
end
theorem RdAt.ext{W W':vW}{rb s left:Nat}(h:RdAt W rb s left)(e:Ext W W'):RdAt W' rb s left:=h.keeps e (fun e=>e)
theorem jsr(w0:vW)(s bm:Nat)(room:Int)(S:vT)(rb:Nat)(hR:RdS0 w0 s bm room S rb)(h:vB)(W:vW)(left:Nat)(A:Ext w0 W)(hr:RdAt W rb s left)(ha:atL S h.data.toList=none) :
  vQ 108 #[.pointer (some ⟨rb,0,none⟩),.string h] W (RdO W rb s none):=by
 have E:=jzp W s bm room S (hR.st.ext A) (.func (.func 134) #[] #[]) h ha;have J:=Hd E;have Z:=Hd hr;unfold RdAt at hr;have q0:=hr.cell (i:=0) (v:=.pointer (some ⟨s,0,none⟩)) vF;clear E hr hR A ha;go_enter Tryz.func108,Tryz.ntmps108;go_wp2_with fail
 refine J.o.mono ?_;rintro e w1 ⟨rfl,A⟩;have X:=Hd A;clear A;unfold jad.V;go_wp2_with (first |(refine jaj Tryz.allocNode rfl rfl ?_;intro W5 K O;refine jah (vs:=jaH.cells) rfl rfl rfl rfl K rfl Tryz.szNode jaH.one ?_;intro W6 a0 Q))
 go_ret2;have H:Ext W W6:=(X.o.trans O).trans' Q (fun x hx e=>by have e:x=w1.heap.size:=e;have:=X.o.size;omega)
 exact⟨H.mono (fun _ _ e=>e.elim),_,left,rfl,.inl rfl,Z.o.ext H⟩
theorem jsq(w0:vW)(s bm:Nat)(room:Int)(S:vT)(rb:Nat)(hR:RdS0 w0 s bm room S rb)(f:Nat)(hN:jri w0 s S rb f)(h:vB)(W:vW)(left:Nat)(J:Ext w0 W)(hr:RdAt W rb s left)(hf:left<=f)(h160:left<=160)(y:Nd5)(ha:atL S h.data.toList=some y) :
  vQ 108 #[.pointer (some ⟨rb,0,none⟩),.string h] W (RdO W rb s (jbU (gRef S) f (nodeOf y.2.2.text) left)):=by
 obtain⟨n0,K⟩:=hR.nodes y (jba ha).1
 have hn:=jdm K
 obtain⟨n,O⟩:=vE (nodeOf y.2.2.text)
 rw[<-O]at hn ⊢
 obtain⟨ht,d,hg⟩:=hn
 have H:=(hg.one (inlP d)).refs;have a5:=Hd H;have HL:=Hd (n.cells_len H);have Q:=jBb W s bm room S (hR.st.ext J) h y ha d n hg ht;have a6:=Hd Q;have HR:=Hd hr;have X:=Hd (show ∀ w,Ext W w->vQ 135 #[.pointer (some ⟨rb,0,none⟩),n.V] w (RdO w rb s (jbU (gRef S) f n left))from fun w e=>hN n d hg w left (J.trans e) (hr.ext e) hf h160);unfold RdAt at hr;have q0:=hr.cell (i:=0) (v:=.pointer (some ⟨s,0,none⟩)) vF
 obtain⟨o,ho⟩:=vE (jbU (gRef S) f n left)
 rw[<-ho]at X ⊢;clear Q hr hR J ha K O ht hg H hN ho;go_enter Tryz.func108,Tryz.ntmps108;go_wp2_with fail
 refine a6.o.mono ?_;rintro e w1 ⟨rfl,J⟩;have HE:=Hd J;clear J;unfold jad.V;go_wp2_with (first |(refine jaj Tryz.allocNode rfl rfl ?_;intro W5 Z a0;refine jah (vs:=n.cells) rfl rfl rfl rfl Z (by rw[HL.o];rfl) (by rw[HL.o];exact Tryz.szNode) n.one ?_;intro W6 a1 a2) |(refine jaf 103 (.tmp 6) rfl rfl _ _ rfl (jaq _ _ n a5.o a1) ?_))
 have a3:Ext W W6:=(HE.o.trans a0).trans' a2 (fun x hx e=>by have e:x=w1.heap.size:=e;have:=HE.o.size;omega);have HX:=Hd a3;clear a3 Z a0 a1 a2;refine (X.o W6 HX.o).mono ?_;intro e w7 hO
 obtain⟨hk,a4⟩:=hO
 cases o with
 | none =>
  obtain⟨v,l,rfl,hv,A⟩:=a4
  have E:=Hd (bB hk (bB hv A));clear hk A;rcases hv with rfl |⟨T,x,rfl⟩
  ·go_wp2_with fail
   go_ret2
   exact⟨(HX.o.mono (fun _ _ e=>e.elim)).trans E.o.1,_,l,rfl,.inl rfl,E.o.2.2⟩
  ·go_wp2_with fail
   go_ret2
   exact⟨(HX.o.mono (fun _ _ e=>e.elim)).trans E.o.1,_,l,rfl,.inr ⟨T,x,rfl⟩,E.o.2.2⟩
 | some Pl =>
  obtain⟨P,l⟩:=Pl
  obtain⟨T,x,rfl,hP,A⟩:=a4
  have E:=Hd (bB hk (bB hP A));clear hk hP A;go_wp2_with fail
  go_ret2
  exact⟨(HX.o.mono (fun _ _ e=>e.elim)).trans E.o.1,T,x,rfl,E.o.2.1.mono (fun z hz=>⟨bJ HX.o.size hz.1,hz.2⟩),E.o.2.2⟩
theorem jtM(w0:vW)(s bm:Nat)(room:Int)(S:vT)(rb:Nat)(hR:RdS0 w0 s bm room S rb)(f:Nat)(hN:jri w0 s S rb f):jyZ w0 s S rb f:=by
 intro h W left o A E e;unfold gHash;cases ha:atL S h.data.toList with
 | none=>exact jsr w0 s bm room S rb hR h W left o A ha
 | some y=>exact jsq w0 s bm room S rb hR f hN h W left o A E e y ha
end
section
open Go Go.RowKit
attribute [local go_sem] Oper.semAt_some
theorem jn1(r:vB):jkI r=jcP r:=by
 unfold jkI jcP;cases cutN r <;> rfl
theorem jv1(w0:vW)(s:Nat)(S:vT)(rb:Nat)(f:Nat)(hH:jyZ w0 s S rb f)(r h:vB)(hrh:jcP r=some h)(hs:r.size<=1000)(W:vW)(left:Nat)(J:Ext w0 W)(hr:RdAt W rb s left)(hf:left<=f)(h160:left<=160) :
  vQ 159 #[.pointer (some ⟨rb,0,none⟩),.string r] W (RdO W rb s ((gHash S h).bind fun m=>jbU (gRef S) f m left)):=by
 have A:=jhY W r vO;rw[jn1,hrh]at A;unfold optV at A;have HA:=Hd A;have X:=Hd (show ∀ w,Ext W w->vQ 108 #[.pointer (some ⟨rb,0,none⟩),.string h] w (RdO w rb s ((gHash S h).bind fun m=>jbU (gRef S) f m left))from fun w e=>hH h w left (J.trans e) (hr.ext e) hf h160)
 obtain⟨o,Z⟩:=vE ((gHash S h).bind fun m=>jbU (gRef S) f m left)
 rw[<-Z]at X ⊢;clear hH hrh hs J hr hf h160 A Z;go_enter Tryz.func159,Tryz.ntmps159;go_wp2_with fail
 refine HA.o.mono ?_;rintro e w1 ⟨rfl,J⟩;have K:=Hd J;clear J;go_wp2_with fail
 refine (X.o w1 K.o).mono ?_;intro e w7 hO
 obtain⟨Q,O⟩:=hO
 cases o with
 | none =>
  obtain⟨v,l,rfl,hv,E⟩:=O
  have H:=Hd (bB Q (bB hv E));clear Q E;rcases hv with rfl |⟨T,x,rfl⟩
  ·go_wp2_with fail
   go_ret2
   exact⟨(K.o.mono (fun _ _ e=>e.elim)).trans H.o.1,_,l,rfl,.inl rfl,H.o.2.2⟩
  ·go_wp2_with fail
   go_ret2
   exact⟨(K.o.mono (fun _ _ e=>e.elim)).trans H.o.1,_,l,rfl,.inr ⟨T,x,rfl⟩,H.o.2.2⟩
 | some Pl =>
  obtain⟨P,l⟩:=Pl
  obtain⟨T,x,rfl,hP,E⟩:=O
  have H:=Hd (bB Q (bB hP E));clear Q hP E;go_wp2_with fail
  go_ret2
  exact⟨(K.o.mono (fun _ _ e=>e.elim)).trans H.o.1,T,x,rfl,H.o.2.1.mono (fun z hz=>⟨bJ K.o.size hz.1,hz.2⟩),H.o.2.2⟩
theorem jyi(w0:vW)(s:Nat)(S:vT)(rb:Nat)(f:Nat)(hN:jri w0 s S rb f)(r:vB)(d:Nat)(n:jad)(hi:InlD (d+1) r n)(hs:r.size<=1000)(W:vW)(left:Nat)(hE:Ext w0 W)(hr:RdAt W rb s left)(hf:left<=f)(h160:left<=160) :
  vQ 159 #[.pointer (some ⟨rb,0,none⟩),.string r] W (RdO W rb s (jbU (gRef S) f n left)):=by
 have A:=jhY W r vO;rw[jn1,jdS (inlP (d+1)) hi]at A;unfold optV at A;have HA:=Hd A;have J:=(hi.1.one (inlP d)).refs;have a3:=Hd J;have HL:=Hd (n.cells_len J);have HI:=Hd (fun w=>(inlP (d+1)).inl r n hi w);have K:=Hd (show ∀ w,Ext W w->vQ 135 #[.pointer (some ⟨rb,0,none⟩),n.V] w (RdO w rb s (jbU (gRef S) f n left))from fun w e=>hN n d hi.1 w left (hE.trans e) (hr.ext e) hf h160)
 obtain⟨o,ho⟩:=vE (jbU (gRef S) f n left)
 rw[<-ho]at K ⊢;clear hN hi hs hE hr hf h160 A J ho;go_enter Tryz.func159,Tryz.ntmps159;go_wp2_with fail
 refine HA.o.mono ?_;rintro e a4 ⟨rfl,O⟩;have a5:=Hd O;clear O;go_wp2_with fail
 refine vH (HI.o a4) fun w1 hE=>?_;have HE:=Hd (a5.o.trans hE);unfold jad.V;go_wp2_with (first |(refine jaj Tryz.allocNode rfl rfl ?_;intro W5 Q X;refine jah (vs:=n.cells) rfl rfl rfl rfl Q (by rw[HL.o];rfl) (by rw[HL.o];exact Tryz.szNode) n.one ?_;intro W6 Z a0) |(refine jaf 103 (.tmp 8) rfl rfl _ _ rfl (jaq _ _ n a3.o Z) ?_))
 have a1:Ext W W6:=(HE.o.trans X).trans' a0 (fun x hx e=>by have e:x=w1.heap.size:=e;have:=HE.o.size;omega);have HX:=Hd a1;clear a1 Q X Z a0;refine (K.o W6 HX.o).mono ?_;intro e w7 hO
 obtain⟨hk,a2⟩:=hO
 cases o with
 | none =>
  obtain⟨v,l,rfl,hv,E⟩:=a2
  have H:=Hd (bB hk (bB hv E));clear hk E;rcases hv with rfl |⟨T,x,rfl⟩
  ·go_wp2_with fail
   go_ret2
   exact⟨(HX.o.mono (fun _ _ e=>e.elim)).trans H.o.1,_,l,rfl,.inl rfl,H.o.2.2⟩
  ·go_wp2_with fail
   go_ret2
   exact⟨(HX.o.mono (fun _ _ e=>e.elim)).trans H.o.1,_,l,rfl,.inr ⟨T,x,rfl⟩,H.o.2.2⟩
 | some Pl =>
  obtain⟨P,l⟩:=Pl
  obtain⟨T,x,rfl,hP,E⟩:=a2
  have H:=Hd (bB hk (bB hP E));clear hk hP E;go_wp2_with fail
  go_ret2
  exact⟨(HX.o.mono (fun _ _ e=>e.elim)).trans H.o.1,T,x,rfl,H.o.2.1.mono (fun z hz=>⟨bJ HX.o.size hz.1,hz.2⟩),H.o.2.2⟩
theorem jAv(w0:vW)(s bm:Nat)(room:Int)(S:vT)(rb:Nat)(hR:RdS0 w0 s bm room S rb)(f:Nat)(hN:jri w0 s S rb f):RefC w0 s S rb f:=by
 intro r d A W left E H J e;have K:r.size<=1000:=by have:=A.size (inlP d);omega
 unfold gRef;rcases A with hh |⟨m,hi⟩
 ·obtain⟨h,O,Q⟩:=hh
  have o:jcP r=some h:=by rw[Q];exact jep O
  rw[o];exact jv1 w0 s S rb f (jtM w0 s bm room S rb hR f hN) r h o K W left E H J e
 ·cases d with
  | zero=>exact hi.elim
  | succ d =>
   rw[jdS (inlP (d+1)) hi];show Calls _ _ _ W (RdO W rb s (jbU (gRef S) f (inlOf r) left));rw[jpg w0 hi];exact jyi w0 s S rb f hN r d m hi K W left E H J e
theorem jmB(W:vW)(rb s:Nat)(n:jad)(hr:RdAt W rb s 0):vQ 135 #[.pointer (some ⟨rb,0,none⟩),n.V] W (RdO W rb s none):=by
 have E:=hr.lt;have A:=hr.ext ((ExtR W).alloc (.cells n.cells.toArray 103));have H:=Hd A;unfold RdAt at A;have J:=A.cell (i:=1) (v:=.int .i64 0) vF;clear A hr;unfold jad.V;unfold vQ;go_in;go_wp2_with fail
 go_ret2
 exact⟨((ExtR W).alloc _).mono (fun _ _ e=>e.elim),_,0,rfl,.inl rfl,H.o⟩
theorem jtc(W:vW)(rb s k:Nat)(hk:k<=160)(q v:vB)(rs:vM)(hr:RdAt W rb s (k+1)):vQ 135 #[.pointer (some ⟨rb,0,none⟩),(jad.mk 1 q v rs).V] W (RdO W rb s (some (.leaf q v,k))):=by
 have a5:=hr.lt;have a6:W.heap.size≠rb:=vO
 obtain⟨Q,A⟩:=vE (W.setCell ⟨rb,1,none⟩ (.int .i64 (k:Int)))
 obtain⟨J,E⟩:=vE (Q.alloc (.cells (jad.cells ⟨1,q,v,rs⟩).toArray 103))
 have Z:RdAt Q rb s k:=by rw[A];exact Blk.set_same (i:=1) hr _
 have a0:Q.heap.size=W.heap.size:=by rw[A];exact gM _ _ _
 have H:Ext Q J:=by rw[E];exact (ExtR Q).alloc _
 have X:Blk J W.heap.size (.cells (jad.cells ⟨1,q,v,rs⟩).toArray 103):=by rw[<-a0,E];exact Blk.new Q _
 have K:RdAt J rb s k:=Z.ext H;have O:jae (fun z=>z=rb) W J:=(show jae (fun z=>z=rb) W Q by rw[A];exact jae.oneSet _ ⟨rb,1,none⟩ _).trans (H.mono (fun _ _ e=>e.elim));have a3:=Hd (bB K (bB O X));have hA:=hr.ext ((ExtR W).alloc (.cells (jad.cells ⟨1,q,v,rs⟩).toArray 103));unfold RdAt at hA;have q1:=hA.cell (i:=1) (v:=.int .i64 ((k:Int)+1)) vF;have f1:(W.alloc (.cells (jad.cells ⟨1,q,v,rs⟩).toArray 103)).frozen? ⟨rb,1,none⟩=false:=hA.frozen;have e0:(jad.cells ⟨1,q,v,rs⟩)[0]?=some (.int .i64 1):=rfl;have e1:(jad.cells ⟨1,q,v,rs⟩)[1]?=some (.string q):=rfl;have e2:(jad.cells ⟨1,q,v,rs⟩)[2]?=some (.string v):=rfl;have HW:=Hd (bB A E);clear hr hA Z H K O X A E;unfold jad.V;unfold vQ;go_in;go_wp2_with fail
 go_ret2
 obtain⟨A,E⟩:=HW.o
 rw[<-A, <-E]
 obtain⟨K,O,X⟩:=a3.o
 have a1:Ext J (J.alloc (.cells #[.string q,.string v] 233)):=(ExtR J).alloc _;have a4:=Blk.new J (.cells #[.string q,.string v] 233);have hz:J.heap.size=W.heap.size+1:=by rw[E,bT,a0]
 have a2:Blk (J.alloc (.cells #[.string q,.string v] 233)) (W.heap.size+1) (.cells #[.string q,.string v] 233):=by rw[<-hz];exact a4
 exact⟨O.trans (a1.mono (fun _ _ e=>e.elim)),_,_,rfl,⟨_,rfl,⟨Nat.le_succ _,a2.lt⟩,a2⟩,K.ext a1⟩
theorem jtd(W:vW)(rb s k:Nat)(hk:k<=160)(q v:vB)(rs:vM)(hr:RdAt W rb s (k+1)):vQ 135 #[.pointer (some ⟨rb,0,none⟩),(jad.mk 0 q v rs).V] W (RdO W rb s (some (.no,k))):=by
 have a2:=hr.lt;have a3:W.heap.size≠rb:=vO
 obtain⟨O,A⟩:=vE (W.setCell ⟨rb,1,none⟩ (.int .i64 (k:Int)))
 obtain⟨Z,E⟩:=vE (O.alloc (.cells (jad.cells ⟨0,q,v,rs⟩).toArray 103))
 have X:RdAt O rb s k:=by rw[A];exact Blk.set_same (i:=1) hr _
 have a0:O.heap.size=W.heap.size:=by rw[A];exact gM _ _ _
 have H:Ext O Z:=by rw[E];exact (ExtR O).alloc _
 have Q:Blk Z W.heap.size (.cells (jad.cells ⟨0,q,v,rs⟩).toArray 103):=by rw[<-a0,E];exact Blk.new O _
 have J:RdAt Z rb s k:=X.ext H;have K:jae (fun z=>z=rb) W Z:=(show jae (fun z=>z=rb) W O by rw[A];exact jae.oneSet _ ⟨rb,1,none⟩ _).trans (H.mono (fun _ _ e=>e.elim));have a1:=Hd (bB J (bB K Q));have hA:=hr.ext ((ExtR W).alloc (.cells (jad.cells ⟨0,q,v,rs⟩).toArray 103));unfold RdAt at hA;have q1:=hA.cell (i:=1) (v:=.int .i64 ((k:Int)+1)) vF;have f1:(W.alloc (.cells (jad.cells ⟨0,q,v,rs⟩).toArray 103)).frozen? ⟨rb,1,none⟩=false:=hA.frozen;have e0:(jad.cells ⟨0,q,v,rs⟩)[0]?=some (.int .i64 0):=rfl;have HW:=Hd (bB A E);clear hr hA X H J K Q A E;unfold jad.V;unfold vQ;go_in;go_wp2_with fail
 go_ret2
 obtain⟨A,E⟩:=HW.o
 rw[<-A, <-E]
 obtain⟨J,K,Q⟩:=a1.o
 exact⟨K,_,_,rfl,rfl,J⟩
theorem jvG(w0:vW)(s:Nat)(S:vT)(rb f:Nat)(hRef:RefC w0 s S rb f)(hnew:w0.heap.size<=rb)(W:vW)(k:Nat)(hE0:Ext w0 W)(hk:k<=f)(h160:k<=159)(q v r:vB)(rs:vM)(d:Nat)(hm:MayP (InlD d) r)(hr:RdAt W rb s (k+1)):vQ 135 #[.pointer (some ⟨rb,0,none⟩),(jad.mk 2 q v (r :: rs)).V] W (RdO W rb s ((gRef S r).bind fun m=>(jbU (gRef S) f m k).map fun x=>(.ext q x.1,x.2))):=by
 have b9:=hr.lt;have b4:W.heap.size≠rb:=vO
 obtain⟨W1,E⟩:=vE (W.setCell ⟨rb,1,none⟩ (.int .i64 (k:Int)))
 obtain⟨J,H⟩:=vE (W1.alloc (.cells (jad.cells ⟨2,q,v,r :: rs⟩).toArray 103))
 have a4:RdAt W1 rb s k:=by rw[E];exact Blk.set_same (i:=1) hr _
 have a5:W1.heap.size=W.heap.size:=by rw[E];exact gM _ _ _
 have K:Ext W1 J:=by rw[H];exact (ExtR W1).alloc _
 have a6:Blk J W.heap.size (.cells (jad.cells ⟨2,q,v,r :: rs⟩).toArray 103):=by rw[<-a5,H];exact Blk.new W1 _
 have X:RdAt J rb s k:=a4.ext K;have a1:jae (fun z=>z=rb) W J:=(show jae (fun z=>z=rb) W W1 by rw[E];exact jae.oneSet _ ⟨rb,1,none⟩ _).trans (K.mono (fun _ _ e=>e.elim));have a2:=Hd (bB X (bB a1 a6));have hA:=hr.ext ((ExtR W).alloc (.cells (jad.cells ⟨2,q,v,r :: rs⟩).toArray 103));unfold RdAt at hA;have q1:=hA.cell (i:=1) (v:=.int .i64 ((k:Int)+1)) vF;have f1:(W.alloc (.cells (jad.cells ⟨2,q,v,r :: rs⟩).toArray 103)).frozen? ⟨rb,1,none⟩=false:=hA.frozen;have e0:(jad.cells ⟨2,q,v,r :: rs⟩)[0]?=some (.int .i64 2):=rfl;have e1:(jad.cells ⟨2,q,v,r :: rs⟩)[1]?=some (.string q):=rfl;have e3:(jad.cells ⟨2,q,v,r :: rs⟩)[3]?=some (.string r):=rfl;have a7:Ext w0 J:=hE0.trans' a1 (fun x hx e=>by have e:x=rb:=e;omega);have HC:=Hd (hRef r d hm J k a7 X hk vO);have b5:(jad.cells ⟨2,q,v,r :: rs⟩).toArray.size=(jad.cells ⟨2,q,v,r :: rs⟩).length:=by simp
 have a0:rb < J.heap.size:=X.lt;have c0:=Hd a0
 obtain⟨o,ho⟩:=vE ((gRef S r).bind fun m=>jbU (gRef S) f m k)
 have a8:((gRef S r).bind fun m=>(jbU (gRef S) f m k).map fun x=>(PA.ext q x.1,x.2))=o.map fun x=>(PA.ext q x.1,x.2):=by
  rw[ho];cases gRef S r with
  | none=>rfl
  | some m=>rfl
 rw[<-ho]at HC;rw[a8];have HW:=Hd (bB E H);have a9:J.heap.size=W.heap.size+1:=by rw[H,bT,a5]
 have b6:=Hd a9;have b7:=hr;clear hRef hnew hE0 hm hr hA a4 K X a1 a6 a7 ho a8 a9 b5 a0 b7;unfold jad.V;unfold vQ;go_in;go_wp2_with fail
 rw[<-E, <-H];clear E H q1 f1;refine HC.o.mono ?_;intro e O hO
 obtain⟨Q,b0⟩:=hO
 have b1:=a2.o.2.2.keeps Q (fun e=>b4 (by exact e));have q7:=b1.cellL (i:=1) e1;have a3:=Hd (a2.o.2.1.trans Q);have b2:=a2.o.2.2.lt;have b8:=Hd (show W.heap.size<=O.heap.size/\W.heap.size+1=J.heap.size/\J.heap.size<=O.heap.size from⟨bJ (Nat.le_of_lt b2) Q.size,b6.o.symm,Q.size⟩);clear Q b1 b2;cases o with
 | none =>
  obtain⟨v7,l,rfl,hv,A⟩:=b0
  have HZ:=Hd A;clear A;rcases hv with rfl |⟨T,x,rfl⟩
  ·go_wp2_with fail
   go_ret2
   exact⟨a3.o.trans (((ExtR O).alloc _).mono (fun _ _ e=>e.elim)),_,l,rfl,.inr ⟨_,_,rfl⟩,HZ.o.ext ((ExtR O).alloc _)⟩
  ·go_wp2_with fail
   go_ret2
   exact⟨a3.o.trans (((ExtR O).alloc _).mono (fun _ _ e=>e.elim)),_,l,rfl,.inr ⟨_,_,rfl⟩,HZ.o.ext ((ExtR O).alloc _)⟩
 | some Pl =>
  obtain⟨P,l⟩:=Pl
  obtain⟨T,x,rfl,hP,A⟩:=b0
  have HZ:=Hd (bB hP A);clear hP A;go_wp2_with fail
  go_ret2
  obtain⟨hP,A⟩:=HZ.o
  have Z:Ext O (O.alloc (.cells #[.string q,.iface T x] 236)):=(ExtR O).alloc _;have b3:=Blk.new O (.cells #[.string q,.iface T x] 236)
  obtain⟨z1,z2,z3⟩:=b8.o
  refine⟨a3.o.trans (Z.mono (fun _ _ e=>e.elim)),_,_,rfl,⟨_,T,x,jlC J O,rfl,⟨by omega,b3.lt⟩,b3,hP.keeps Z _ _ _ (fun _ _ e=>e),fun e=>by have:=e.2;omega,fun z hz=>⟨by have:=hz.1;omega,bQ hz.2 Z.size⟩⟩,A.ext Z⟩
theorem jka{R:jad->Nat->Option (PA × Nat)}{G:vB->Option jad}{rs:vM}{k left:Nat}(h:jfs R G rs k left=none):∀ d,jfs R G rs (k+d) left=none
 | 0=>h
 | d+1=>by
  show jfs R G rs (k+d+1) left=none;rw[jfM,jka h d];rfl
structure jy8(W:World)(rb s bb:Nat)(G:vB->Option jad)(R:jad->Nat->Option (PA × Nat))(v:vB)(rs:vM)(left:Nat)(iv:Value)(wr:World)(k:Nat)(ks:Nat->PA)(l:Nat)(vk:Nat->Value)(Dk:Nat->Nat->Prop)(D:Nat->Prop):Prop where
 le:k<=16
 iv:iv=.int .i64 (k:Int)
 rd:jfs R G rs k left=some (ks,l)
 br:BrAt v ks bb vk Dk D wr
 since:∀ z,D z->W.heap.size<=z
 rdr:RdAt wr rb s l
 kp:jae (fun z=>z=rb) W wr
theorem jlj{W:vW}{b:Nat}{n:jad}(hr:n.refs.length=16)(hB:Blk W b (.cells n.cells.toArray 103)):(Instr.loadAt 101 (.pointer (some ⟨b,3,none⟩))).run Tryz.prog W=.ok (.agg (n.refs.map Value.string).toArray) W:=by
 have e:W.rangeAt b 3 (n.refs.map Value.string):=fun j v A=>hB.cellL (by
  unfold jad.cells;rw[show 3+j=j+3 by omega];simpa using A)
 have o:=run_loadVar_mid (P:=Tryz.prog) W b 3 101 _ _ e Tryz.uRefs rfl (by simp only[cC,hr];exact Tryz.iRefs);simp[Instr.loadAt,Instr.sureAddr,cA,Result.andThen,o]
theorem jx5(w0:vW)(s:Nat)(S:vT)(rb f:Nat)(hRef:RefC w0 s S rb f)(hnew:w0.heap.size<=rb)(W:vW)(k0:Nat)(hE0:Ext w0 W)(hk:k0<=f)(h160:k0<=159)(q v:vB)(rs:vM)(d:Nat)(hrl:rs.length=16)(hm:∀ r∈rs,r.size≠0->MayP (InlD d) r)(hr:RdAt W rb s (k0+1)):vQ 135 #[.pointer (some ⟨rb,0,none⟩),(jad.mk 3 q v rs).V] W (RdO W rb s ((jfs (jbU (gRef S) f) (gRef S) rs 16 k0).map fun x=>(.br v x.1,x.2))):=by
 have d7:=hr.lt;have e9:W.heap.size≠rb:=vO
 obtain⟨W1,A⟩:=vE (W.setCell ⟨rb,1,none⟩ (.int .i64 (k0:Int)))
 obtain⟨W2,E⟩:=vE (W1.alloc (.cells (jad.cells ⟨3,q,v,rs⟩).toArray 103))
 have c2:RdAt W1 rb s k0:=by rw[A];exact Blk.set_same (i:=1) hr _
 have b0:W1.heap.size=W.heap.size:=by rw[A];exact gM _ _ _
 have Z:Ext W1 W2:=by rw[E];exact (ExtR W1).alloc _
 have b1:Blk W2 W.heap.size (.cells (jad.cells ⟨3,q,v,rs⟩).toArray 103):=by rw[<-b0,E];exact Blk.new W1 _
 have b2:RdAt W2 rb s k0:=c2.ext Z;have b3:jae (fun z=>z=rb) W W2:=(show jae (fun z=>z=rb) W W1 by rw[A];exact jae.oneSet _ ⟨rb,1,none⟩ _).trans (Z.mono (fun _ _ e=>e.elim));have d8:=Hd (bB b2 (bB b3 b1));have hA:=hr.ext ((ExtR W).alloc (.cells (jad.cells ⟨3,q,v,rs⟩).toArray 103));unfold RdAt at hA;have q1:=hA.cell (i:=1) (v:=.int .i64 ((k0:Int)+1)) vF;have f1:(W.alloc (.cells (jad.cells ⟨3,q,v,rs⟩).toArray 103)).frozen? ⟨rb,1,none⟩=false:=hA.frozen;have e0:(jad.cells ⟨3,q,v,rs⟩)[0]?=some (.int .i64 3):=rfl;have e2:(jad.cells ⟨3,q,v,rs⟩)[2]?=some (.string v):=rfl
 obtain⟨W3,J⟩:=vE (W2.alloc (.cells #[.string v,.nilIface,.nilIface,.nilIface,.nilIface,.nilIface,.nilIface,.nilIface,.nilIface,.nilIface,.nilIface,.nilIface,.nilIface,.nilIface,.nilIface,.nilIface,.nilIface] 240))
 have Q:Ext W2 W3:=by rw[J];exact (ExtR W2).alloc _
 have c3:W2.heap.size=W.heap.size+1:=by rw[E,bT,b0]
 have b4:Blk W3 (W.heap.size+1) (.cells (brC v (fun _=>.nilIface)).toArray 240):=by rw[<-c3,J];exact Blk.new W2 _
 have a0:BrAt v (fun _=>.nil) (W.heap.size+1) (fun _=>.nilIface) (fun _ _=>False) (fun x=>x=W.heap.size+1) W3:=
  ⟨rfl,b4,fun i _=>⟨rfl,fun e=>e,fun _ e=>e.elim⟩,fun _ _ _ _ _ _ e=>e.elim,fun x e=>by rw[e];exact b4.lt⟩
 have b5:=jlj (n:=⟨3,q,v,rs⟩) hrl (b1.keeps Q (fun e=>e));have c4:=Hd (show jy8 W rb s (W.heap.size+1) (gRef S) (jbU (gRef S) f) v rs k0 (.int .i64 0) W3 0 (fun _=>.nil) k0 (fun _=>.nilIface) (fun _ _=>False) (fun x=>x=W.heap.size+1)from⟨by omega,rfl,rfl,a0,fun z e=>by rw[e];omega,b2.ext Q,b3.trans (Q.mono (fun _ _ e=>e.elim))⟩);have c1:=Hd hRef;have HM:=Hd hm;have d9:=Hd hrl;have e1:=Hd hE0;have e3:=Hd hnew;have e4:=Hd d7;have HF:=Hd hk
 obtain⟨o,ho⟩:=vE ((jfs (jbU (gRef S) f) (gRef S) rs 16 k0).map fun x=>(PA.br v x.1,x.2))
 have HO:=Hd ho;rw[<-ho];have HW:=Hd (bB A (bB E J));have c5:=Hd (show W.heap.size+1≠rb by omega);rw[J,E,A]at b5;clear hRef hnew hE0 hm hr hA c2 Z b2 b3 b1 A E J Q b4 a0 hrl ho c3 hk;unfold jad.V;unfold vQ;go_in;go_wp2_with (refine jaf 101 (.tmp 59) rfl rfl _ _ rfl b5 ?_)
 obtain⟨A,E,J⟩:=HW.o
 rw[<-A, <-E, <-J]
 obtain⟨bb,c6⟩:=vE (W.heap.size+1)
 rw[<-c6]at c4 c5 ⊢;clear A E J HW b5 q1 f1 b0 c6 d8;go_loopw [61] (fun iv wr=>∃ k ks l vk Dk D,jy8 W rb s bb (gRef S) (jbU (gRef S) f) v rs k0 iv wr k ks l vk Dk D) (fun iv _=>16 - (intOf iv).toNat)
 case atStart=>exact⟨0,_,_,_,_,_,c4.o⟩
 case round =>
  obtain⟨k,ks,l,vk,Dk,D,h⟩:=hrel
  obtain⟨f0,rfl,c7,a0,c8,c9,d0⟩:=h
  have b6:=Hd c7;have K:=Hd a0;have a1:=Hd c8;have b7:=Hd c9;have O:=Hd d0;clear c7 a0 c8 c9 d0
  by_cases hlt:k < 16
  ·obtain⟨r,a2⟩:∃ r,rs[k]?=some r:=⟨_,bA (by have:=d9.o;omega)⟩
   have f2:(Instr.index 101 (.agg (rs.map Value.string).toArray) (.int .i64 (k:Int))).run Tryz.prog wr=.ok (.string r) wr:=jeU Tryz.uRefs Tryz.strOne Tryz.strAgg _ k hlt _ (by rw[bX,a2];rfl) wr;have b8:rs.getD k ⟨#[]⟩=r:=by rw[bH,a2];rfl
   have H:=jfM (jbU (gRef S) f) (gRef S) rs k k0;rw[b6.o,b8]at H;have H:jfs (jbU (gRef S) f) (gRef S) rs (k+1) k0=if r.size=0 then some (ks,l)else (gRef S r).bind fun m=>(jbU (gRef S) f m l).map fun y=>(setK ks k y.1,y.2):=H
   by_cases hr0:r.size=0
   ·rw[if_pos hr0]at H
    have e5:=jby hr0;subst e5;have f3:(⟨#[]⟩:vB).toList.isEmpty=true:=by rw[bR];rfl
    have a6:=Hd H;clear H a2 hr0 b8;go_wp2;go_roundw
    case rel=>exact⟨k+1,ks,l,vk,Dk,D,by omega,by go_num,a6.o,K.o,a1.o,b7.o,O.o⟩
    case measure=>exact vJ
   ·rw[if_neg hr0]at H
    have e8:=jc5 hr0;have d1:Ext w0 wr:=e1.o.trans' O.o (fun x hx e=>by have e:x=rb:=e;have:=e3.o;omega);have e6:l<=k0:=jla (fun m l y h=>bJ (jlb (gRef S) f m l y h) (Nat.sub_le _ _)) k k0 _ b6.o;have HC:=Hd (c1.o r d (HM.o r (bI a2) hr0) wr l d1 b7.o (by have:=HF.o;omega) vO)
    obtain⟨o1,b9⟩:=vE ((gRef S r).bind fun m=>jbU (gRef S) f m l)
    rw[<-b9]at HC;have a4:jfs (jbU (gRef S) f) (gRef S) rs (k+1) k0=o1.map fun y=>(setK ks k y.1,y.2):=by
     rw[H,b9];cases gRef S r with
     | none=>rfl
     | some m=>rfl
    have a6:=Hd a4;have f4:=Hd (K.o.lt bb K.o.mem);clear H a4 a2 hr0 b8 d1 e6 b9;go_wp2_with fail
    refine HC.o.mono ?_;intro e w7 hO
    obtain⟨d2,d3⟩:=hO
    have a7:=Hd d2;clear d2;cases o1 with
    | none =>
     obtain⟨v7,l7,rfl,hv,a3⟩:=d3
     have HZ:=Hd a3;clear a3;have d4:=Hd (show o=none by
      rw[HO.o]
      have:=jka (k:=k+1) a6.o (15 - k)
      rw[show k+1+(15 - k)=16 by omega]at this;rw[this];rfl)
     rcases hv with rfl |⟨T,x,rfl⟩
     ·go_wp2_with fail
      go_ret2;rw[d4.o]
      exact⟨O.o.trans a7.o,_,l7,rfl,.inl rfl,HZ.o⟩
     ·go_wp2_with fail
      go_ret2;rw[d4.o]
      exact⟨O.o.trans a7.o,_,l7,rfl,.inl rfl,HZ.o⟩
    | some Pl =>
     obtain⟨P,l7⟩:=Pl
     obtain⟨T,x,rfl,hP,a3⟩:=d3
     have a5:∀ z,D z->¬ z=rb:=fun z X e=>by have:=a1.o z X;have:=e4.o;omega
     have a8:=K.o.keeps a7.o (fun z X=>a5 z X);have hg:=a8.give hlt hP (fun z X=>⟨fun e=>by have:=K.o.lt z e;have:=X.1;omega,X.2⟩)
     obtain⟨W8,a9⟩:=vE (w7.setCell ⟨bb,1+k,none⟩ (.iface T x))
     rw[<-a9]at hg;have c0:jae (fun z=>z=bb) w7 W8:=by rw[a9];exact jae.oneSet w7 ⟨bb,1+k,none⟩ (.iface T x)
     have d5:RdAt W8 rb s l7:=a3.keeps c0 (fun e=>c5.o e.symm);have d6:jae (fun z=>z=rb) W W8:=(O.o.trans a7.o).trans' c0 (fun z X e=>by have e:z=bb:=e;have:=a1.o bb K.o.mem;omega)
     obtain⟨old,q7⟩:∃ v,w7.cell? ⟨bb,1+k,none⟩=some v:=⟨_,a8.blk.cellL (bA (by rw[jg5];omega))⟩
     have f7:w7.frozen? ⟨bb,1+k,none⟩=false:=a8.blk.frozen;have HG:=Hd (bB hg (bB d5 (bB d6 (show ∀ z,(D z\/jlC wr w7 z)->W.heap.size<=z from fun z X=>X.elim (a1.o z) (fun e=>bJ O.o.size e.1)))));have e7:=Hd a9;clear hP a3 a5 a8 hg c0 d5 d6 a9;go_wp2_with fail
     rw[<-e7.o];clear q7 f7;go_roundw
     case rel=>exact⟨k+1,_,l7,_,_,_,by omega,by go_num,a6.o,HG.o.1,HG.o.2.2.2,HG.o.2.1,HG.o.2.2.1⟩
     case measure=>exact vJ
  ·obtain rfl:k=16:=vO
   go_wp2_with fail
   go_ret2;rw[HO.o,b6.o]
   exact⟨O.o,_,_,rfl,K.o.pa.at'.mono (fun z X=>⟨a1.o z X,K.o.lt z X⟩),b7.o⟩
theorem jtP(w0:vW)(s bm:Nat)(room:Int)(S:vT)(rb:Nat)(hR:RdS0 w0 s bm room S rb):∀ f,jri w0 s S rb f
 | 0=>fun n d J W left E o K A=>by
  obtain rfl:left=0:=vO
  rw[jkb];exact jmB W rb s n o
 | f+1=>fun n d J W left E o K A=>by
  have e:=jAv w0 s bm room S rb hR f (jtP w0 s bm room S rb hR f);cases left with
  | zero =>
   rw[jkb];exact jmB W rb s n o
  | succ k =>
   rw[jez,if_neg (iI k)];cases J with
   | none=>exact jtd W rb s k vO _ _ _ o
   | leaf p v h1 h2 h3=>exact jtc W rb s k vO p v _ o
   | ext p r h1 h2 h3 =>
    have H:MayP (InlD d) r:=h3.imp id (fun ⟨m,H,_⟩=>⟨m,H⟩);exact jvG w0 s S rb f e hR.new W k E vO vO p ⟨#[]⟩ r (jan 15) d H o
   | branch v rs h1 h2 h3 h4=>exact jx5 w0 s S rb f e hR.new W k E vO vO ⟨#[]⟩ v rs d h1 h3 o
def jAZ(W:vW)(o:Option (PA × Nat))(e:Ending)(w':vW):Prop:=Ext W w'/\match o with
 | some (P,_)=>∃ T x,e=.returned (.tuple #[.iface T x,.bool true])/\PaAt P (.iface T x) (jlC W w') w'
 | none=>∃ v,e=.returned (.tuple #[v,.bool false])/\(v=.nilIface\/∃ T x,v=.iface T x)
noncomputable def readR(S:vT)(root:vB):Option (PA × Nat):=(gHash S root).bind fun m=>jbU (gRef S) 160 m 160
theorem jyF(W:vW)(s bm:Nat)(room:Int)(S:vT)(hs:jaT W s bm room S)(hN:jic S)(root:vB) :
  vQ 62 #[.pointer (some ⟨s,0,none⟩),.string root] W (jAZ W (readR S root)):=by
 obtain⟨J,A⟩:=vE (W.alloc (.cells #[.pointer (some ⟨s,0,none⟩),.int .i64 160] 192))
 have E:Ext W J:=by rw[A];exact (ExtR W).alloc _
 have K:RdAt J W.heap.size s 160:=by rw[A];exact Blk.new W _
 have X:RdS0 W s bm room S W.heap.size:=⟨hs,hN,bL _⟩;have Q:=jtM W s bm room S W.heap.size X 160 (jtP W s bm room S W.heap.size X 160) root J 160 E K (bL _) (bL _)
 obtain⟨o,Z⟩:=vE (readR S root)
 have Q:vQ 108 #[.pointer (some ⟨W.heap.size,0,none⟩),.string root] J (RdO J W.heap.size s o):=by rw[Z];exact Q
 have HC:=Hd Q;have HE:=Hd E;have HW:=Hd A;rw[<-Z];clear hs hN K X Q Z E A;go_enter Tryz.func62,Tryz.ntmps62;go_wp2_with fail
 rw[<-HW.o];refine HC.o.mono ?_;intro e w7 hO
 obtain⟨hk,O⟩:=hO
 have hX:Ext W w7:=HE.o.trans' hk (fun x hx e=>by have e:x=W.heap.size:=e;omega);have HX:=Hd hX;clear hk hX;cases o with
 | none =>
  obtain⟨v,l,rfl,hv,H⟩:=O
  clear H;rcases hv with rfl |⟨T,x,rfl⟩
  ·go_wp2_with fail
   go_ret2
   exact⟨HX.o,_,rfl,.inl rfl⟩
  ·go_wp2_with fail
   go_ret2
   exact⟨HX.o,_,rfl,.inr ⟨T,x,rfl⟩⟩
 | some Pl =>
  obtain⟨P,l⟩:=Pl
  obtain⟨T,x,rfl,hP,H⟩:=O
  have HZ:=Hd hP;clear hP H;go_wp2_with fail
  go_ret2
  exact⟨HX.o,T,x,rfl,HZ.o.mono (fun z hz=>⟨bJ HE.o.size hz.1,hz.2⟩)⟩
theorem jo7(w:vW){S:vT}{f:Nat}{m:vL}(h:jap f m)(hn:m≠[])(hS:32<=(jac (f+1) m).text.size->HasS S (jac (f+1) m).text):gRef S (refB (jac (f+1) m).text)=some (jar (jac f) m):=by
 have e:=(good f m h).2.1 hn;unfold gRef
 by_cases hz:(jac (f+1) m).text.size < 32
 ·have A:=e.may.2 hz
  rw[jdS (inlP (f+1)) A,jpg w A]
 ·rw[jgO hz,jep (jbd _)]
  obtain⟨x,o,H⟩:=hS vO
  have o:atL S (shaB (jac (f+1) m).text).data.toList=some x:=o;show (atL S (shaB (jac (f+1) m).text).data.toList).map (fun x=>nodeOf x.2.2.text)=_;rw[o];show some (nodeOf x.2.2.text)=_;have E:jbs (jac (f+1) m).text (jar (jac f) m):=⟨e.text,f,e.good⟩;rw[H,jes w (jdm E) E]
theorem jqZ(w:vW)(S:vT):∀ (g:Nat) (l:vL),jap g l->(∀ x∈jaA (jas (jac g) l),32<=x.size->HasS S x)->∀ (f left:Nat),cntT g l<=left->left<=f->jbU (gRef S) f (jar (jac g) l) left=some (ja2 (g+1) l,left - cntT g l):=by
 intro g;have A:∀ (g:Nat) (l:vL),l.length<=1->cntT g l=1->∀ (f left:Nat),cntT g l<=left->left<=f->jbU (gRef S) f (jar (jac g) l) left=some (ja2 (g+1) l,left - cntT g l):=by
  intro g l hl hc f left Q h2;rw[hc]at Q ⊢;cases f with
  | zero=>omega
  | succ f =>
   rw[jez,if_neg vO]
   by_cases h0:l.length=0
   ·have e:jar (jac g) l=jaH:=by unfold jar;rw[if_pos h0]
    rw[e,jbV _ h0];rfl
   ·have a1:l.length=1:=vO
    have e:jar (jac g) l=⟨1,(l.getD 0 pd).1,(l.getD 0 pd).2,jan 16⟩:=by unfold jar;rw[if_neg h0,if_pos a1]
    rw[e,jb1 _ a1];rfl
 induction g with
 | zero =>
  intro l h hS f left Q h2;exact A 0 l (jbI h) rfl f left Q h2
 | succ g ih =>
  intro l h hS f left Q h2
  by_cases hl:l.length<=1
  ·exact A (g+1) l hl (by unfold cntT;rw[if_pos hl]) f left Q h2
  have X:2<=l.length:=vO
  have H:∀ m,jap g m->m≠[]->(∀ x∈jaA (jbp (jac (g+1) m)),x∈jaA (jas (jac (g+1)) l))->(32<=(jac (g+1) m).text.size->HasS S (jac (g+1) m).text)/\∀ x∈jaA (jas (jac g) m),32<=x.size->HasS S x:=by
   intro m hm a4 J
   refine⟨fun hz=>hS _ (J _ ?_) hz,fun x Z hz=>?_⟩
   ·rw[jgA vO];exact jbW _
   ·by_cases hs:(jac (g+1) m).text.size < 32
    ·have a5:=(good g m hm).2.1 a4
     have e:(jac (g+1) m).kids=[]:=a5.small hs;have e:jas (jac g) m=[]:=e;rw[e]at Z;cases Z
    ·refine hS x (J x ?_) hz
     rw[jgA hs];exact bD _ Z
  cases f with
  | zero =>
   exfalso
   have:1<=cntT (g+1) l:=by unfold cntT;omega
   omega
  | succ f =>
   by_cases hk:0 < comK l
   ·obtain⟨K,k2,_,_⟩:=jef h X hk
    have eB:jas (jac (g+1)) l=jbp (jac (g+1) (jak (comK l) l)):=by unfold jas;rw[if_neg vO,if_pos hk]
    have eN:jar (jac (g+1)) l=⟨2,(l.getD 0 pd).1.extract 0 (comK l),⟨#[]⟩,refB (jac (g+1) (jak (comK l) l)).text :: jan 15⟩:=by unfold jar;rw[if_neg vO,if_neg vO,if_pos hk]
    have eC:cntT (g+1) l=1+cntT g (jak (comK l) l):=by
     show 1+(if l.length<=1 then 0 else if 0 < comK l then cntT g (jak (comK l) l)else _)=_;rw[if_neg vO,if_pos hk]
    obtain⟨s1,s2⟩:=H _ K k2 (fun x Z=>by rw[eB];exact Z)
    rw[eC]at Q ⊢;rw[jez,if_neg vO,eN,jdA _ X hk];show ((gRef S (refB (jac (g+1) (jak (comK l) l)).text)).bind fun m=>(jbU (gRef S) f m (left - 1)).map fun x=>(PA.ext ((l.getD 0 pd).1.extract 0 (comK l)) x.1,x.2))=_;rw[jo7 w K k2 s1];show (jbU (gRef S) f (jar (jac g) (jak (comK l) l)) (left - 1)).map _=_;rw[ih _ K s2 f (left - 1) vO vO];show some (_,left - 1 - cntT g (jak (comK l) l))=some (_,left - (1+cntT g (jak (comK l) l)))
    congr 2
    omega
   ·have eB:jas (jac (g+1)) l=(List.range 16).flatMap fun i=>if (cutL i l).length=0 then []else jbp (jac (g+1) (jak 1 (cutL i l))):=by unfold jas;rw[if_neg vO,if_neg hk]
    obtain⟨rs,a2⟩:=vE ((List.range 16).map fun i=>if (cutL i l).length=0 then (⟨#[]⟩:vB)else refB (jac (g+1) (jak 1 (cutL i l))).text)
    have eN:jar (jac (g+1)) l=⟨3,⟨#[]⟩,if (l.getD 0 pd).1.size=0 then (l.getD 0 pd).2 else ⟨#[]⟩,rs⟩:=by rw[a2];unfold jar;rw[if_neg vO,if_neg vO,if_neg hk]
    obtain⟨c,hc⟩:∃ c:Nat->Nat,c=fun i=>if (cutL i l).length=0 then 0 else cntT g (jak 1 (cutL i l)):=⟨_,rfl⟩
    have eC:cntT (g+1) l=1+sumF c 16:=by
     rw[hc];show 1+(if l.length<=1 then 0 else if 0 < comK l then _ else _)=_;rw[if_neg vO,if_neg hk]
    obtain⟨o,E⟩:∃ o:Nat->PA,o=fun i=>if (cutL i l).length=0 then PA.nil else ja2 (g+1) (jak 1 (cutL i l)):=⟨_,rfl⟩
    rw[eC]at Q ⊢;have a0:∀ k,k<=16->jfs (jbU (gRef S) f) (gRef S) rs k (left - 1)=some (fun i=>if i < k then o i else .nil,left - 1 - sumF c k):=by
     intro k;induction k with
     | zero=>intro _;simp[jfs,sumF]
     | succ k ihk =>
      intro a6;rw[jfM,ihk vO];have a3:rs.getD k ⟨#[]⟩=if (cutL k l).length=0 then (⟨#[]⟩:vB)else refB (jac (g+1) (jak 1 (cutL k l))).text:=by rw[a2,jfI _ vO]
      show (if (rs.getD k ⟨#[]⟩).size=0 then some (_,left - 1 - sumF c k)else (gRef S (rs.getD k ⟨#[]⟩)).bind fun m=>(jbU (gRef S) f m (left - 1 - sumF c k)).map fun y=>(setK (fun i=>if i < k then o i else .nil) k y.1,y.2))=_;have O:sumF c (k+1)=sumF c k+c k:=rfl
      by_cases hc0:(cutL k l).length=0
      ·rw[a3,if_pos hc0,if_pos (show (⟨#[]⟩:vB).size=0 from rfl),O]
       have e1:c k=0:=by rw[hc];exact if_pos hc0
       have e2:o k=.nil:=by rw[E];exact if_pos hc0
       rw[e1,fN]
       congr 2
       funext i
       by_cases hi:i < k
       ·rw[if_pos hi,if_pos vO]
       ·rw[if_neg hi]
        by_cases he:i=k
        ·rw[he,if_pos vO,e2]
        ·rw[if_neg vO]
      ·obtain⟨K,k2⟩:=je5 h hc0
       obtain⟨s1,s2⟩:=H _ K k2 (fun x Z=>by
        rw[eB,jhg];exact cU.2 ⟨k,fA.2 vO,by rw[if_neg hc0];exact Z⟩)
       have e1:c k=cntT g (jak 1 (cutL k l)):=by rw[hc];exact if_neg hc0
       have e2:o k=ja2 (g+1) (jak 1 (cutL k l)):=by rw[E];exact if_neg hc0
       have a7:sumF c (k+1)<=sumF c 16:=by
        have:=jeA c (k+1) (15 - k)
        rwa [show k+1+(15 - k)=16 by omega]at this
       rw[a3,if_neg hc0,if_neg (jlc K k2),jo7 w K k2 s1];show (jbU (gRef S) f (jar (jac g) (jak 1 (cutL k l))) (left - 1 - sumF c k)).map _=_;rw[ih _ K s2 f _ vO vO, <-e1, <-e2,O];show some (setK _ k (o k),_)=some (_,_)
       congr 2
       ·funext i
        unfold setK
        by_cases he:i=k
        ·rw[if_pos he,he,if_pos vO]
        ·rw[if_neg he]
         show (if i < k then o i else PA.nil)=_
         by_cases hi:i < k
         ·rw[if_pos hi,if_pos vO]
         ·rw[if_neg hi,if_neg vO]
       ·omega
    rw[jez,if_neg vO,eN,jeS _ X hk];show (jfs (jbU (gRef S) f) (gRef S) rs 16 (left - 1)).map (fun x=>(PA.br (if (l.getD 0 pd).1.size=0 then (l.getD 0 pd).2 else ⟨#[]⟩) x.1,x.2))=_;rw[a0 16 (bL _), <-E];show some (PA.br _ (fun i=>if i < 16 then o i else .nil),left - 1 - sumF c 16)=some (PA.br _ o,left - (1+sumF c 16));have e3:(fun i=>if i < 16 then o i else .nil)=o:=by
     funext i
     by_cases hi:i < 16
     ·rw[if_pos hi]
     ·rw[if_neg hi,E]
      show PA.nil=if (cutL i l).length=0 then PA.nil else _
      rw[if_pos (by
       cases hz:(cutL i l).length with
       | zero=>rfl
       | succ n=>exact absurd (jzB h (i:=i) vO) hi)]
    rw[e3]
    congr 2
    omega
theorem jkA:∀ (g:Nat) (l:vL),jap g l->cntP (ja2 (g+1) l)=cntT g l:=by
 intro g;have e:∀ (g:Nat) (l:vL),l.length<=1->cntP (ja2 (g+1) l)=1:=by
  intro g l A
  by_cases h0:l.length=0
  ·rw[jbV _ h0];rfl
  ·rw[jb1 _ vO];rfl
 induction g with
 | zero=>intro l h;exact e 0 l (jbI h)
 | succ g ih =>
  intro l h
  by_cases A:l.length<=1
  ·rw[e _ l A]
   show 1=1+(if l.length<=1 then 0 else _);rw[if_pos A]
  have o:2<=l.length:=vO
  show _=1+(if l.length<=1 then 0 else if 0 < comK l then cntT g (jak (comK l) l)else sumF (fun i=>if (cutL i l).length=0 then 0 else cntT g (jak 1 (cutL i l))) 16);rw[if_neg A]
  by_cases hk:0 < comK l
  ·rw[if_pos hk,jdA _ o hk]
   show 1+cntP (ja2 (g+1) (jak (comK l) l))=_;rw[ih _ (jef h o hk).1]
  ·rw[if_neg hk,jeS _ o hk]
   show 1+sumF (fun i=>cntP (if (cutL i l).length=0 then PA.nil else ja2 (g+1) (jak 1 (cutL i l)))) 16=_
   congr 2
   funext i
   by_cases hc:(cutL i l).length=0
   ·rw[if_pos hc,if_pos hc];rfl
   ·rw[if_neg hc,if_neg hc,ih _ (je5 h hc).1]
theorem jkz{l:vL}(h:jus l):cntT 12 (jaP l)<=118:=by
 have e:=jbD h
 by_cases hn:jaP l=[]
 ·rw[hn];decide
 ·have o:=(jwG 12 _ e hn).all
  have A:=h.len;have E:(jaP l).length=l.length:=by unfold jaP;rw[cC]
  omega
theorem jtD(w:vW){S:vT}{l:vL}(h:HasM S l):∃ k,readR S (shaB (jaG l).text)=some (ja2 13 (jaP l),k):=by
 have o:=jbD (jaD h.ok)
 obtain⟨x,e,E⟩:=h.has _ (jbW _)
 have e:atL S (shaB (jaG l).text).data.toList=some x:=e;have A:jbs (jaG l).text (jar (jac 12) (jaP l)):=⟨rfl,12,(good 12 _ o).1⟩;unfold readR gHash;rw[e];show ∃ k,jbU (gRef S) 160 (nodeOf x.2.2.text) 160=_;rw[E,jes w (jdm A) A];have J:=jkz (jaD h.ok)
 exact⟨_,jqZ w S 12 _ o (fun y H _=>h.has y (bD _ H)) 160 160 vO (bL _)⟩
end
section
open Go Go.RowKit
end
section
open Go Go.RowKit
attribute [local go_sem] Oper.semAt_some
def ErrT(w:vW):Prop:=w.cell? ⟨1,0,none⟩=some (.iface 155 (.agg #[.pointer (some ⟨3,55,none⟩)]))
theorem ErrT.ext{w w':vW}(h:ErrT w)(k:Ext w w'):ErrT w':=jaa h k
structure WrAt(z g:Nat)(v:Value)(T:vM)(W:World):Prop where
 lo:z<=g
 var:Blk W g (.cells #[v] 131)
 row:W.ownsRow 0 9 1 v T.length (T.map Value.string)
 own:∀ b,v.ownBlock=some b->z<=b/\b≠g/\b < W.heap.size
 nil:T=[]->v=.slice none 0 0
theorem WrAt.ext{z g:Nat}{v:vV}{T:vM}{W W':vW}(h:WrAt z g v T W)(e:Ext W W'):WrAt z g v T W':=
 ⟨h.lo,h.var.keeps e (fun g=>g),jbq h.row e,fun b hb=>⟨(h.own b hb).1,(h.own b hb).2.1,bQ (h.own b hb).2.2 e.size⟩,h.nil⟩
theorem WrAt.off{z g:Nat}{v:vV}{T:vM}{W W':vW}{F:BSet}(h:WrAt z g v T W)(e:jae F W W')(h1:¬ F g)(h2:∀ b,v.ownBlock=some b->¬ F b):WrAt z g v T W':=
 ⟨h.lo,h.var.keeps e h1,ja8 h.row e h2,fun b hb=>⟨(h.own b hb).1,(h.own b hb).2.1,bQ (h.own b hb).2.2 e.size⟩,h.nil⟩
structure WrTo(z g:Nat)(v:Value)(W W':World)(v':Value)(T':vM):Prop where
 at':WrAt z g v' T' W'
 kp:jae (fun b=>b=g\/v.ownBlock=some b) W W'
 sub:∀ b,v'.ownBlock=some b->v.ownBlock=some b\/W.heap.size<=b
theorem WrTo.refl{z g:Nat}{v:vV}{T:vM}{W W':vW}(h:WrAt z g v T W)(e:Ext W W'):WrTo z g v W W' v T:=⟨h.ext e,e.mono (fun _ _ h=>h.elim),fun b hb=>.inl hb⟩
theorem WrTo.trans{z g:Nat}{v v' v'':vV}{T T':vM}{W W' W'':vW}(h:WrTo z g v W W' v' T)(k:WrTo z g v' W' W'' v'' T'):WrTo z g v W W'' v'' T':=
 ⟨k.at',h.kp.trans' k.kp (fun x o e=>by
  rcases e with e | e
  ·exact .inl e
  ·rcases h.sub x e with e | e
   ·exact .inr e
   ·omega),fun b hb=>by
  rcases k.sub b hb with e | e
  ·exact h.sub b e
  ·exact .inr (bJ h.kp.size e)⟩
theorem WrTo.ext{z g:Nat}{v v':vV}{T:vM}{W W' W'':vW}(h:WrTo z g v W W' v' T)(e:Ext W' W''):WrTo z g v W W'' v' T:=h.trans (WrTo.refl h.at' e)
theorem WrTo.blk{z g:Nat}{v v':vV}{T:vM}{W W':vW}(h:WrTo z g v W W' v' T){b:Nat}{o:Obj}(hB:Blk W b o)(h1:b≠g)(h2:v.ownBlock≠some b):Blk W' b o:=hB.keeps h.kp (fun e=>e.elim h1 h2)
theorem WrTo.ext0{z g:Nat}{v v':vV}{T T':vM}{W0 W W':vW}(h:WrTo z g v W W' v' T')(k:WrAt z g v T W)(e:Ext W0 W)(hz:W0.heap.size<=z):Ext W0 W':=
 e.trans' h.kp (fun x o e=>by
  rcases e with e | e
  ·have:=k.lo;omega
  ·have:=(k.own x e).1;omega)
theorem WrTo.fill{z g:Nat}{v v':vV}{T:vM}{W W' W'':vW}(h:WrTo z g v W W' v' T){L:Nat}(e:jae (fun b=>b=L) W' W'')(h1:L≠g)(h2:v'.ownBlock≠some L)(h3:W.heap.size<=L):WrTo z g v W W'' v' T:=
 ⟨h.at'.off e (fun x=>h1 x.symm) (fun b hb x=>h2 (by rw[hb,x])),h.kp.trans' e (fun x o y=>by have y:x=L:=y;omega),h.sub⟩
theorem WrTo.ahead{z g:Nat}{v v':vV}{T:vM}{W0 W W':vW}(e:Ext W0 W)(h:WrTo z g v W W' v' T):WrTo z g v W0 W' v' T:=
 ⟨h.at',(e.mono (fun _ _ h=>h.elim)).trans' h.kp (fun x o e=>e),fun b hb=>(h.sub b hb).imp id (fun k=>bJ e.size k)⟩
def FoP(z g:Nat)(v:vV)(W:vW)(r:vV)(T:vM)(e:Ending)(w':vW):Prop:=e=.returned r/\∃ v',WrTo z g v W w' v' T
structure jqd(n:jad):Prop where
 refs:n.refs.length=16
 call:∀ w,jb0 w->ErrT w->vQ 78 #[n.V] w fun e w'=>(∃ k:Int,e=.returned (.tuple #[.string (putN n),.int .i64 k]))/\Ext w w'
theorem jmP{d:Nat}{n:jad}(h:jbS (InlD d) n):jqd n:=⟨(h.one (inlP d)).refs,fun w _ _=>by
 rw[jmL h];exact (jj2 (inlP d) w n h).mono fun e w' h=>⟨⟨0,h.1⟩,h.2⟩⟩
def PutP:PA->Prop
 | .nil=>True
 | .no=>jqd jaH
 | .leaf q v=>jqd ⟨1,q,v,jan 16⟩
 | .ext q n=>jqd (nodeP (.ext q n))/\PutP n
 | .br v ks=>jqd (nodeP (.br v ks))/\∀ i,PutP (ks i)
theorem PutP.node{P:PA}(h:PutP P)(hn:P.isNil=false):jqd (nodeP P):=by
 cases P with
 | nil=>cases hn
 | no=>exact h
 | leaf q v=>exact h
 | ext q n=>exact h.1
 | br v ks=>exact h.1
theorem jeC:∀ (P:PA),P.isNil=false->(underP P).length+1<=cntP P
 | .nil,h=>by cases h
 | .no,_=>bL _
 | .leaf _ _,_=>bL _
 | .ext q n,_=>by
  show (bigs (textP n)++underP n).length+1<=1+cntP n;rw[bC];have e:=jkt (textP n);cases hn:n.isNil with
  | true=>rw[jbF hn];exact bL _
  | false =>
   have:=jeC n hn
   omega
 | .br v ks,_=>by
  show ((List.range 16).flatMap fun i=>if (ks i).isNil then []else bigs (textP (ks i))++underP (ks i)).length+1<=1+sumF (fun i=>cntP (ks i)) 16
  have:=jgz (fun i=>if (ks i).isNil then []else bigs (textP (ks i))++underP (ks i)) (fun i=>cntP (ks i)) (fun i=>by
   show (if (ks i).isNil=true then ([]:vM)else bigs (textP (ks i))++underP (ks i)).length<=cntP (ks i);cases hn:(ks i).isNil with
   | true=>rw[if_pos rfl];exact cD _
   | false =>
    rw[if_neg ff,bC];have e:=jkt (textP (ks i))
    have:=jeC (ks i) hn
    omega) 16
  omega
def jyX(P:PA):Prop:=∀ (w0 W:vW) (T:TypeId) (x:vV) (D:Nat->Prop) (g:Nat) (v:vV) (Tx:vM),jb0 w0->ErrT w0->PaO P (.iface T x) D w0->Ext w0 W->WrAt w0.heap.size g v Tx W->Tx.length+cntP P<=100000 ->
 vQ (jmG P) #[x,.pointer (some ⟨g,0,none⟩)] W (FoP w0.heap.size g v W (nodeP P).V (Tx++underP P))
def TopC(P:PA):Prop:=∀ (w0 W:vW) (T:TypeId) (x:vV) (D:Nat->Prop) (g:Nat) (v:vV) (Tx:vM),jb0 w0->ErrT w0->PaO P (.iface T x) D w0->Ext w0 W->WrAt w0.heap.size g v Tx W->Tx.length+cntP P<=100000 ->
 vQ 65 #[.pointer (some ⟨g,0,none⟩),.iface T x] W (FoP w0.heap.size g v W (.string (textP P)) (Tx++underP P))
def jxg(P:PA):Prop:=∀ (w0 W:vW) (T:TypeId) (x:vV) (D:Nat->Prop) (g:Nat) (v:vV) (Tx:vM),jb0 w0->ErrT w0->PaO P (.iface T x) D w0->Ext w0 W->WrAt w0.heap.size g v Tx W->Tx.length+cntP P<=100000 ->
 vQ 218 #[.pointer (some ⟨g,0,none⟩),.iface T x] W (FoP w0.heap.size g v W (.string (refB (textP P))) (Tx++(bigs (textP P)++underP P)))
theorem jvI(z g:Nat)(v:vV)(Tx:vM)(W:vW)(h:WrAt z g v Tx W):vQ 249 #[.agg #[],.pointer (some ⟨g,0,none⟩)] W (FoP z g v W jaH.V Tx):=by
 have H:=Hd h;clear h;unfold vQ;go_in;go_wp2_with (first |(refine jaj Tryz.allocNode rfl rfl ?_;intro X A E;simp only[bT]at A) |(refine jah (vs:=jaH.cells) rfl rfl rfl rfl A rfl Tryz.szNode jaH.one ?_;intro Q J K))
 have O:Ext W (W.alloc (.cells #[] 242)):=(ExtR W).alloc _;refine bodyPost_ret (jbJ rfl rfl (jaw Q _ jaH rfl J)) rfl ?_
 exact⟨rfl,v,WrTo.refl H.o ((O.trans E).trans' K (fun x Z e=>by have e:x=W.heap.size+1:=e;omega))⟩
def jBt(q u:vB):List vV:=jcf 1 q u ⟨#[]⟩
theorem jxW(w0:vW)(z g:Nat)(v:vV)(Tx:vM)(W:vW)(hE:Ext w0 W)(q u:vB)(b:Nat)(hB:Blk w0 b (.cells #[.string q,.string u] 233))(h:WrAt z g v Tx W):vQ 232 #[.pointer (some ⟨b,0,none⟩),.pointer (some ⟨g,0,none⟩)] W (FoP z g v W (jad.V ⟨1,q,u,jan 16⟩) Tx):=by
 have H:=Hd h;have Q0:=Hd (jaa (hB.cell (i:=0) (v:=.string q) vF) hE);have Q1:=Hd (jaa (hB.cell (i:=1) (v:=.string u) vF) hE);have a0:=hB.lt;have J:=Hd (show ¬ b=W.heap.size by have:=hE.size;omega);clear h hB hE a0;unfold vQ;go_in;go_wp2_with (refine jaj Tryz.allocNode rfl rfl ?_;intro W4 O Q)
 have a1:=Hd O;have A:=Hd Q;clear O Q;refine vS ?_;refine jaC [0,1,2,3,4,5,6,7,8,9] [9] Ext (jae (fun z=>z=W.heap.size)) ExtR ExtT (fun x y z h k=>jae.trans h k) (fun x y h=>h.mono (fun _ _ h=>h.elim)) vY vY vY ?_
 refine vD ?_
 refine qDV _ ((.pointer (some ⟨b,0,none⟩))) rfl (fun w1 _=>by kernel_rfl) ?_;refine vS ?_
 refine vD ?_
 refine qDL ⟨b,0,none⟩ _ rfl (fun w1 h1=>jaE (fun w=>by kernel_rfl) (jam (jaa Q0.o A.o) (((jae.refl (fun z=>z=W.heap.size) W4).drew).trans h1) (by exact J.o))) ?_;refine vS ?_
 refine vD ?_
 refine qDV _ ((.pointer (some ⟨b,0,none⟩))) rfl (fun w1 _=>by kernel_rfl) ?_;refine vS ?_
 refine vD ?_
 refine qDL ⟨b,1,none⟩ _ rfl (fun w1 h1=>jaE (fun w=>by kernel_rfl) (jam (jaa Q1.o A.o) (((jae.refl (fun z=>z=W.heap.size) W4).drew).trans h1) (by exact J.o))) ?_;refine vS ?_
 refine vD ?_
 refine qDH _ rfl (fun w5 X K hK=>?_);have hX:=(jai W4).trans X;refine jjk (vs:=jBt q u) rfl rfl rfl (a1.o.keeps hX (fun h=>h)) rfl Tryz.szNode (jcg _ _ _ _) ?_;intro W6 Z E;have H6:=Hd (bB Z ((A.o.trans hX).trans' E (fun x hx e=>by have e:x=W.heap.size:=e;omega)));refine vS ?_;refine hK _ _ E ?_;clear hK K X hX Z E;refine qDE (fun w7 X=>?_);have a2:=H6.o.1.keeps X (fun h=>h);have a3:=H6.o.2.trans X;go_wp2_with fail
 refine bodyPost_ret (jbJ rfl rfl (jaw w7 _ ⟨1,q,u,jan 16⟩ rfl a2)) rfl ?_
 exact⟨rfl,v,WrTo.refl H.o a3⟩
theorem jum(P:PA)(hn:P.isNil=false)(hp:PutP P)(hF:jyX P):TopC P:=by
 intro w0 W T x D g v Tx J K O Q X hl;have hf:=hF w0 W T x D g v Tx J K O Q X hl;have hm:=O.at'.meth.form;have hm:∀ w,(Go.method (421+1) T x "guilloche/trie.form").run Tryz.prog w=.ok (jmG P,x) w:=hm;have a2:=jqy P;have A:=hp.node hn;rw[jng hn];have HN:Hid (∀ w,Ext w0 w->vQ 78 #[(nodeP P).V] w fun e w'=>(∃ k:Int,e=.returned (.tuple #[.string (putN (nodeP P)),.int .i64 k]))/\Ext w w'):=fun w e=>A.call w (J.ext e) (K.ext e);have Z:=Hd hf;have HW:=Hd (bB X Q)
 obtain⟨U,hU⟩:=vE (Tx++underP P)
 rw[<-hU]at Z ⊢
 obtain⟨n,E⟩:=vE (nodeP P)
 rw[<-E]at Z HN ⊢;clear hf J K O Q X hl A hn hp hF hU E;go_enter Tryz.func65,Tryz.ntmps65;go_wp2_with fail
 refine Z.o.mono ?_;rintro e w1 ⟨rfl,v1,hT⟩;have HT:=Hd hT;have a0:=Hd (hT.ext0 HW.o.1 HW.o.2 (bL _));clear hT;go_wp2_with fail
 refine (HN.o w1 a0.o).mono ?_;rintro e w2 ⟨⟨k,rfl⟩,H⟩;have a1:=Hd H;clear H;go_wp2_with fail
 go_ret
 exact⟨rfl,v1,HT.o.ext a1.o⟩
end
section
open Go Go.RowKit
end
section
open Go Go.RowKit
attribute [local go_sem] Oper.semAt_some
end
section
open Go Go.RowKit
end
section
open Go Go.RowKit
attribute [local go_sem] Oper.semAt_some
end
section
open Go Go.RowKit
end
section
open Go Go.RowKit
attribute [local go_sem] Oper.semAt_some
theorem jxM{y h:vB}(E:jkI y=some h):jfa y:=by
 unfold jkI at E;cases A:cutN y with
 | none=>rw[A]at E;cases E
 | some r =>
  rw[A]at E;have E:jfi y r=some h:=E;unfold jfi at E;rw[Option.filter_eq_some_iff]at E
  obtain⟨H,J⟩:=E
  have J:h.size=32:=by simpa using J
  unfold jfq at H
  by_cases hr:r.1=false/\r.2.1+r.2.2=y.size
  case neg=>rw[if_neg hr]at H;cases H
  rw[if_pos hr]at H;have H:=bO H
  obtain⟨b,o,n⟩:=r
  obtain⟨hb,K⟩:=hr
  have hb:b=false:=hb;have K:o+n=y.size:=K;subst hb
  refine⟨h,J,?_⟩
  have X:n=32:=by
   have e:=congrArg ByteArray.size H;rw[cJ]at e;simp only at e;omega
  obtain⟨⟨l⟩⟩:=y
  cases l with
  | nil=>exact absurd (jkC A).1 vI
  | cons a t =>
   have A:cutN ⟨(a :: t).toArray⟩=some (false,o,n):=A;rw[jgu]at A
   obtain⟨m,O⟩:=vE (if a.toNat < 192 then a.toNat - 128 else a.toNat - 192)
   rw[<-O]at A
   by_cases h4:a.toNat < 128
   ·rw[if_pos h4]at A
    have:=(Prod.mk.inj (Prod.mk.inj (bO A)).2).2;omega
   rw[if_neg h4]at A
   by_cases h5:m<=55
   ·rw[if_pos h5]at A
    split at A
    ·have Q:=(Prod.mk.inj (bO A)).1
     have Z:=(Prod.mk.inj (Prod.mk.inj (bO A)).2).1;have e3:=(Prod.mk.inj (Prod.mk.inj (bO A)).2).2;have Q:¬ 192<=a.toNat:=of_decide_eq_false Q;rw[if_pos vO]at O;have ha:a=160:=dS.1 (by show a.toNat=160;omega);have ht:h=⟨t.toArray⟩:=by
      rw[<-H, <-Z,X];apply ByteArray.ext;apply Array.ext';have a0:o+n=t.length+1:=K;rw[dB,fM,dZ];show ((a :: t).drop 1).take (1+32 - 1)=t;rw[iO,List.drop_zero,bN vO]
     unfold jao;rw[if_neg vO,J,ht,ha];apply ByteArray.ext;apply Array.ext';rw[cZ,fX];rfl
    ·cases A
   ·rw[if_neg h5]at A
    split at A
    ·rename_i n' hl
     split at A
     ·have e3:=(Prod.mk.inj (Prod.mk.inj (bO A)).2).2
      have:=(jdk hl).2.2.2.1
      omega
     ·cases A
    ·cases A
def GetE(s:vB):Prop:=∀ w,ErrT w->vQ 81 #[.string s] w (jyY w)
theorem WrAt.push{z g:Nat}{v v':vV}{Tx New:vM}{W w6:vW}(h:WrAt z g v Tx W){n:Nat}(hn:n=(Tx++New).length)(r1:w6.ownsRow 0 9 1 v' n ((Tx++New).map Value.string))(r2:jae (fun b=>v.ownBlock=some b) W w6)(r3:v'.ownBlock=v.ownBlock\/∀ b,v'.ownBlock=some b->W.heap.size<=b)(hz:z<=W.heap.size)(h0:New≠[]) :
  WrTo z g v W (w6.setCell ⟨g,0,none⟩ v') v' (Tx++New):=by
 subst hn;have E:=h.var.keeps r2 (fun e=>(h.own g e).2.1 rfl);have H:=jae.oneSet w6 ⟨g,0,none⟩ v';have J:=h.var.lt;have o:∀ b,v'.ownBlock=some b->v.ownBlock=some b\/W.heap.size<=b:=fun b hb=>by
  rcases r3 with r3 | r3
  ·exact .inl (r3 ▸ hb)
  ·exact .inr (r3 b hb)
 have A:∀ b,v'.ownBlock=some b->b≠g:=fun b hb=>by
  rcases o b hb with e | e
  ·exact (h.own b e).2.1
  ·omega
 refine⟨⟨h.lo,E.set_same (i:=0) _,ja8 r1 H (fun b hb e=>A b hb e),fun b hb=>⟨?_,A b hb,bQ (jAd r1 hb) H.size⟩,fun e=>?_⟩,?_,o⟩
 ·rcases o b hb with e | e
  ·exact (h.own b e).1
  ·omega
 ·exact absurd (List.append_eq_nil_iff.1 e).2 h0
 ·exact ((r2.mono (fun x _ e=>.inr e):jae (fun b=>b=g\/v.ownBlock=some b) W w6)).trans' H (fun x K e=>.inl e)
theorem WrAt.sameTo{z g:Nat}{v:vV}{Tx:vM}{W:vW}(h:WrAt z g v Tx W):WrTo z g v W (W.setCell ⟨g,0,none⟩ v) v Tx:=by
 have K:=jae.oneSet W ⟨g,0,none⟩ v;have o:=h.var.set_same (i:=0) v
 exact⟨⟨h.lo,o,ja8 h.row K (fun b hb e=>(h.own b hb).2.1 e),fun b hb=>⟨(h.own b hb).1,(h.own b hb).2.1,bQ (h.own b hb).2.2 K.size⟩,h.nil⟩,K.mono (fun x _ e=>.inl e),fun b hb=>.inl hb⟩
theorem WrAt.same{z g:Nat}{v:vV}{Tx:vM}{W:vW}(h:WrAt z g v Tx W):WrAt z g v Tx (W.setCell ⟨g,0,none⟩ v):=h.sameTo.at'
theorem joa{W:vW}{T:TypeId}{sz:Nat}{a:Option Addr}{n c:Nat}{xs:List vV}(h:W.ownsRow 0 T sz (.slice a n c) n xs)(h0:n≠0):∃ b,a=some ⟨b,0,none⟩:=by
 obtain⟨_,⟨o,e⟩ |⟨g,A,E,e,_⟩⟩:=h
 ·injection o with _ o _
  exact absurd o h0
 ·injection e with e _ _
  exact⟨g,e⟩
theorem jev{W:vW}{T:TypeId}{b n c:Nat}{xs:List vV}(h:W.ownsRow 0 T 1 (.slice (some ⟨b,0,none⟩) n c) n xs){j:Nat}{u:vV}(hj:xs[j]?=some u):W.cell? ⟨b,j,none⟩=some u:=by
 have e:=(bP.1 hj).1;have o:=h.1;rw[h.cellAt j vO,hj]
theorem jvn(t:vB)(h:¬ t.size < 32):jkI (refB t)=some (shaB t):=by
 rw[jn1];unfold refB;rw[if_neg h];exact jep (jbd _)
theorem jn2(t:vB)(h:t.size < 32):jkI (refB t)=none:=by
 unfold refB;rw[if_pos h];cases e:jkI t with
 | none=>rfl
 | some x =>
  have:=(jxM (y:=t) (h:=x) e).size
  omega
theorem jtE(t:vB):(refB t).size<=33:=by
 unfold refB;split
 ·omega
 ·exact Nat.le_of_eq (jfa.size ⟨_,jbd t,rfl⟩)
theorem jtl{W:vW}{T:TypeId}{sz:Nat}{a:Option Addr}{n c:Nat}{xs:List vV}(h:W.ownsRow 0 T sz (.slice a n c) n xs):n<=c:=by
 obtain⟨_,⟨E,e⟩ |⟨g,o,A,e,H,J,K,O⟩⟩:=h
 ·omega
 ·injection e with _ _ e
  omega
theorem jrc(P:PA)(hT:TopC P)(hz:(textP P).size < 32)(w0 W:vW)(T:TypeId)(x:vV)(D:Nat->Prop)(g:Nat)(v:vV)(Tx:vM)(hc:jb0 w0)(O:ErrT w0)(hP:PaO P (.iface T x) D w0)(hE:Ext w0 W)(hW:WrAt w0.heap.size g v Tx W)(hl:Tx.length+cntP P<=100000) :
  vQ 218 #[.pointer (some ⟨g,0,none⟩),.iface T x] W (FoP w0.heap.size g v W (.string (refB (textP P))) (Tx++underP P)):=by
 obtain⟨W1,b1⟩:=vE (W.alloc (.cells #[.slice none 0 0] 131))
 have b4:Ext W W1:=by rw[b1];exact (ExtR W).alloc _
 have b5:WrAt w0.heap.size W.heap.size (.slice none 0 0) [] W1:=⟨hE.size,by rw[b1];exact Blk.new W _,fV _ _ _ _,fun b hb=>(by cases hb),fun _=>rfl⟩;have a0:=hT w0 W1 T x D W.heap.size (.slice none 0 0) [] hc O hP (hE.trans b4) b5 (by have:([]:vM).length=0:=rfl;omega);rw[cT]at a0;have a8:=Hd a0;clear a0;have c3:=Hd b1;have d7:=c3;have HG:=Hd hW;have Q:=Hd (bB b5 (bB b4 hE));have d8:=hc;have a9:=Hd (fun w (e:Ext w0 w)=>jyh w (textP P) (hc.ext e));have a3:=Hd (fun w=>jhY w (refB (textP P)) (by have:=jtE (textP P);omega));rw[jn2 _ hz]at a3;have c4:Tx.length+(underP P).length<=100000:=by
  cases hn:P.isNil with
  | true=>rw[jbF hn];show Tx.length+0<=_;omega
  | false=>have:=jeC P hn;omega
 have c5:=Hd c4
 obtain⟨U,hU⟩:=vE (underP P)
 obtain⟨t,ht⟩:=vE (textP P)
 rw[<-ht, <-hU]at a8;rw[<-ht]at a9 a3 ⊢;rw[<-hU]at c5 ⊢;clear hT hz hc O hP hE hW hl b4 b5 c4 hU ht b1 d7 d8;go_enter Tryz.func218,Tryz.ntmps218;go_wp2_with fail
 rw[<-c3.o];refine a8.o.mono ?_;rintro e w2 ⟨rfl,v2,X⟩;have b6:g≠W.heap.size:=by have:=HG.o.var.lt;omega
 have b0:=X.ext0 Q.o.1 (Q.o.2.2.trans Q.o.2.1) (bL _);have c6:WrAt w0.heap.size g v Tx w2:=(HG.o.ext Q.o.2.1).off X.kp (fun e=>e.elim b6 (fun e=>by cases e)) (fun b hb e=>e.elim (fun e=>by have:=(HG.o.own b hb).2.2;omega) (fun e=>by cases e));have c7:Ext W w2:=Q.o.2.1.trans' X.kp (fun x hx e=>e.elim (fun e=>by omega) (fun e=>by cases e));have e5:Hid (∀ b,v2.ownBlock=some b->W.heap.size<=b):=(fun b hb=>(X.sub b hb).elim (fun e=>by cases e) (fun e=>bJ Q.o.2.1.size e));have a5:=Hd (bB X.at' (bB c6 (bB c7 b0)));clear X c6 c7 b0
 obtain⟨h,hh⟩:=vE W.heap.size
 have e6:=Hd (bB b6 hh);rw[<-hh]at a5 ⊢;clear b6 hh;go_wp2_with fail
 refine vH (a9.o w2 a5.o.2.2.2) fun w3 d9=>?_;go_wp2_with fail
 refine vC (a3.o w3) fun w4 Z=>?_;have Z:=d9.o.trans Z;have A:=Hd (bB (a5.o.1.ext Z) (bB (a5.o.2.1.ext Z) (a5.o.2.2.1.trans Z)));clear Z;unfold optV;go_wp2_with fail
 obtain⟨i0,c8,e0,e1,e2⟩:=info_parts Tryz.infoStr
 obtain⟨a1,c1,c9⟩:=jaU A.o.2.1.row
 obtain⟨n1,b3⟩:∃ n,n=List.length Tx:=⟨_,rfl⟩
 rw[<-b3]at c9;subst c9;have d0:=Hd b3;have d1:=Hd (show World.ownsRow w4 0 9 1 (.slice a1 n1 c1) n1 (List.map Value.string Tx) by have h9:=A.o.2.1.row;rw[<-b3]at h9;exact h9);have c0:=Hd (jtl d1.o);have QG:=Hd (A.o.2.1.var.cell (i:=0) (v:=.slice a1 n1 c1) vF);clear b3
 by_cases hU0:U=[]
 ·have a6:=A.o.1.nil hU0
  subst a6;have QH:=Hd (A.o.1.var.cell (i:=0) (v:=.slice none 0 0) vF);have b7:=Hd hU0;clear hU0;refine jay [0,1,2,3,4,5,6,7,8,9,10,11,12] [9,12] (Ext) ExtR ExtT vY vY vY ?_;iterate 2 refine vP ?_
  refine qA _ ((.pointer (some ⟨g,0,none⟩))) rfl (fun w1=>by kernel_rfl) ?_;refine vS ?_
  refine vP ?_
  refine qL ⟨g,0,none⟩ _ rfl (fun w1 h1=>jaE (fun w=>by kernel_rfl) (jaa QG.o ((jai _).trans h1))) ?_;refine vS ?_
  refine vP ?_
  refine qA _ ((.pointer (some ⟨h,0,none⟩))) rfl (fun w1=>by kernel_rfl) ?_;refine vS ?_
  refine vP ?_
  refine qL ⟨h,0,none⟩ _ rfl (fun w1 h1=>jaE (fun w=>by kernel_rfl) (jaa QH.o ((jai _).trans h1))) ?_;refine vS ?_;refine qH _ rfl (fun w5 O K hK=>?_);refine jcd (v:=.slice a1 n1 c1) (w':=w5) (jdQ (jcm (i:=i0) Tryz.uStrs c8 a1 n1 c1 c0.o 0 w5) vY) (hK _ _ ?_);have d2:=Hd ((jai _).trans O);clear hK K O;refine vS ?_;refine qA _ ((.pointer (some ⟨g,0,none⟩))) rfl (fun w1=>by kernel_rfl) ?_;refine vS ?_
  refine vP ?_
  refine qH _ rfl (fun w8 H K hK=>?_);have E:=A.o.2.1.ext (d2.o.trans H);have q8:w8.cell? ⟨g,0,none⟩=some (.slice a1 n1 c1):=E.var.cell (i:=0) vF;have f8:w8.frozen? ⟨g,0,none⟩=false:=E.var.frozen;have d3:WrAt w0.heap.size g (.slice a1 n1 c1) Tx (w8.setCell ⟨g,0,none⟩ (.slice a1 n1 c1)):=E.same;have H8:=Hd (bB d3 (bB (d2.o.trans H) E));clear E d3 H;go_simp;refine hK _ _ ?_;clear hK K q8 f8;refine qE (fun w7 O=>?_);have H9:=Hd (H8.o.1.ext O);have b8:=Hd O;clear O;go_wp2_with fail
  go_ret;rw[b7.o,bZ]
  exact⟨rfl,_,(WrTo.refl HG.o (A.o.2.2.trans H8.o.2.1)).trans ((H8.o.2.2.sameTo).ext b8.o)⟩
 ·obtain⟨a2,c2,a6⟩:=jaU A.o.1.row
  have a7:=A.o.1.row
  obtain⟨n2,b9⟩:∃ n,n=List.length U:=⟨_,rfl⟩
  rw[<-b9]at a6 a7;rw[a6]at a7
  obtain⟨b2,rfl⟩:=joa a7 (fun e=>hU0 (bE vO))
  subst a6;have e3:=Hd a7;have d4:=Hd b9.symm;have b7:=Hd hU0;have d5:=Hd (show n1+n2<=200000 by have:=c5.o;have:=d0.o;omega);have QH:=Hd (A.o.1.var.cell (i:=0) (v:=.slice (some ⟨b2,0,none⟩) n2 c2) vF);clear hU0 a7 b9;refine jay [0,1,2,3,4,5,6,7,8,9,10,11,12] [9,12] (Ext) ExtR ExtT vY vY vY ?_;iterate 2 refine vP ?_
  refine qA _ ((.pointer (some ⟨g,0,none⟩))) rfl (fun w1=>by kernel_rfl) ?_;refine vS ?_
  refine vP ?_
  refine qL ⟨g,0,none⟩ _ rfl (fun w1 h1=>jaE (fun w=>by kernel_rfl) (jaa QG.o ((jai _).trans h1))) ?_;refine vS ?_
  refine vP ?_
  refine qA _ ((.pointer (some ⟨h,0,none⟩))) rfl (fun w1=>by kernel_rfl) ?_;refine vS ?_
  refine vP ?_
  refine qL ⟨h,0,none⟩ _ rfl (fun w1 h1=>jaE (fun w=>by kernel_rfl) (jaa QH.o ((jai _).trans h1))) ?_;refine vS ?_;refine qH _ rfl (fun w5 O K hK=>?_);have J:=(jai _).trans O;refine jdC w5 (.tmp 37) (.tmp 41) 31 rfl 9 i0 _ 1 16 Tryz.uStrs c8 e0 e1 e2 rfl vI (.slice a1 n1 c1) n1 _ rfl (jbq d1.o J) ⟨b2,0,none⟩ n2 c2 (U.map Value.string) rfl (by rw[cC,d4.o,jD]) (fun j u hj=>by rw[Addr.add_lit,cH];exact (jev (jbq e3.o J) hj)) (by intro u hu;obtain⟨y,_,rfl⟩:=bK.1 hu;rfl) (by have:=d5.o;unfold maxLen;omega) (by have:=d5.o;omega) ?_;intro v' w6 r1 r2 r3;have HA:=Hd (bB J (bB r1 (bB r2 r3)))
  obtain⟨a',c',e4⟩:=jaU r1
  subst e4;refine hK _ _ ?_;clear hK K O J r1 r2 r3;refine vS ?_;refine qA _ ((.pointer (some ⟨g,0,none⟩))) rfl (fun w1=>by kernel_rfl) ?_;refine vS ?_
  refine vP ?_
  refine qH _ rfl (fun w8 H K hK=>?_)
  obtain⟨J,r1,r2,r3⟩:=HA.o
  have a4:=A.o.2.1.ext J;have d6:w0.heap.size<=w5.heap.size:=bJ a4.lo (Nat.le_of_lt a4.var.lt);have hp:=a4.push (n:=n1+n2) (by rw[bC, <-d0.o,d4.o]) (by rw[cB];exact jbq r1 H) (r2.trans (H.mono (fun _ _ e=>e.elim))) r3 d6 b7.o;have E:=(a4.var.keeps r2 (fun e=>(a4.own g e).2.1 rfl)).keeps H (fun e=>e);have q8:w8.cell? ⟨g,0,none⟩=some (.slice a1 n1 c1):=E.cell (i:=0) vF;have f8:w8.frozen? ⟨g,0,none⟩=false:=E.frozen;have H8:=Hd (bB hp J);clear J r1 r2 r3 a4 d6 hp E H;go_simp;refine hK _ _ ?_;clear hK K q8 f8;refine qE (fun w7 O=>?_);have b8:=Hd O;clear O;go_wp2_with fail
  go_ret
  exact⟨rfl,_,((WrTo.refl HG.o (A.o.2.2.trans H8.o.2)).trans H8.o.1).ext b8.o⟩
theorem jww(P:PA)(hT:TopC P)(hz:¬(textP P).size < 32)(w0 W:vW)(T:TypeId)(x:vV)(D:Nat->Prop)(g:Nat)(v:vV)(Tx:vM)(hc:jb0 w0)(O:ErrT w0)(hP:PaO P (.iface T x) D w0)(hE:Ext w0 W)(hW:WrAt w0.heap.size g v Tx W)(hl:Tx.length+cntP P<=100000) :
  vQ 218 #[.pointer (some ⟨g,0,none⟩),.iface T x] W (FoP w0.heap.size g v W (.string (refB (textP P))) (Tx++(textP P :: underP P))):=by
 obtain⟨W1,b8⟩:=vE (W.alloc (.cells #[.slice none 0 0] 131))
 have c7:Ext W W1:=by rw[b8];exact (ExtR W).alloc _
 have c8:WrAt w0.heap.size W.heap.size (.slice none 0 0) [] W1:=⟨hE.size,by rw[b8];exact Blk.new W _,fV _ _ _ _,fun b hb=>(by cases hb),fun _=>rfl⟩;have a3:=hT w0 W1 T x D W.heap.size (.slice none 0 0) [] hc O hP (hE.trans c7) c8 (by have:([]:vM).length=0:=rfl;omega);rw[cT]at a3;have b3:=Hd a3;clear a3;have d7:=Hd b8;have f5:=d7;have HG:=Hd hW;have Q:=Hd (bB c8 (bB c7 hE));have f6:=hc;have b4:=Hd (fun w (e:Ext w0 w)=>jyh w (textP P) (hc.ext e));have a4:=Hd (fun w=>jhY w (refB (textP P)) (by have:=jtE (textP P);omega));rw[jvn _ hz]at a4;have d8:Tx.length+(underP P).length<=100000:=by
  cases hn:P.isNil with
  | true=>rw[jbF hn];show Tx.length+0<=_;omega
  | false=>have:=jeC P hn;omega
 have c9:=Hd d8
 obtain⟨U,hU⟩:=vE (underP P)
 obtain⟨t,ht⟩:=vE (textP P)
 rw[<-ht, <-hU]at b3;rw[<-ht]at b4 a4 ⊢;rw[<-hU]at c9 ⊢;clear hT hz hc O hP hE hW hl c7 c8 d8 hU ht b8 f5 f6;go_enter Tryz.func218,Tryz.ntmps218;go_wp2_with fail
 rw[<-d7.o];refine b3.o.mono ?_;rintro e w2 ⟨rfl,v2,X⟩;have d0:g≠W.heap.size:=by have:=HG.o.var.lt;omega
 have b5:=X.ext0 Q.o.1 (Q.o.2.2.trans Q.o.2.1) (bL _);have d9:WrAt w0.heap.size g v Tx w2:=(HG.o.ext Q.o.2.1).off X.kp (fun e=>e.elim d0 (fun e=>by cases e)) (fun b hb e=>e.elim (fun e=>by have:=(HG.o.own b hb).2.2;omega) (fun e=>by cases e));have e0:Ext W w2:=Q.o.2.1.trans' X.kp (fun x hx e=>e.elim (fun e=>by omega) (fun e=>by cases e));have d5:Hid (∀ b,v2.ownBlock=some b->W.heap.size<=b):=(fun b hb=>(X.sub b hb).elim (fun e=>by cases e) (fun e=>bJ Q.o.2.1.size e));have a6:=Hd (bB X.at' (bB d9 (bB e0 b5)));clear X d9 e0 b5
 obtain⟨h,hh⟩:=vE W.heap.size
 have e1:=Hd (bB d0 hh);rw[<-hh]at a6 ⊢;clear d0 hh;go_wp2_with fail
 refine vH (b4.o w2 a6.o.2.2.2) fun w3 f7=>?_;go_wp2_with fail
 refine vC (a4.o w3) fun w4 Z=>?_;have Z:=f7.o.trans Z;have A:=Hd (bB (a6.o.1.ext Z) (bB (a6.o.2.1.ext Z) (a6.o.2.2.1.trans Z)));clear Z;unfold optV
 obtain⟨i0,a7,b9,c3,c4⟩:=info_parts Tryz.infoStr
 have a8:=A.o.2.1
 obtain⟨a0,c0,f9⟩:=jaU a8.row
 have q4:=a8.var.cell (i:=0) (v:=v) vF;have e2:=Hd (show Tx.length<=100000 by have:=c9.o;omega);have g0:=Hd a8.row;have a9:=Hd a8;clear a8;subst f9;go_wp2_with (at_builtin;refine jbZ _ rfl (.tmp 27) (.tmp 29) 31 rfl 9 i0 _ 1 16 Tryz.uStrs a7 b9 c3 c4 rfl vI (.slice a0 Tx.length c0) Tx.length _ rfl (jbq g0.o ((ExtR w4).alloc _)) ⟨w4.heap.size,0,none⟩ 1 1 [.string t] rfl rfl (jaJ (Blk.new w4 _)) (by simp[Value.oneCell']) (by have:=e2.o;unfold maxLen;omega) (by have:=e2.o;omega) ?_;intro v' w6 r1 r2 r3;obtain⟨e3,e4,rfl⟩:=jaU r1;have g1:=a9.o.var.lt;have d1:=(a9.o.var.alloc (.cells #[.string t] 9)).keeps r2 (fun e=>(a9.o.own g e).2.1 rfl);have g2:w6.cell? ⟨g,0,none⟩=some (.slice a0 Tx.length c0):=d1.cell (i:=0) vF;have g3:w6.frozen? ⟨g,0,none⟩=false:=d1.frozen)
 obtain⟨wS,e5⟩:=vE (w6.setCell ⟨g,0,none⟩ (.slice e3 (Tx.length+1) e4))
 have b6:=a9.o.ext ((ExtR w4).alloc (.cells #[.string t] 9));have hp:=b6.push (n:=Tx.length+1) (New:=[t]) (by simp) (by rw[cB];exact r1) r2 r3 (by have:=a9.o.lo;rw[bT];omega) (by simp);rw[<-e5]at hp ⊢;have hp:=WrTo.ahead ((ExtR w4).alloc (.cells #[.string t] 9)) hp;have e6:=A.o.1.off hp.kp (fun e=>e.elim (fun e=>by have:=HG.o.var.lt;have:=e1.o.2;omega) (fun e=>by have:=(HG.o.own h e).2.2;have:=e1.o.2;omega)) (fun b hb e=>by
  have h1:=d5.o b hb;rcases e with e | e
  ·have:=HG.o.var.lt;omega
  ·have:=(HG.o.own b e).2.2;omega)
 have b7:WrTo w0.heap.size g (.slice a0 Tx.length c0) W wS (.slice e3 (Tx.length+1) e4) (Tx++[t]):=(WrTo.refl HG.o A.o.2.2).trans hp;have c5:∃ v1,WrAt w0.heap.size h v2 U wS/\WrAt w0.heap.size g v1 (Tx++[t]) wS/\WrTo w0.heap.size g (.slice a0 Tx.length c0) W wS v1 (Tx++[t]):=⟨_,e6,hp.at',b7⟩
 obtain⟨v1,c5⟩:=c5
 clear A hp b6 e5 e6 b7 g2 g3 d1 r1 r2 r3 g1 q4;have A:=Hd c5;clear c5 a7 b9 c3 c4
 obtain⟨i0,a7,b9,c3,c4⟩:=info_parts Tryz.infoStr
 obtain⟨a1,c1,e7⟩:=jaU A.o.2.1.row
 obtain⟨n1,c6⟩:∃ n,n=List.length (Tx++[t]):=⟨_,rfl⟩
 rw[<-c6]at e7;subst e7;have e8:=Hd c6;have e9:=Hd (show World.ownsRow wS 0 9 1 (.slice a1 n1 c1) n1 (List.map Value.string (Tx++[t])) by have h9:=A.o.2.1.row;rw[<-c6]at h9;exact h9);have d6:=Hd (jtl e9.o);have QG:=Hd (A.o.2.1.var.cell (i:=0) (v:=.slice a1 n1 c1) vF);clear c6
 by_cases hU0:U=[]
 ·have b0:=A.o.1.nil hU0
  subst b0;have QH:=Hd (A.o.1.var.cell (i:=0) (v:=.slice none 0 0) vF);have d2:=Hd hU0;clear hU0;refine jay [0,1,2,3,4,5,6,7,8,9,10,11,12] [9,12] (Ext) ExtR ExtT vY vY vY ?_;iterate 2 refine vP ?_
  refine qA _ ((.pointer (some ⟨g,0,none⟩))) rfl (fun w1=>by kernel_rfl) ?_;refine vS ?_
  refine vP ?_
  refine qL ⟨g,0,none⟩ _ rfl (fun w1 h1=>jaE (fun w=>by kernel_rfl) (jaa QG.o ((jai _).trans h1))) ?_;refine vS ?_
  refine vP ?_
  refine qA _ ((.pointer (some ⟨h,0,none⟩))) rfl (fun w1=>by kernel_rfl) ?_;refine vS ?_
  refine vP ?_
  refine qL ⟨h,0,none⟩ _ rfl (fun w1 h1=>jaE (fun w=>by kernel_rfl) (jaa QH.o ((jai _).trans h1))) ?_;refine vS ?_;refine qH _ rfl (fun w5 O K hK=>?_);refine jcd (v:=.slice a1 n1 c1) (w':=w5) (jdQ (jcm (i:=i0) Tryz.uStrs a7 a1 n1 c1 d6.o 0 w5) vY) (hK _ _ ?_);have f0:=Hd ((jai _).trans O);clear hK K O;refine vS ?_;refine qA _ ((.pointer (some ⟨g,0,none⟩))) rfl (fun w1=>by kernel_rfl) ?_;refine vS ?_
  refine vP ?_
  refine qH _ rfl (fun w8 H K hK=>?_);have E:=A.o.2.1.ext (f0.o.trans H);have q8:w8.cell? ⟨g,0,none⟩=some (.slice a1 n1 c1):=E.var.cell (i:=0) vF;have f8:w8.frozen? ⟨g,0,none⟩=false:=E.var.frozen;have f1:WrAt w0.heap.size g (.slice a1 n1 c1) (Tx++[t]) (w8.setCell ⟨g,0,none⟩ (.slice a1 n1 c1)):=E.same;have H8:=Hd (bB f1 (bB (f0.o.trans H) E));clear E f1 H;go_simp;refine hK _ _ ?_;clear hK K q8 f8;refine qE (fun w7 O=>?_);have H9:=Hd (H8.o.1.ext O);have d3:=Hd O;clear O;go_wp2_with fail
  go_ret;rw[d2.o]
  exact⟨rfl,_,(A.o.2.2.ext H8.o.2.1).trans ((H8.o.2.2.sameTo).ext d3.o)⟩
 ·obtain⟨a2,c2,b0⟩:=jaU A.o.1.row
  have b1:=A.o.1.row
  obtain⟨n2,d4⟩:∃ n,n=List.length U:=⟨_,rfl⟩
  rw[<-d4]at b0 b1;rw[b0]at b1
  obtain⟨b2,rfl⟩:=joa b1 (fun e=>hU0 (bE vO))
  subst b0;have g4:=Hd b1;have f2:=Hd d4.symm;have d2:=Hd hU0;have f3:=Hd (show n1+n2<=200000 by have:=c9.o;have h9:=e8.o;rw[bC,iH]at h9;omega);have QH:=Hd (A.o.1.var.cell (i:=0) (v:=.slice (some ⟨b2,0,none⟩) n2 c2) vF);clear hU0 b1 d4;refine jay [0,1,2,3,4,5,6,7,8,9,10,11,12] [9,12] (Ext) ExtR ExtT vY vY vY ?_;iterate 2 refine vP ?_
  refine qA _ ((.pointer (some ⟨g,0,none⟩))) rfl (fun w1=>by kernel_rfl) ?_;refine vS ?_
  refine vP ?_
  refine qL ⟨g,0,none⟩ _ rfl (fun w1 h1=>jaE (fun w=>by kernel_rfl) (jaa QG.o ((jai _).trans h1))) ?_;refine vS ?_
  refine vP ?_
  refine qA _ ((.pointer (some ⟨h,0,none⟩))) rfl (fun w1=>by kernel_rfl) ?_;refine vS ?_
  refine vP ?_
  refine qL ⟨h,0,none⟩ _ rfl (fun w1 h1=>jaE (fun w=>by kernel_rfl) (jaa QH.o ((jai _).trans h1))) ?_;refine vS ?_;refine qH _ rfl (fun w5 O K hK=>?_);have J:=(jai _).trans O;refine jdC w5 (.tmp 37) (.tmp 41) 31 rfl 9 i0 _ 1 16 Tryz.uStrs a7 b9 c3 c4 rfl vI (.slice a1 n1 c1) n1 _ rfl (jbq e9.o J) ⟨b2,0,none⟩ n2 c2 (U.map Value.string) rfl (by rw[cC,f2.o,jD]) (fun j u hj=>by rw[Addr.add_lit,cH];exact (jev (jbq g4.o J) hj)) (by intro u hu;obtain⟨y,_,rfl⟩:=bK.1 hu;rfl) (by have:=f3.o;unfold maxLen;omega) (by have:=f3.o;omega) ?_;intro v' w6 r1 r2 r3;have HA:=Hd (bB J (bB r1 (bB r2 r3)))
  obtain⟨a',c',g5⟩:=jaU r1
  subst g5;refine hK _ _ ?_;clear hK K O J r1 r2 r3;refine vS ?_;refine qA _ ((.pointer (some ⟨g,0,none⟩))) rfl (fun w1=>by kernel_rfl) ?_;refine vS ?_
  refine vP ?_
  refine qH _ rfl (fun w8 H K hK=>?_)
  obtain⟨J,r1,r2,r3⟩:=HA.o
  have a5:=A.o.2.1.ext J;have f4:w0.heap.size<=w5.heap.size:=bJ a5.lo (Nat.le_of_lt a5.var.lt);have hp:=a5.push (n:=n1+n2) (by rw[bC, <-e8.o,f2.o]) (by rw[cB];exact jbq r1 H) (r2.trans (H.mono (fun _ _ e=>e.elim))) r3 f4 d2.o;have E:=(a5.var.keeps r2 (fun e=>(a5.own g e).2.1 rfl)).keeps H (fun e=>e);have q8:w8.cell? ⟨g,0,none⟩=some (.slice a1 n1 c1):=E.cell (i:=0) vF;have f8:w8.frozen? ⟨g,0,none⟩=false:=E.frozen;have H8:=Hd (bB hp J);clear J r1 r2 r3 a5 f4 hp E H;go_simp;refine hK _ _ ?_;clear hK K q8 f8;refine qE (fun w7 O=>?_);have d3:=Hd O;clear O;go_wp2_with fail
  go_ret;rw[show Tx++t :: U=Tx++[t]++U by rw[cE];rfl]
  exact⟨rfl,_,((A.o.2.2.ext H8.o.2).trans H8.o.1).ext d3.o⟩
theorem jwY(P:PA)(hT:TopC P):jxg P:=by
 intro e W T x D g v o A E H J K O;unfold bigs
 by_cases hz:(textP P).size < 32
 ·rw[if_pos hz]
  exact jrc P hT hz e W T x D g v o A E H J K O
 ·rw[if_neg hz]
  exact jww P hT hz e W T x D g v o A E H J K O
theorem jnM(k:Int)(p v r r':vB):(jcf k p v r).toArray.setIfInBounds 3 (.string r')=(jcf k p v r').toArray:=by simp[jcf]
theorem jxC(w0 W:vW)(q:vB)(n:PA)(T:TypeId)(x:vV)(Dn:Nat->Prop)(b:Nat)(hB:Blk w0 b (.cells #[.string q,.iface T x] 236))(hv:PaO n (.iface T x) Dn w0)(hR:jxg n)(g:Nat)(v:vV)(Tx:vM)(hc:jb0 w0)(he:ErrT w0)(hE:Ext w0 W)(hW:WrAt w0.heap.size g v Tx W)(hl:Tx.length+cntP n<=100000) :
  vQ 238 #[.pointer (some ⟨b,0,none⟩),.pointer (some ⟨g,0,none⟩)] W (FoP w0.heap.size g v W (jad.V ⟨2,q,⟨#[]⟩,refB (textP n) :: jan 15⟩) (Tx++(bigs (textP n)++underP n))):=by
 have Q0:=Hd (hB.cell (i:=0) (v:=.string q) vF);have Q1:=Hd (hB.cell (i:=1) (v:=.iface T x) vF);have X:=Hd (bB hW hE);have Z:=Hd (fun w (e:Ext w0 w) (k:WrAt w0.heap.size g v Tx w)=>hR w0 w T x Dn g v Tx hc he hv e k hl)
 obtain⟨t,ht⟩:=vE (refB (textP n))
 obtain⟨U,hU⟩:=vE (Tx++(bigs (textP n)++underP n))
 rw[<-ht, <-hU]at Z;rw[<-ht, <-hU];clear hB hv hR hc he hE hW hl ht hU;have c4:∀ w,(Instr.build 103 #[(0,.int .i64 2),(1,.string q)]).run Tryz.prog w=.ok (.agg (jcf 2 q ⟨#[]⟩ ⟨#[]⟩).toArray) w:=fun w=>by kernel_rfl
 go_enter Tryz.func238,Tryz.ntmps238;go_wp2_with (first |(refine jaj (w:=W) Tryz.allocNode rfl rfl ?_;intro A b1 a3;have b2:=Hd b1;have b3:=Hd a3;have q0:=jaa Q0.o (X.o.2.trans a3);clear b1 a3) |(refine jaj (w:=A) Tryz.allocNode rfl rfl ?_;intro W2 b4 a4) |(refine jah (vs:=jcf 2 q ⟨#[]⟩ ⟨#[]⟩) rfl rfl rfl rfl b4 rfl Tryz.szNode (jcg _ _ _ _) ?_;intro W3 a5 a6;have q1:=jaa (jaa Q1.o (X.o.2.trans b3.o)) (a4.trans' a6 (fun x hx e=>by have e:x=A.heap.size:=e;omega))))
 have H:Ext A W3:=a4.trans' a6 (fun x hx e=>by have e:x=A.heap.size:=e;omega);have J:=Hd (bB a5 (bB (b2.o.keeps H (fun e=>e)) (b3.o.trans H)));have b5:=b2.o.lt;have HN:=Hd (show W.heap.size < A.heap.size/\A.heap.size < W3.heap.size from⟨b5,a5.lt⟩);clear b4 a4 a5 a6 H b5;refine (Z.o W3 (X.o.2.trans J.o.2.2) (X.o.1.ext J.o.2.2)).mono ?_;rintro e w4 ⟨rfl,v4,E⟩;have b9:=X.o.1.var.lt;have a7:A.heap.size≠g:=by have:=HN.o.1;omega
 have a8:v.ownBlock≠some A.heap.size:=fun e=>by have:=(X.o.1.own _ e).2.2;have:=HN.o.1;omega
 have K:=E.blk J.o.1 a7 a8;have a0:=E.blk J.o.2.1 vO (fun e=>by have:=(X.o.1.own _ e).2.2;omega);have qf:w4.cell? ⟨A.heap.size,3,none⟩=some (.string ⟨#[]⟩):=K.cellL (i:=3) vF;have ff:w4.frozen? ⟨A.heap.size,3,none⟩=false:=K.frozen
 obtain⟨W5,O⟩:=vE (w4.setCell ⟨A.heap.size,3,none⟩ (.string t))
 have c0:Blk W5 A.heap.size (.cells (jcf 2 q ⟨#[]⟩ t).toArray 103):=by
  have:=K.set_same (i:=3) (.string t)
  rw[jnM]at this;rw[O];exact this
 have a9:jae (fun z=>z=A.heap.size) w4 W5:=by rw[O];exact jae.oneSet w4 ⟨A.heap.size,3,none⟩ (.string t)
 have a1:Blk W5 W.heap.size (.cells jaH.cells.toArray 103):=a0.keeps a9 (fun e=>by have:=HN.o.1;have e:W.heap.size=A.heap.size:=e;omega);have b6:v4.ownBlock≠some A.heap.size:=fun e=>by
  rcases E.sub _ e with e | e
  ·exact a8 e
  ·have:=HN.o.2;omega
 have b7:=(WrTo.ahead J.o.2.2 E).fill a9 a7 b6 (by have:=HN.o.1;omega);have a2:v4.ownBlock≠some W.heap.size:=fun e=>by
  rcases E.sub _ e with e | e
  ·have:=(X.o.1.own _ e).2.2;omega
  ·have:=HN.o.1;have:=HN.o.2;omega
 have Q:=Hd (bB b7 (bB a1 (bB a2 (show W.heap.size≠g by omega))));have b0:=Hd O;clear E b9 a7 a8 K a0 a9 b6 b7 a2 O a1 q0 q1;have c1:Blk (w4.setCell ⟨A.heap.size,3,none⟩ (.string t)) A.heap.size (.cells (jad.cells ⟨2,q,⟨#[]⟩,t :: jan 15⟩).toArray 103):=by rw[<-b0.o];exact c0
 have c2:Blk (w4.setCell ⟨A.heap.size,3,none⟩ (.string t)) W.heap.size (.cells jaH.cells.toArray 103):=by rw[<-b0.o];exact Q.o.2.1
 go_wp2_with (refine jaf 103 (.tmp 5) rfl rfl _ _ rfl (jaq _ _ ⟨2,q,⟨#[]⟩,t :: jan 15⟩ rfl c1) ?_;refine jah (vs:=jad.cells ⟨2,q,⟨#[]⟩,t :: jan 15⟩) rfl rfl rfl rfl c2 rfl Tryz.szNode (jad.one _) ?_;intro W8 c3 b8)
 rw[<-b0.o]at b8;refine bodyPost_ret (jbJ rfl rfl (jaw W8 _ ⟨2,q,⟨#[]⟩,t :: jan 15⟩ rfl c3)) rfl ?_
 exact⟨rfl,v4,Q.o.1.fill b8 Q.o.2.2.2 Q.o.2.2.1 (bL _)⟩
def bfN(u:vB)(rs:vM)(k:Nat):jad:=⟨3,⟨#[]⟩,u,rs.take k++jan (16 - k)⟩
theorem jxn(u:vB){rs:vM}(h:rs.length=16){k:Nat}(hk:k < 16)(r:vB)(hr:rs[k]?=some r):(bfN u rs k).cells.set (3+k) (.string r)=(bfN u rs (k+1)).cells:=by
 have e:(rs.take k++jan (16 - k)).set k r=rs.take (k+1)++jan (16 - (k+1)):=by
  rw[fK _ _ (by simp[h];omega)]
  have:k - (rs.take k).length=0:=by simp[h];omega
  rw[this,show 16 - k=(16 - (k+1))+1 by omega];unfold jan;rw[fI,dL,bW,hr];simp
 unfold jad.cells bfN;simp only;rw[show 3+k=k+1+1+1 by omega,dG,dG,dG, <-e,iB]
theorem juK(u:vB){rs:vM}(h:rs.length=16){k:Nat}(hk:k < 16)(hr:rs[k]?=some ⟨#[]⟩):bfN u rs (k+1)=bfN u rs k:=by
 unfold bfN;rw[bW,hr,show 16 - k=(16 - (k+1))+1 by omega];unfold jan;rw[fI];simp
theorem jxm(u:vB){rs:vM}(h:rs.length=16){k:Nat}(hk:k<=16):(bfN u rs k).refs.length=16:=by
 unfold bfN jan;simp[h];omega
theorem jBc(u:vB)(rs:vM):(bfN u rs 0).cells=jcf 3 ⟨#[]⟩ u ⟨#[]⟩:=rfl
theorem jzv(u:vB){rs:vM}(h:rs.length=16):bfN u rs 16=⟨3,⟨#[]⟩,u,rs⟩:=by
 unfold bfN jan;rw[bN vO];simp
noncomputable def underK(ks:Nat->PA)(k:Nat):vM:=(List.range k).flatMap fun i=>if (ks i).isNil then []else bigs (textP (ks i))++underP (ks i)
theorem joy(ks:Nat->PA)(k:Nat):underK ks (k+1)=underK ks k++(if (ks k).isNil then []else bigs (textP (ks k))++underP (ks k)):=by
 unfold underK;rw[fR,dX]
 simp
theorem jq9(ks:Nat->PA)(k:Nat):(underK ks k).length<=sumF (fun i=>cntP (ks i)) k:=jgz _ _ (fun i=>by
 show (if (ks i).isNil=true then ([]:vM)else bigs (textP (ks i))++underP (ks i)).length<=cntP (ks i);cases hn:(ks i).isNil with
 | true=>rw[if_pos rfl];exact cD _
 | false =>
  rw[if_neg ff,bC];have e:=jkt (textP (ks i))
  have:=jeC (ks i) hn
  omega) k
noncomputable def refsK(ks:Nat->PA):vM:=(List.range 16).map fun i=>if (ks i).isNil then ⟨#[]⟩else refB (textP (ks i))
theorem jdp(ks:Nat->PA):(refsK ks).length=16:=by unfold refsK;simp
theorem jv3(ks:Nat->PA){k:Nat}(hk:k < 16):(refsK ks)[k]?=some (if (ks k).isNil then ⟨#[]⟩else refB (textP (ks k))):=by
 unfold refsK;rw[bX,dW hk];rfl
def jAJ(z g:Nat)(v:vV)(W:vW)(L:Nat)(u:vB)(rs:vM)(Tx:vM)(ks:Nat->PA)(iv:vV)(wr:vW):Prop:=
 ∃ k:Nat,k<=16/\iv=.int .i64 k/\∃ v',WrTo z g v W wr v' (Tx++underK ks k)/\Blk wr L (.cells (bfN u rs k).cells.toArray 103)/\Blk wr W.heap.size (.cells jaH.cells.toArray 103)/\v'.ownBlock≠some L/\v'.ownBlock≠some W.heap.size
theorem jxo(w0 W:vW)(u:vB)(ks:Nat->PA)(b:Nat)(vk:Nat->vV)(Dk:Nat->Nat->Prop)(hb:BrRd u ks b vk Dk w0)(hR:∀ i,i < 16->(ks i).isNil=false->jxg (ks i))(g:Nat)(v:vV)(Tx:vM)(hc:jb0 w0)(he:ErrT w0)(hE:Ext w0 W)(hW:WrAt w0.heap.size g v Tx W)(hl:Tx.length+(1+sumF (fun i=>cntP (ks i)) 16)<=100000) :
  vQ 245 #[.pointer (some ⟨b,0,none⟩),.pointer (some ⟨g,0,none⟩)] W (FoP w0.heap.size g v W (jad.V ⟨3,⟨#[]⟩,u,refsK ks⟩) (Tx++underK ks 16)):=by
 have q0:=jaa (hb.blk.cellL (i:=0) (v:=.string u) vF) hE;have HB:=Hd hb;have HW:=Hd (bB hW hE);have b0:=Hd (fun(k:Nat) (hk:k < 16) (hn:(ks k).isNil=false) (T:TypeId) (x:vV) (hx:vk k=.iface T x) (w:vW) (v':vV) (e:Ext w0 w) (h:WrAt w0.heap.size g v' (Tx++underK ks k) w)=>hR k hk hn w0 w T x (Dk k) g v' (Tx++underK ks k) hc he (hx ▸ hb.kid k hk) e h (by
  have h1:=jq9 ks k;have h2:=jeA (fun i=>cntP (ks i)) (k+1) (15 - k);rw[show k+1+(15 - k)=16 by omega]at h2;have h3:sumF (fun i=>cntP (ks i)) k+cntP (ks k)<=sumF (fun i=>cntP (ks i)) 16:=h2;rw[bC];omega))
 have d3:=jkT;clear hR hc he hl;have d4:∀ w,(Instr.build 103 #[(0,.int .i64 3),(2,.string u)]).run Tryz.prog w=.ok (.agg (jcf 3 ⟨#[]⟩ u ⟨#[]⟩).toArray) w:=fun w=>by kernel_rfl
 clear hb hW hE;go_enter Tryz.func245,Tryz.ntmps245;go_wp2_with (first |(refine jaj (w:=W) Tryz.allocNode rfl rfl ?_;intro W1 b1 a2;have a3:=Hd b1;have a4:=Hd a2;have q1:=jaa q0 a2;clear b1 a2) |(refine jaj (w:=W1) Tryz.allocNode rfl rfl ?_;intro W2 b3 b4) |(refine jah (vs:=jcf 3 ⟨#[]⟩ u ⟨#[]⟩) rfl rfl rfl rfl b3 rfl Tryz.szNode (jcg _ _ _ _) ?_;intro W3 a5 b5;have K:Ext W1 W3:=b4.trans' b5 (fun x hx e=>by have e:x=W1.heap.size:=e;omega);have b6:=jbg (HB.o.blk.keeps ((HW.o.2.trans a4.o).trans K) (fun e=>e))) |(refine jaf 238 (.tmp 15) rfl rfl _ _ rfl b6 ?_))
 have X:=Hd (bB a5 (bB (a3.o.keeps K (fun e=>e)) (a4.o.trans K)));have A:=a3.o.lt;have HN:=Hd (show W.heap.size < W1.heap.size/\W1.heap.size < W3.heap.size from⟨A,a5.lt⟩);clear b3 b4 a5 b5 K A b6 q0 q1
 obtain⟨L,hL⟩:=vE W1.heap.size
 rw[<-hL]at X HN ⊢;clear hL a3 a4;have HG:=Hd HW.o.1.var.lt;go_loopw [17] (fun iv wr=>jAJ w0.heap.size g v W L u (refsK ks) Tx ks iv wr) (fun iv _=>16 - (intOf iv).toNat)
 case atStart =>
  have:=HN.o
  have hg:=HG.o
  exact⟨0,by omega,rfl,v,by rw[show underK ks 0=[]from rfl,bZ];exact WrTo.refl HW.o.1 X.o.2.2,by rw[jBc];exact X.o.1,X.o.2.1,fun e=>by have:=(HW.o.1.own _ e).2.2;omega,fun e=>by have:=(HW.o.1.own _ e).2.2;omega⟩
 case round =>
  obtain⟨k,hk,rfl,v1,hT,b7,b8,b9,c0⟩:=hrel
  have E:=Hd (bB hT (bB b7 (bB b8 (bB b9 c0))));clear hT b7 b8 b9 c0
  by_cases A:k < 16
  ·have c1:=jeV vk A
   have O:=joy ks k;have H:=jv3 ks A;rcases (HB.o.kid k A).at'.kid with⟨hn,hv⟩ |⟨hn,T,x,hv⟩
   ·rw[hn,if_pos rfl,bZ]at O
    rw[hn,if_pos rfl]at H;rw[hv]at c1;have c6:=Hd O;have c7:=Hd (juK u (jdp ks) A H);clear O hn hv H;go_wp2;go_roundw
    case rel=>exact⟨k+1,by omega,by go_num,v1,by rw[c6.o];exact E.o.1,by rw[c7.o];exact E.o.2.1,E.o.2.2.1,E.o.2.2.2⟩
    case measure=>exact vJ
   ·rw[hn,if_neg ff]at O
    rw[hn,if_neg ff]at H;rw[hv]at c1;have hq:=jdz T x;have J:=Hd (b0.o k A hn T x hv wr v1 (E.o.1.ext0 HW.o.1 HW.o.2 (bL _)) E.o.1.at');rw[cE, <-O]at J
    obtain⟨r,hr⟩:=vE (refB (textP (ks k)))
    rw[<-hr]at H J;have c8:=Hd H;clear O hn hv H hr;have b2:(k:Int) < 16:=vO
    go_wp2_with fail
    refine J.o.mono ?_;rintro e w4 ⟨rfl,v4,Q⟩;have a6:L≠g:=by have:=HN.o.1;have:=HG.o;omega
    have c2:W.heap.size≠g:=by have:=HG.o;omega
    have Z:=Q.blk E.o.2.1 a6 E.o.2.2.2.1;have a0:=Q.blk E.o.2.2.1 c2 E.o.2.2.2.2;have a7:∀ y,y < wr.heap.size->v1.ownBlock≠some y->v4.ownBlock≠some y:=fun y hy h1 e=>by
     rcases Q.sub y e with e | e
     ·exact h1 e
     ·omega
    have a8:=a7 L E.o.2.1.lt E.o.2.2.2.1;have c3:=a7 W.heap.size E.o.2.2.1.lt E.o.2.2.2.2;have c9:(bfN u (refsK ks) k).cells.length=19:=jad.cells_len _ (jxm u (jdp ks) hk)
    obtain⟨old,qf⟩:∃ v,w4.cell? ⟨L,3+k,none⟩=some v:=⟨_,Z.cellL (bA vO)⟩
    have d5:w4.frozen? ⟨L,3+k,none⟩=false:=Z.frozen;have a9:=Z.set_same (i:=3+k) (.string r);rw[show (bfN u (refsK ks) k).cells.toArray.setIfInBounds (3+k) (.string r)=((bfN u (refsK ks) k).cells.set (3+k) (.string r)).toArray by simp,jxn u (jdp ks) A r c8.o]at a9;have K5:jae (fun z=>z=L) w4 (w4.setCell ⟨L,3+k,none⟩ (.string r)):=jae.oneSet w4 ⟨L,3+k,none⟩ (.string r);have a1:=a0.keeps K5 (fun e=>by have e:W.heap.size=L:=e;have:=HN.o.1;omega);have c4:=(E.o.1.trans Q).fill K5 a6 a8 (by have:=HN.o.1;omega);have H5:=Hd (bB c4 (bB a9 (bB a1 (bB a8 c3))));clear Q a6 c2 Z a0 a7 a8 c3 c9 a9 K5 a1 c4;go_wp2_with fail
    go_roundw
    case rel=>exact⟨k+1,by omega,by go_num,v4,H5.o⟩
    case measure=>exact vJ
  ·obtain rfl:k=16:=vO
   have c5:=E.o.2.1;rw[jzv u (jdp ks)]at c5;have d0:=E.o.2.2.1;go_wp2_with (refine jaf 103 (.tmp 5) rfl rfl _ _ rfl (jaq _ _ ⟨3,⟨#[]⟩,u,refsK ks⟩ (jdp ks) c5) ?_;refine jah (vs:=jad.cells ⟨3,⟨#[]⟩,u,refsK ks⟩) rfl rfl rfl rfl d0 (by rw[jad.cells_len _ (jdp ks)];rfl) (by rw[jad.cells_len _ (jdp ks)];exact Tryz.szNode) (jad.one _) ?_;intro W8 d1 d2)
   refine bodyPost_ret (jbJ rfl rfl (jaw W8 _ ⟨3,⟨#[]⟩,u,refsK ks⟩ (jdp ks) d1)) rfl ?_
   exact⟨rfl,v1,E.o.1.fill d2 (by have:=HG.o;omega) E.o.2.2.2.2 (bL _)⟩
end
section
open Go Go.RowKit
theorem jk0:∀ (P:PA),PutP P->jyX P
 | .nil=>fun _ A W T x D g v o K O h H E J=>by cases h.at'
 | .no=>fun _ A W T x D g v o K O h H E J=>by
  have e:Value.iface T x=noV:=h.at';unfold noV at e;injection e with e1 e2;subst e1 e2;show Calls _ _ _ W (FoP A.heap.size g v W jaH.V (o++[]));rw[bZ];exact jvI _ g v o W E
 | .leaf q u=>fun _ A W T x D g v o K O h H E J=>by
  obtain⟨b,e,h1,Q⟩:=h.at'
  unfold jjs at e;injection e with e1 e2;subst e1 e2;show Calls _ _ _ W (FoP A.heap.size g v W (jad.V ⟨1,q,u,jan 16⟩) (o++[]));rw[bZ];exact jxW A _ g v o W H q u b Q E
 | .ext q m=>fun X A W T x D g v o K O h H E J=>by
  obtain⟨b,T',x',Dn,e,h1,Q,Z,h4,h5⟩:=h.at'
  unfold extV at e;injection e with e1 e2;subst e1 e2;have J:o.length+(1+cntP m)<=100000:=J;have hn:m.isNil=false:=by
   cases m with
   | nil=>cases Z
   | _=>rfl
  exact jxC A W q m T' x' Dn b Q ⟨Z,fun z hz=>h.lt z (h5 z hz)⟩ (jwY m (jum m hn X.2 (jk0 m X.2))) g v o K O H E vO
 | .br u ks=>fun X A W T x D g v o K O h H E J=>by
  obtain⟨b,vk,Dk,e,h1,Q,Z,h4⟩:=h.at'
  unfold brV at e;injection e with e1 e2;subst e1 e2;have hb:BrRd u ks b vk Dk A:=⟨Q,fun i hi=>⟨(Z i hi).1,fun z hz=>h.lt z ((Z i hi).2.2 z hz)⟩⟩;exact jxo A W u ks b vk Dk hb (fun i _ hn=>jwY (ks i) (jum (ks i) hn (X.2 i) (jk0 (ks i) (X.2 i)))) g v o K O H E J
theorem jmH:∀ (f:Nat) (l:vL),jap f l->PutP (ja2 (f+1) l):=by
 intro f;induction f with
 | zero =>
  intro l h;have J:=jbI h;have o:=(good 0 l h).1;have A:=(jfL 0 l h).1;rw[<-A]at o;have e:=jmP o
  by_cases h0:l.length=0
  ·rw[jbV _ h0]at e ⊢;exact e
  ·rw[jb1 _ vO]at e ⊢;exact e
 | succ f ih =>
  intro l h;have o:=(good (f+1) l h).1;have A:=(jfL (f+1) l h).1;rw[<-A]at o;have e:=jmP o
  by_cases h0:l.length=0
  ·rw[jbV _ h0]at e ⊢;exact e
  by_cases h1:l.length=1
  ·rw[jb1 _ h1]at e ⊢;exact e
  have E:2<=l.length:=vO
  by_cases hk:0 < comK l
  ·obtain⟨H,K,_,_⟩:=jef h E hk
   rw[jdA _ E hk]at e ⊢
   exact⟨e,ih _ H⟩
  ·rw[jeS _ E hk]at e ⊢
   refine⟨e,fun i=>?_⟩
   show PutP (if (cutL i l).length=0 then PA.nil else ja2 (f+1) (jak 1 (cutL i l)))
   by_cases hc:(cutL i l).length=0
   ·rw[if_pos hc];exact trivial
   ·rw[if_neg hc];exact ih _ (je5 h hc).1
theorem jts(f:Nat)(l:vL)(h:jap f l):TopC (ja2 (f+1) l):=jum _ jdH (jmH f l h) (jk0 _ (jmH f l h))
end
section
open Go Go.RowKit
attribute [local go_sem] Oper.semAt_some
noncomputable def rootM(l:vL):vB:=shaB (jaG l).text
theorem jvb{l:vL}(h:jaz l=0):entP (ja2 13 (jaP l)) ⟨#[]⟩=l:=by
 have e:∀ q:vB,(⟨#[]⟩:vB)++q=q:=fun q=>jbo (by rw[jlK];rfl);rw[jtp 12 _ (jbD (jaD h)) ⟨#[]⟩ (fun q o=>by
  obtain⟨p,A,rfl⟩:=bK.1 o
  rw[e];exact jpD p.1)]
 unfold jaP;rw[dN]
 conv=>rhs;rw[<-List.map_id l]
 refine dI fun p A=>?_;show (jbu (⟨#[]⟩++jbv p.1),p.2)=p;rw[e,jfK]
structure PaM(w w1:World)(l:vL)(T:TypeId)(x:Value):Prop where
 ext:Ext w w1
 pa:PaO (ja2 13 (jaP l)) (.iface T x) (jlC w w1) w1
theorem js3(w:vW)(s bm:Nat)(room:Int)(S:vT)(hs:jaT w s bm room S)(hN:jic S)(l:vL)(h:HasM S l) :
  vQ 62 #[.pointer (some ⟨s,0,none⟩),.string (rootM l)] w fun e w'=>∃ T x,e=.returned (.tuple #[.iface T x,.bool true])/\PaM w w' l T x:=by
 refine (jyF w s bm room S hs hN (rootM l)).mono ?_;rintro e w' ⟨A,o⟩
 obtain⟨k,E⟩:=jtD w h
 unfold rootM at o;rw[E]at o
 obtain⟨T,x,rfl,H⟩:=o
 exact⟨T,x,rfl,A,H,fun z J=>J.2⟩
theorem jwP(w1 W:vW)(l:vL)(h:jaz l=0)(T:TypeId)(x:vV)(D:Nat->Prop)(hp:PaO (ja2 13 (jaP l)) (.iface T x) D w1)(hE:Ext w1 W) :
  vQ (jgd (ja2 13 (jaP l))) #[x,.string ⟨#[]⟩,.slice none 0 0] W fun e w'=>∃ v,e=.returned v/\ERow w1 w' v l.length l:=by
 have o:=jbD (jaD h);have E:=jkz (jaD h);refine (job _ w1 W T x D ⟨#[]⟩ (.slice none 0 0) 0 12 [] hp (ORow.nil _ _ hE) (jto 12 _ 12 o o) (by have:(⟨#[]⟩:vB).size=0:=rfl;omega) (by rw[jkA 12 _ o];omega)).mono ?_;rintro e w' ⟨v,n,rfl,A⟩;rw[cT,jvb h]at A
 have:=A.len'
 subst this
 exact⟨v,rfl,A⟩
theorem jAz(w:vW)(s bm:Nat)(room:Int)(S:vT)(hs:jaT w s bm room S)(hN:jic S)(l:vL)(h:HasM S l) :
  vQ 33 #[.pointer (some ⟨s,0,none⟩),.string (rootM l)] w fun e w'=>∃ v,e=.returned (.tuple #[v,.int .i64 0])/\ERow w w' v l.length l:=by
 have Z:=Hd (js3 w s bm room S hs hN l h);have HK:=Hd h.ok
 obtain⟨P,K⟩:=vE (ja2 13 (jaP l))
 have O:=Hd K;have a0:=jeo P;clear hs hN h K;go_enter Tryz.func33,Tryz.ntmps33;go_wp2_with fail
 refine Z.o.mono ?_;rintro e w1 ⟨T,x,rfl,E⟩;have Q:=Hd E;have A:=E.pa.at'.meth;rw[<-O.o]at A;have a1:∀ w,(Go.method (421+1) T x "guilloche/trie.entries").run Tryz.prog w=.ok (jgd P,x) w:=A.ent;have X:=Hd (jwP w1 w1 l HK.o T x _ E.pa (ExtR w1));rw[<-O.o]at X;clear E A;go_wp2_with fail
 refine X.o.mono ?_;rintro e w2 ⟨v,rfl,H⟩;have J:=Hd H
 obtain⟨a,c,hv⟩:=H.sl
 subst hv;clear H;go_wp2_with fail
 go_ret2
 exact⟨_,rfl,⟨_,_,rfl⟩,J.o.own,Q.o.ext.trans J.o.ext,fun b hb=>bJ Q.o.ext.size (J.o.new b hb)⟩
end
section
open Go Go.RowKit
theorem jeK:∀ (xs:List Chg) (j:Nat) (p:Chg),xs[j]?=some p->(jd1 xs)[j * 3]?=some (.string p.key)/\(jd1 xs)[j * 3+1]?=some (.string p.value)/\(jd1 xs)[j * 3+2]?=some (.bool p.gone)
 | [],j,p,h=>by simp at h
 | x :: r,0,p,h=>by simp at h;subst h;exact⟨rfl,rfl,rfl⟩
 | x :: r,j+1,p,h=>by
  obtain⟨e,o,A⟩:=jeK r j p (by simpa using h)
  rw[show (j+1) * 3=j * 3+3 by omega]
  exact⟨e,o,A⟩
theorem CRow.rdT{w0 w:vW}{v:vV}{n:Nat}{xs:List Chg}(h:CRow w0 w v n xs):RdC w v xs:=by
 have A:xs.length=n:=by have:=h.len;rw[jjE]at this;omega
 obtain⟨_,⟨rfl,X⟩ |⟨g,e,E,rfl,Z,H,J,h6,h7⟩⟩:=h.own
 ·exact .inl ⟨none,0,rfl,bE vO⟩
 ·subst A
  refine .inr ⟨g,0,e,rfl,(dJ.1 H).1,J,fun j x o=>?_⟩;have hj:=(bP.1 o).1
  obtain⟨K,O,Q⟩:=jeK xs j x o
  exact⟨by rw[cH,h.own.cellAt (j * 3) vO,K],by rw[cH,h.own.cellAt (j * 3+1) vO,O],by rw[cH,h.own.cellAt (j * 3+2) vO,Q]⟩
theorem jjM{l m:vL}(h1:l.length<=40)(h2:m.length<=40):(jcs l m).length<=80:=by
 have e:∀ l m:vL,(ja0 l m).length<=l.length+m.length:=fun l m=>by
  fun_induction ja0 l m <;> simp only[bF,cF]at * <;> omega
 unfold jcs;split
 ·have:=e l m;omega
 ·simp
theorem jpb{c:Chg}(h:c.bad=false):c.key.size<=6:=by
 unfold Chg.bad at h;have o:jcB c.key=true:=by
  cases e:jcB c.key with
  | true=>rfl
  | false=>rw[e]at h;simp at h
 unfold jcB at o;exact (of_decide_eq_true o).2
structure OkP(P:PA):Prop where
 can:P=.no\/CanP P
 dp:Dp P 12
theorem OkP.va{P:PA}(h:OkP P):VaP P:=by
 rcases h.can with h | h
 ·subst h;trivial
 ·exact jrP P h
theorem OkP.there{P:PA}(h:OkP P):P.isNil=false:=by
 rcases h.can with h | h
 ·subst h;rfl
 ·cases P with
  | nil=>exact h.elim
  | _=>rfl
theorem OkP.dp9{P:PA}(h:OkP P):Dp P 900000:=jch P 12 _ h.dp vO
theorem OkP.step{P:PA}(h:OkP P){c:Chg}(hc:c.bad=false):OkP (jcp P c):=by
 refine⟨(jt4 h.can hc).1,?_⟩
 have e:=jpb hc;have o:=jgL c.key;unfold jcp;split
 ·exact jiv P 12 _ h.dp
 ·exact joW P 12 _ _ h.dp vO
theorem jAa{l:vL}(h:jaz l=0):OkP (ja2 13 (jaP l)):=⟨jpB (jbD (jaD h)),jto 12 _ 12 (jbD (jaD h)) (jbD (jaD h))⟩
noncomputable def lackB(S:vT)(t:vB):Bool:=(atL S (shaB t).data.toList).isNone
noncomputable def freshU(S:vT)(U:vM):vM:=(ja9 U).filter (lackB S)
theorem jqC(S:vT)(U:vM)(x:vB):freshU S (U++[x])=freshU S U++(if memB (ja9 U) x=true then []else if lackB S x=true then [x]else []):=by
 unfold freshU;rw[jf8];unfold addF
 by_cases h:memB (ja9 U) x=true
 ·rw[if_pos h,if_pos h,bZ]
 ·rw[if_neg h,if_neg h,gO]
  congr 1
  cases e:lackB S x <;> simp[e]
theorem jmc(S:vT)(U:vM):(freshU S U).length<=U.length:=bJ (dF _ _) (jhe U)
noncomputable def belowM(m:vL):vM:=underP (ja2 13 (jaP m))
theorem jks{m:vL}(h:jaz m=0):belowM m=jaA (jas (jac 12) (jaP m)):=(jfL 12 _ (jbD (jaD h))).2.2
theorem jyE{m:vL}(h:jaz m=0):textP (ja2 13 (jaP m))=(jaG m).text:=(jfL 12 _ (jbD (jaD h))).2.1
theorem jlN{m:vL}(h:jaz m=0):(belowM m).length<=118:=by
 have e:=jeC (ja2 13 (jaP m)) jdH;have o:cntP (ja2 13 (jaP m))=cntT 12 (jaP m):=jkA 12 _ (jbD (jaD h));have A:=jkz (jaD h);unfold belowM;omega
noncomputable def newM(S:vT)(m:vL):vM:=(jaG m).text :: freshU S (belowM m)
def jbh(l:vL)(cs:List Chg):vL:=jc1 (je1 l cs)
def UpdP(w:vW)(S:vT)(l:vL)(cs:List Chg)(e:Ending)(w':vW):Prop:=
 if jbk l cs=0 then ∃ r,e=.returned (.tuple #[r,.int .i64 0])/\SRow w w' r (newM S (jbh l cs)).length (newM S (jbh l cs))else e=.returned (.tuple #[.slice none 0 0,.int .i64 (jbk l cs)])/\Ext w w'
def jzl(W3:vW)(D0:Nat->Prop)(P0:PA)(ds:List Chg)(pv iv:vV)(wr:vW):Prop:=∃ (k:Nat) (T:TypeId) (x:vV) (D:Nat->Prop),k<=ds.length/\iv=.int .i64 k/\pv=.iface T x/\PaO ((ds.take k).foldl jcp P0) (.iface T x) D wr/\(∀ z,D z->D0 z\/W3.heap.size<=z)/\jae D0 W3 wr
theorem jo3{P:PA}(h:OkP P):∀ (ds:List Chg),(∀ c∈ds,c.bad=false)->OkP (ds.foldl jcp P)
 | [],_=>h
 | c :: ds,hc=>jo3 (h.step (hc c bG)) ds (fun d e=>hc d (bD _ e))
theorem jvj{P:PA}(h:OkP P)(ds:List Chg)(hc:ds.any Chg.bad=false)(k:Nat):OkP ((ds.take k).foldl jcp P):=jo3 h _ fun c o=>by
 have:=List.any_eq_false.1 hc c (gC o)
 cases e:c.bad with
 | false=>rfl
 | true=>exact absurd e this
structure UpB(W7:World)(S:vT)(mb:Nat)(t:vB)(U:vM)(k:Nat)(rv:Value)(wr:World):Prop where
 row:∃ n,SRow W7 wr rv n (t :: freshU S (U.take k))
 out:rv.ownBlock≠some mb
 tab:∃ es ck,Blk wr mb (.map (Tryz.ES.arr es) ck)/\∀ x:vB,jaX es x.data.toList=cntV (cntB (U.take k) x)
def jzm(W7:vW)(S:vT)(mb:Nat)(t:vB)(U:vM)(rv iv:vV)(wr:vW):Prop:=∃ k:Nat,k<=U.length/\iv=.int .i64 k/\UpB W7 S mb t U k rv wr
theorem jqq(L:vM)(x y:vB):cntB (L++[x]) y=cntB L y+(if x.data.toList=y.data.toList then 1 else 0):=by
 unfold cntB;rw[cB,List.count_append,bS,iC,List.count_singleton]
 simp
theorem jov{α:Type}{l:List α}{k:Nat}{x:α}(h:l[k]?=some x):l.take (k+1)=l.take k++[x]:=by rw[bW,h];rfl
end
