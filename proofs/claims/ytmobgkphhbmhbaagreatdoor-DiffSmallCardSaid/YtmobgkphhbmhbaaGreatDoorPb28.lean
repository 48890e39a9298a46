/- Lemmas; each is under no condition but those that it states. -/
import Derived.Test.YtmobgkphhbmhbaaGreatDoorPb27
namespace Go.Proofs.YtmobgkphhbmhbaaGreatDoor
set_option linter.unusedSimpArgs false
set_option linter.unusedVariables false
set_option maxRecDepth 100000
set_option maxHeartbeats 16000000
section
open Go Go.RowKit
attribute [local go_sem] Oper.semAt_some
theorem Tryz.infoPlc:(Tryz.prog.info? 154).map (fun i=>(i.zero,i.size,i.bytes))=some (some (.agg #[.string ⟨#[]⟩,.string ⟨#[]⟩]),2,32):=vY
theorem Tryz.uPlcs:Tryz.prog.underlying 108=some (.slice 154):=vY
theorem Tryz.sPlcs:jeq Tryz.prog 108 154 2 32:=jeq.mk' Tryz.uPlcs Tryz.infoPlc rfl vI
abbrev LRow(w0 w:vW)(v:vV)(n:Nat)(xs:List Pl):Prop:=ORow 154 2 w0 w v n (jb8 xs)
theorem Tryz.allocPlc(w:vW):(Instr.alloc 154 true (.tuple #[])).run Tryz.prog w=.ok (.pointer (some ⟨w.heap.size,0,none⟩)) (w.alloc (.cells [Value.string ⟨#[]⟩,.string ⟨#[]⟩].toArray 154)):=vY
theorem Tryz.szPlc:(Tryz.prog.info? 154).map (·.size)=some 2:=vY
theorem Tryz.isPlc:jgm (Tryz.prog.underlying 154)=true:=vY
theorem jcG(W:vW)(b:Nat)(x y:vB)(hB:Blk W b (.cells [Value.string x,.string y].toArray 154)):(Instr.loadAt 154 (.pointer (some ⟨b,0,none⟩))).run Tryz.prog W=.ok (.agg [Value.string x,.string y].toArray) W:=by
 obtain⟨q,e⟩:=jfA Tryz.isPlc
 exact jdS e Tryz.szPlc (fun j v o=>by rw[jhp];exact hB.cellL o)
def plc1(n:jae)(p:vB)(i:Nat):List Pl:=if (n.refs.getD i ⟨#[]⟩).size=0 then []else [((p++n.path)++(if n.kind=3 then nib1 i else ⟨#[]⟩),n.refs.getD i ⟨#[]⟩)]
def belJ(n:jae)(p:vB)(j:Nat):List Pl:=(revJ j).flatMap (plc1 n p)
theorem jga(n:jae)(p:vB){j:Nat}(h:j < 16):belJ n p (j+1)=belJ n p j++plc1 n p (15 - j):=by
 unfold belJ;rw[jsi h,dL];simp
theorem juf(n:jae)(p:vB)(i:Nat):(plc1 n p i).reverse=plc1 n p i:=by unfold plc1;split <;> rfl
theorem jfj(n:jae)(p:vB):belJ n p 16=(jcu n p).reverse:=by
 have:=joD (plc1 n p) (juf n p) (List.range 16)
 exact List.reverse_eq_iff.1 this
theorem jcI(n:jae)(p:vB):∀ j,(belJ n p j).length<=j
 | 0=>bM _
 | j+1=>by
  by_cases h:j < 16
  ·have:=jcI n p j
   rw[jga n p h,bF]
   have:(plc1 n p (15 - j)).length<=1:=by unfold plc1;split <;> simp
   omega
  ·have e:=jcI n p j
   have:belJ n p (j+1)=belJ n p j:=by unfold belJ revJ;rw[cD (by simp;omega),cD (by simp;omega)]
   rw[this];omega
theorem jss{w:vW}(m b:Nat)(hB:Blk w b (.cells #[.int .u8 (m:Int)] 5))(hm:m < 16):(convert 56 9 (.slice (some ⟨b,0,none⟩) 1 1)).run Tryz.prog w=.ok (.string (nib1 m)) w:=by
 have e:(m:Int)=((UInt8.ofNat m).toNat:Int):=by rw[jnr m vO]
 have o:w.ownsRow 0 5 1 (.slice (some ⟨b,0,none⟩) 1 1) 1 (jaI [UInt8.ofNat m]):=
  ⟨rfl,.inr ⟨_,1,_,rfl,cB _,hB,bM _,by unfold maxLen;omega,rfl,by rw[e];rfl⟩⟩
 exact jbB w Tryz.uBytes Tryz.uU8 Tryz.uStr o
theorem jmu{ops:Array Oper}{rest:List Oper}{d:Option Tmp}{ty:TypeId}{pos:String}{af:Array Edge}{x:Operand}{a:Act}{w:vW}{Q:Exit->Act->vW->Prop}(m b:Nat)(hx:a.eval x=.slice (some ⟨b,0,none⟩) 1 1)(hB:Blk w b (.cells #[.int .u8 (m:Int)] 5))(hm:m < 16)
  (h:wpList Tryz.prog ops Q rest (a.put d (.string (nib1 m))) w):wpList Tryz.prog ops Q (⟨d,.convert 56 9 x,ty,pos,af,none⟩ :: rest) a w:=by
 refine wpList_plain rfl fun K e=>jcr (v:=.string (nib1 m)) (w':=w) ?_ (e _ _ h);simp only[execOp,hx,bT,jss m b hB hm,Result.andThen,cI]
def jwK(W1:vW)(n:jae)(p:vB)(lv iv:vV)(wr:vW):Prop:=∃ j:Nat,j<=16/\iv=.int .i64 (15 - (j:Int))/\LRow W1 wr lv (belJ n p j).length (belJ n p j)
theorem jvt(W:vW)(n:jae)(hr:n.refs.length=16)(c1:n.path.size<=100)(p:vB)(hp:p.size<=100000) :
  vQ 95 #[n.V,.string p] W fun e w'=>∃ v,e=.returned v/\LRow W w' v (jcu n p).length (jcu n p).reverse:=by
 obtain⟨k,q,E,A⟩:=n
 have hr:A.length=16:=hr;have c1:q.size<=100:=c1;have hl:(jae.cells ⟨k,q,E,A⟩).length=19:=jae.cells_len _ hr;have HL:=Hd hl;have HR:=Hd hr;clear hl hr;unfold jae.V;have e0:(jae.cells ⟨k,q,E,A⟩)[0]?=some (.int .i64 k):=rfl;have e1:(jae.cells ⟨k,q,E,A⟩)[1]?=some (.string q):=rfl;rw[<-fP, <-jfj];go_enter Tryz.func95,Tryz.ntmps95;go_wp2_with fail
 have hE:Ext W (W.alloc (.cells (jae.cells ⟨k,q,E,A⟩).toArray 132)):=(ExtR W).alloc _;have hB:=Blk.new W (.cells (jae.cells ⟨k,q,E,A⟩).toArray 132)
 obtain⟨W1,c2⟩:=vE (W.alloc (.cells (jae.cells ⟨k,q,E,A⟩).toArray 132))
 rw[<-c2]at hE hB ⊢;have HE:=Hd hE;have HB:=Hd hB;clear c2 hE hB;go_loopw [5,6] (fun lv iv wr=>jwK W1 ⟨k,q,E,A⟩ p lv iv wr) (fun _ iv _=>(intOf iv+1).toNat)
 case atStart=>exact⟨0,by omega,rfl,ORow.nil _ _ (ExtR W1)⟩
 case round =>
  obtain⟨j,hj,rfl,hR⟩:=hrel
  by_cases hlt:j < 16
  ·obtain⟨m,hm⟩:=vE (15 - j)
   have a5:(15:Int) - (j:Int)=(m:Int):=vO
   have a0:m < 16:=vO
   rw[a5];have b1:(0:Int)<=(m:Int):=vO
   have b2:¬(m:Int) < 0:=vO
   have b3:(m:Int) < 16:=vO
   have b4:(m:Int).toNat=m:=vO
   have X:=Hd (bB hm a5)
   obtain⟨r,c3⟩:∃ r,A[m]?=some r:=⟨_,bA (by rw[HR.o];exact a0)⟩
   have Z:=Hd c3;have a2:=Hd (HB.o.keeps hR.ext (fun h=>h));have q3:=a2.o.cellL (i:=3+m) (v:=.string r) (by
    show (_ :: _ :: _ :: A.map Value.string)[3+m]?=_;rw[show 3+m=m+1+1+1 by omega];simp[Z.o])
   have H:=Hd hR;clear hm a5 c3 hR
   by_cases hz:r.size=0
   ·obtain rfl:r=⟨#[]⟩:=jbp hz
    go_wp2_with fail
    go_roundw
    case rel =>
     refine⟨j+1,by omega,by have:=X.o.1;have:=X.o.2;simp;omega,?_⟩
     have e:belJ ⟨k,q,E,A⟩ p (j+1)=belJ ⟨k,q,E,A⟩ p j:=by
      rw[jga _ p hlt, <-X.o.1];unfold plc1;rw[if_pos (by show (A.getD m ⟨#[]⟩).size=0;rw[bG,Z.o];rfl),bS]
     rw[e];exact H.o
    case measure=>simp[intOf]
   ·have d3:r.toList.isEmpty=false:=by
     rw[bX];cases hd:r.data.toList with
     | nil=>exact absurd (congrArg List.length hd) hz
     | cons x l=>rfl
    have q1:=a2.o.cellL (i:=1) (v:=.string q) e1;have b5:¬(9223372036854775807 < p.size+q.size):=vO
    have a3:=Hd hlt;have HZ:=Hd hz;have HW:Hid (W.heap.size < wr.heap.size):=Hd a2.o.lt;have HX:=Hd (show ¬ wr.heap.size<=W.heap.size by have:=HW.o;omega);have Q1:=Hd q1;have Q3:=Hd q3;clear q1 hlt hz;go_wp2_with fail
    clear q3;refine ja0 [0,1,2,3,4,5,6,7,8,9,10] [9,10] Ext (jad (fun z=>wr.heap.size<=z)) ExtR ExtT (fun x y z h k=>jad.trans h k) (fun x y h=>h.mono (fun _ _ h=>h.elim)) vY vY vY ?_;iterate 2 refine vD ?_
    refine qDL ⟨W.heap.size,1,none⟩ _ rfl (fun w2 h2=>jac Tryz.uStr rfl (jaD (jaa Q1.o (jam _)) h2 HX.o)) ?_;refine vS ?_;iterate 4 refine vD ?_
    refine qDL ⟨W.heap.size,3+m,none⟩ _ rfl (fun w2 h2=>jac Tryz.uStr rfl (jaD (jaa Q3.o (jam _)) h2 HX.o)) ?_;refine vS ?_
    refine vD ?_
    refine qDH _ rfl (fun w2 Q K hK=>?_);have a4:=Hd (show Ext wr w2 from(jam _).trans Q);clear Q;go_simp;refine hK _ _ ((jad.refl _ w2).alloc _) ?_;clear hK K;refine qDH _ rfl (fun w3 Q K hK=>?_);have c4:=(Blk.new w2 (.cells [Value.string ⟨#[]⟩,.string ⟨#[]⟩].toArray 154)).keeps Q (fun h=>h);refine jkS (vs:=[Value.string (p++q),.string r]) rfl rfl rfl c4 rfl Tryz.szPlc (jdZ _ _) (fun W4 c5 a6=>?_);refine hK _ _ (a6.mono (fun z _ e=>by have e:z=w2.heap.size:=e;have:=a4.o.size;omega)) ?_;have c6:=Hd (show Ext wr W4 from((a4.o.alloc _).trans Q).trans' a6 (fun z hz e=>by have e:z=w2.heap.size:=e;have:=a4.o.size;omega));have c7:=Hd c5;clear hK K Q c4 c5 a6;refine vS ?_;refine jco vY (fun w5 Q=>?_);have a7:=Hd (c6.o.trans Q);have J:=Hd (c7.o.keeps Q (fun h=>h));clear Q c6 c7
    obtain⟨pb,c8⟩:=vE w2.heap.size
    have c9:=Hd (show wr.heap.size<=pb by have:=a4.o.size;omega);rw[<-c8]at J ⊢;clear c8;have q0:=jaa (a2.o.cellL (i:=0) e0) a7.o;have a1:=Hd (ORow.mono H.o a7.o)
    by_cases hk:k=3
    ·subst hk
     have q5:=J.o.cell (i:=0) (v:=.string (p++q)) vF;have b7:¬(9223372036854775807 < p.size+q.size+(nib1 m).size):=by show ¬(_ < _+1);omega
     have O:belJ ⟨3,q,E,A⟩ p (j+1)=belJ ⟨3,q,E,A⟩ p j++[((p++q)++nib1 m,r)]:=by
      rw[jga _ p a3.o, <-X.o.1];unfold plc1;have e:(jae.mk 3 q E A).refs.getD m ⟨#[]⟩=r:=by show A.getD m ⟨#[]⟩=r;rw[bG,Z.o];rfl
      rw[e,if_neg HZ.o,if_pos rfl]
     have a8:=Hd O;have a9:(belJ ⟨3,q,E,A⟩ p j).length+1<=maxLen:=by have:=jcI ⟨3,q,E,A⟩ p j;unfold maxLen;omega
     have b0:((belJ ⟨3,q,E,A⟩ p j).length+1) * 32<=140737488355328:=by have:=jcI ⟨3,q,E,A⟩ p j;omega
     have B6:=(J.o.keeps ((ExtR w5).alloc (.cells #[.int .u8 (m:Int)] 5)) (fun h=>h));have q7:=B6.cell (i:=0) (v:=.string (p++q)) vF;have f7:=B6.frozen (i:=0);have d0:=Hd B6;clear O B6;go_wp2_with (first
      |(refine jmu m w5.heap.size rfl (Blk.new w5 _) a0 ?_)
      |(refine jkR rfl pb 0 (.string ((p++q)++nib1 m)) rfl rfl rfl rfl vY q7 f7 ?_
        intro W8 b8;have b9:Blk W8 pb (.cells [Value.string ((p++q)++nib1 m),.string r].toArray 154):=by rw[b8];exact d0.o.set_same _
        have c0:Ext wr W8:=(a7.o.alloc _).trans' (by rw[b8];exact jad.oneSet _ _ _) (fun z hz e=>by have e:z=pb:=e;have:=c9.o;omega);clear b8;have q8:=b9.cell (i:=0) (v:=.string ((p++q)++nib1 m)) vF;have q9:=b9.cell (i:=1) (v:=.string r) vF;have d4:=Hd c0;have d1:=Hd (ORow.mono H.o c0);clear c0 b9)
      |(at_builtin;(refine ja7 Tryz.sPlcs (ORow.mono d1.o ((ExtR W8).alloc _)) (.tmp 37) (.tmp 39) rfl rfl rfl (ja5 (Blk.new W8 _)) (news:=[.string ((p++q)++nib1 m),.string r]) (jdZ _ _) rfl rfl a9 b0 ?_;intro d2 w' r1 r2 r3)))
     go_roundw
     case rel=>exact⟨j+1,by have:=a3.o;omega,by have:=X.o.1;have:=X.o.2;simp;omega,by rw[a8.o,bF];unfold LRow;rw[jbf];exact r1⟩
     case measure=>simp[intOf]
    ·have b6:((k:Int) == 3)=false:=by simpa using (by omega:¬(k:Int)=3)
     have q5:=J.o.cell (i:=0) (v:=.string (p++q)) vF;have q6:=J.o.cell (i:=1) (v:=.string r) vF;have O:belJ ⟨k,q,E,A⟩ p (j+1)=belJ ⟨k,q,E,A⟩ p j++[(p++q,r)]:=by
      rw[jga _ p a3.o, <-X.o.1];unfold plc1;have e:(jae.mk k q E A).refs.getD m ⟨#[]⟩=r:=by show A.getD m ⟨#[]⟩=r;rw[bG,Z.o];rfl
      rw[e,if_neg HZ.o,if_neg hk,jfi]
     have a8:=Hd O;have a9:(belJ ⟨k,q,E,A⟩ p j).length+1<=maxLen:=by have:=jcI ⟨k,q,E,A⟩ p j;unfold maxLen;omega
     have b0:((belJ ⟨k,q,E,A⟩ p j).length+1) * 32<=140737488355328:=by have:=jcI ⟨k,q,E,A⟩ p j;omega
     clear O;go_wp2_with (at_builtin;(refine ja7 Tryz.sPlcs (ORow.mono a1.o ((ExtR w5).alloc _)) (.tmp 37) (.tmp 39) rfl rfl rfl (ja5 (Blk.new w5 _)) (news:=[.string (p++q),.string r]) (jdZ _ _) rfl rfl a9 b0 ?_;intro d2 w' r1 r2 r3))
     go_roundw
     case rel=>exact⟨j+1,by have:=a3.o;omega,by have:=X.o.1;have:=X.o.2;simp;omega,by rw[a8.o,bF];unfold LRow;rw[jbf];exact r1⟩
     case measure=>simp[intOf]
  ·obtain rfl:j=16:=vO
   have b1:(15:Int) - ((16:Nat):Int) = -1:=vO
   rw[b1];have H:=Hd hR;clear hR;go_wp2_with fail
   go_ret
   exact⟨_,rfl,⟨H.o.sl,H.o.own,HE.o.trans H.o.ext,fun b hb=>bK HE.o.size (H.o.new b hb)⟩⟩
theorem jy4(W:vW)(r:vB)(hr:r.size<=100000):vR 93 #[.string r] W (.agg #[.string ⟨#[]⟩,.string (jaC r)]):=by
 go_enter Tryz.func93,Tryz.ntmps93;go_wp2_with (refine jal Tryz.allocPlc rfl rfl ?_;intro O q z)
 refine vC (jdT O r vO) fun X A=>?_;have E:=q.keeps A (fun h=>h);have H:=Hd (z.trans A);clear A q z;go_wp2_with (refine jah (vs:=[Value.string ⟨#[]⟩,.string (jaC r)]) rfl rfl rfl rfl E rfl Tryz.szPlc (jdZ _ _) ?_;intro W8 J K)
 have Q:(loadVar 154 ⟨W.heap.size,0,none⟩).run Tryz.prog W8=.ok (.agg [Value.string ⟨#[]⟩,.string (jaC r)].toArray) W8:=by
  have:=jcG W8 _ _ _ J
  simpa [Instr.loadAt,Instr.sureAddr,bT,Result.andThen]using this
 refine bodyPost_ret (jcF rfl rfl Q) rfl ?_
 exact⟨rfl,H.o.trans' K (fun x Z e=>by have e:x=W.heap.size:=e;omega)⟩
theorem jiJ{t T:TypeId}{by':Nat}(I:jeq Tryz.prog t T 2 by'){ops:Array Oper}{rest:List Oper}{d:Option Tmp}{ty:TypeId}{pos:String}{af:Array Edge}{a:Act}{w1 w0 w:vW}{Q:Exit->Act->vW->Prop}{s x:Operand}{v pv:vV}{n m N:Nat}{xs:List vV}{ys:vL}
  (hR:ORow T 2 w0 w v n xs) (hP:ORow T 2 w1 w pv m (jb8 ys)) (hN:n+m=N) (hs:a.eval s=v) (hx:a.eval x=pv) (h63:N<=1000000) (hb:by'<=1000)
  (h:∀ v' w',ORow T 2 w0 w' v' N (xs++jb8 ys)->jad (fun b=>v.ownBlock=some b) w w'->(v'.ownBlock=v.ownBlock\/∀ b,v'.ownBlock=some b->w.heap.size<=b)->wpList Tryz.prog ops Q rest (a.put d v') w') :
  wpList Tryz.prog ops Q (⟨d,.call { callee:=.builtin .append,args:=#[s,x],argTypes:=#[t,t] },ty,pos,af,none⟩ :: rest) a w:=by
 subst hN
 obtain⟨E,⟨rfl,H⟩ |⟨g,o,q,rfl,H,X,Z,h6,h7⟩⟩:=hP.own
 ·subst H
  have z:ys=[]:=by
   rw[jdu]at E;exact bE vO
  subst z
  obtain⟨ad,c,rfl⟩:=hR.sl
  have A:n<=c:=by
   obtain⟨_,⟨e,e2⟩ |⟨g,o,q,e,_,_,k5,_⟩⟩:=hR.own
   ·omega
   ·obtain⟨_,_,e⟩:=fR e;omega
  refine jf6 I hs hx A (h _ _ ?_ (jad.refl _ _) (.inl rfl));simpa [jb8]using hR
 ·exact ja7 I hR s x rfl hs hx (fun j u J=>hP.own.cells (g:=g) rfl j u J) (fun u K=>by
   obtain⟨y,_,O⟩:=cO.1 K
   exact jdZ _ _ u O) (by rw[jdu]at E ⊢;omega) rfl (by unfold maxLen;omega) (bK (Nat.mul_le_mul_left _ hb) vO) h
def lenV:vV->Nat
 | .slice _ n _=>n
 | _=>0
structure WkR(S:vT)(out Mall:List Pl)(Rall:vL)(W1:World)(mv lv tv:Value)(wr:World)(M0:List Pl)(L0:vL)(ts:List Pl)(k:Nat)(M:List Pl)(R:vL):Prop where
 met:LRow W1 wr mv M0.length M0
 ent:ERow W1 wr lv L0.length L0
 tod:LRow W1 wr tv ts.length ts.reverse
 ap1:∀ b,tv.ownBlock=some b->mv.ownBlock≠some b/\lv.ownBlock≠some b
 ap2:∀ b,mv.ownBlock=some b->lv.ownBlock≠some b
 cnt:k+M0.length=400
 wx:jcs S out k ts M R
 e1:M0++M=Mall
 e2:L0++R=Rall
 tsl:ts.length<=1+16 * M0.length
 lle:L0.length<=M0.length
def jvq(S:vT)(out Mall:List Pl)(Rall:vL)(W1:vW)(mv lv tv:vV)(wr:vW):Prop:=∃ M0 L0 ts k M R,WkR S out Mall Rall W1 mv lv tv wr M0 L0 ts k M R
def jwX(w:vW)(t:Pl)(out:List Pl)(iv:vV)(wr:vW):Prop:=∃ i:Nat,i<=out.length/\iv=.int .i64 i/\Ext w wr/\∀ q∈out.take i,q≠t
theorem juH{S:vT}{out:List Pl}{k:Nat}{ts M:List Pl}{R:vL}(h:jcs S out k ts M R)(h0:k=0\/ts=[]):M=[]/\R=[]:=by
 cases h with
 | nil=>exact⟨rfl,rfl⟩
 | full=>exact⟨rfl,rfl⟩
 | skip=>rcases h0 with h0 | h0 <;> cases h0
 | no=>rcases h0 with h0 | h0 <;> cases h0
 | go=>rcases h0 with h0 | h0 <;> cases h0
theorem jmK(xs:vL)(n:Nat):(jb8 xs).take (n * 2)=jb8 (xs.take n):=by
 induction xs generalizing n with
 | nil=>simp[jb8]
 | cons x r ih =>
  cases n with
  | zero=>simp[jb8]
  | succ n =>
   have:=ih n
   unfold jb8 at *;rw[fH,cF,cF, <-this,show (n+1) * 2=n * 2+1+1 by omega];rfl
theorem jkF{T:TypeId}{sz:Nat}{w0 w:vW}{a:Option Addr}{n c:Nat}{xs:List vV}(h:ORow T sz w0 w (.slice a n c) n xs):n<=c:=by
 obtain⟨_,⟨e,z⟩ |⟨g,o,q,e,_,_,A,_⟩⟩:=h.own
 ·omega
 ·obtain⟨_,_,e⟩:=fR e;omega
theorem LRow.pop{W1 wr:vW}{g c:Nat}{t:Pl}{ts:List Pl}(h:LRow W1 wr (.slice (some ⟨g,0,none⟩) (t :: ts).length c) (t :: ts).length (t :: ts).reverse):LRow W1 wr (.slice (some ⟨g,0,none⟩) ts.length c) ts.length ts.reverse:=by
 have e:=jor (m:=ts.length) h.own (by simp);rw[jmK,gI,gE (by simp),cD (by simp)]at e
 exact⟨⟨_,_,rfl⟩,e,h.ext,fun b hb=>h.new b hb⟩
theorem LRow.last{W1 wr:vW}{g c:Nat}{t:Pl}{ts:List Pl}(h:LRow W1 wr (.slice (some ⟨g,0,none⟩) (t :: ts).length c) (t :: ts).length (t :: ts).reverse):wr.cell? ⟨g,ts.length * 2,none⟩=some (.string t.1)/\wr.cell? ⟨g,ts.length * 2+1,none⟩=some (.string t.2):=by
 have e:(t :: ts).reverse[ts.length]?=some t:=by rw[gI,cX (by simp)];simp
 obtain⟨o,q⟩:=jdt _ _ _ e
 exact⟨by rw[h.own.cellAt (ts.length * 2) (by simp only[bP];omega),o],by rw[h.own.cellAt (ts.length * 2+1) (by simp only[bP];omega),q]⟩
theorem jgC{T:TypeId}{sz:Nat}{w0 w:vW}{a:Option Addr}{n c:Nat}{xs:List vV}(h:ORow T sz w0 w (.slice a n c) n xs)(hn:n≠0):∃ g,a=some ⟨g,0,none⟩:=by
 obtain⟨_,⟨e,o⟩ |⟨g,q,z,e,_,_,A,_⟩⟩:=h.own
 ·exact absurd o hn
 ·obtain⟨e,_,_⟩:=fR e;exact⟨g,e⟩
theorem WkR.go{S:vT}{out Mall:List Pl}{Rall:vL}{W1:vW}{mv lv tv mv' lv' tv':vV}{w3 wr:vW}{M0:List Pl}{L0:vL}{t:Pl}{ts:List Pl}{k:Nat}{M M2:List Pl}{R R2:vL}{n:jae}
  (h:WkR S out Mall Rall W1 mv lv tv w3 M0 L0 (t :: ts) (k+1) M R) (e1:M=t :: M2) (e2:R=entN n t.1++R2) (hx:jcs S out k (jcu n t.1++ts) M2 R2)
  (met:LRow W1 wr mv' (M0.length+1) (M0++[t])) {m:Nat} (hm:m=(L0++entN n t.1).length) (ent:ERow W1 wr lv' m (L0++entN n t.1)) {q:Nat} (hq:q=ts.length) (tod:LRow W1 wr tv' (q+(jcu n t.1).length) (ts.reverse++(jcu n t.1).reverse))
  (a1:∀ b,tv'.ownBlock=some b->mv'.ownBlock≠some b) (a2:∀ b,tv'.ownBlock=some b->lv'.ownBlock≠some b) (a3:∀ b,mv'.ownBlock=some b->lv'.ownBlock≠some b):jvq S out Mall Rall W1 mv' lv' tv' wr:=by
 subst hm hq;have hb:(jcu n t.1).length<=16:=by rw[<-fP, <-jfj];exact jcI n t.1 16
 have o:(entN n t.1).length<=1:=by
  unfold entN keyR;split
  ·exact cB _
  ·split <;> simp
 have e:=h.tsl;have z:=h.cnt;have A:=h.lle;simp only[bP]at e
 refine⟨M0++[t],L0++entN n t.1,jcu n t.1++ts,k,M2,R2,by rw[bF];exact met,ent,?_,fun b hb=>⟨a1 b hb,a2 b hb⟩,a3,by rw[bF];simp;omega,hx,?_,?_,?_,?_⟩
 ·rw[bF,List.reverse_append,gN];exact tod
 ·rw[<-h.e1,e1];simp
 ·rw[<-h.e2,e2];simp
 ·rw[bF,bF];simp;omega
 ·rw[bF,bF];simp;omega
theorem jsL{S:vT}{out:List Pl}{k:Nat}{t:Pl}{ts M:List Pl}{R:vL}(h:jcs S out (k+1) (t :: ts) M R)(ht:t∈out):jcs S out (k+1) ts M R:=by
 cases h with
 | skip _ _ _ _ _ _ h=>exact h
 | no _ _ _ _ _ h1=>exact absurd ht h1
 | go _ _ _ _ _ _ h1=>exact absurd ht h1
theorem jwD{S:vT}{out:List Pl}{k:Nat}{t:Pl}{ts M:List Pl}{R:vL}(h:jcs S out (k+1) (t :: ts) M R)(ht:t ∉ out) :
  (jgK S t.2 none/\jcs S out (k+1) ts M R)\/∃ n M' R',M=t :: M'/\R=entN n t.1++R'/\t.1.size<=10000/\jgK S t.2 (some n)/\jcs S out k (jcu n t.1++ts) M' R':=by
 cases h with
 | skip _ _ _ _ _ h1 h=>exact absurd h1 ht
 | no _ _ _ _ _ h1 h2 h=>exact .inl ⟨h2,h⟩
 | go _ _ _ n M' R' h1 h2 h3 h=>exact .inr ⟨n,M',R',rfl,rfl,h2,h3,h⟩
theorem jd3{u v v':vV}{w:vW}(h:∀ b,u.ownBlock=some b->b < w.heap.size)(ha:∀ b,u.ownBlock=some b->v.ownBlock≠some b)(r3:v'.ownBlock=v.ownBlock\/∀ b,v'.ownBlock=some b->w.heap.size<=b):∀ b,u.ownBlock=some b->v'.ownBlock≠some b:=fun b hb e=>by
 rcases r3 with r3 | r3
 ·exact ha b hb (r3 ▸ e)
 ·have:=r3 b e;have:=h b hb;omega
theorem jha{T:TypeId}{sz:Nat}{w0 w w':vW}{u v:vV}{n:Nat}{xs:List vV}(h:ORow T sz w0 w v n xs)(k:jad (fun b=>u.ownBlock=some b) w w')(ha:∀ b,v.ownBlock=some b->u.ownBlock≠some b)(hn:∀ b,u.ownBlock=some b->w0.heap.size<=b):ORow T sz w0 w' v n xs:=
 h.keeps k (fun b hb e=>ha b hb e) (fun b hb e=>by have:=hn b e;omega)
theorem WkR.pop{S:vT}{out Mall:List Pl}{Rall:vL}{W1:vW}{mv lv:vV}{g c n:Nat}{wr wr':vW}{M0:List Pl}{L0:vL}{t:Pl}{ts:List Pl}{k:Nat}{M:List Pl}{R:vL}
  (h:WkR S out Mall Rall W1 mv lv (.slice (some ⟨g,0,none⟩) (t :: ts).length c) wr M0 L0 (t :: ts) (k+1) M R) (hn:n=ts.length) (hx:jcs S out (k+1) ts M R) (e:Ext wr wr'):jvq S out Mall Rall W1 mv lv (.slice (some ⟨g,0,none⟩) n c) wr':=by
 subst hn;have o:=LRow.pop h.tod
 refine⟨M0,L0,ts,k+1,M,R,ORow.mono h.met e,ORow.mono h.ent e,ORow.mono o e,fun b hb=>h.ap1 b hb,h.ap2,h.cnt,hx,h.e1,h.e2,?_,h.lle⟩
 have:=h.tsl
 simp only[bP]at this;omega
theorem Tryz.plcFields:jgU (Tryz.prog.underlying 154) [(false,9,0),(false,9,1)]=true:=vY
theorem Tryz.plcHeld:Tryz.prog.stoodInHeld 154=false:=vY
theorem ju3(x y x' y':vB)(w:vW):(binOp .eql 154 (.agg #[.string x,.string y]) (.agg #[.string x',.string y'])).run Tryz.prog w=.ok (.bool (x == x' && y == y')) w:=by
 obtain⟨f,g,O,z,A,E,H,J,K⟩:=jvN Tryz.plcFields
 have e:∀ (u v:vV) w,(part 9 #[u,v] 0).run Tryz.prog w=.ok u w:=fun u v w=>by
  simp[part,bT,Tryz.strAgg,Result.andThen,cI]
 have o:∀ (u v:vV) w,(part 9 #[u,v] 1).run Tryz.prog w=.ok v w:=fun u v w=>by
  simp[part,bT,Tryz.strAgg,Result.andThen,cI]
 have Q:∀ d,(Op.equalIn (d+2) 154 (.agg #[.string x,.string y]) (.agg #[.string x',.string y'])).run Tryz.prog w=.ok (x == x' && y == y') w:=fun d=>by
  rw[Op.equalIn];simp only[bT,run_underlying O,Result.andThen];simp[bT,Result.andThen,Sem.run,Tryz.plcHeld,z,A,E,H,J,K,e,o,jvM];cases (x == x')with
  | false=>simp[cI]
  | true =>
   simp[bT,Result.andThen,Sem.run,Tryz.plcHeld,z,A,E,H,J,K,e,o,jvM];cases (y == y') <;> simp[cI]
 have q:(Op.equal 154 (.agg #[.string x,.string y]) (.agg #[.string x',.string y'])).run Tryz.prog w=.ok (x == x' && y == y') w:=Q 9998;simp only[binOp,bT,q,Result.andThen,cI]
def jyw(W:vW)(M:List Pl)(R:vL)(e:Ending)(w':vW):Prop:=∃ u v,e=.returned (.tuple #[u,v])/\LRow W w' u M.length M/\ERow W w' v R.length R
theorem joY(W:vW)(s bm:Nat)(room:Int)(S:vT)(hs:jaL W s bm room S)(r:vB)(hr:r.size<=100000)(ov:vV)(out:List Pl)(ho:RdP W ov out)(hol:out.length<=100000){M:List Pl}{R:vL}(hW:jcs S out 400 [(⟨#[]⟩,jaC r)] M R) :
  vQ 58 #[.pointer (some ⟨s,0,none⟩),.string r,ov] W (jyw W M R):=by
 have HS:=Hd hs;have HO:=Hd ho;have HW:=Hd hW
 obtain⟨oa,oc,k5⟩:=ho.sl
 have k6:=Hd hol;subst k5;clear hs ho hW hol;go_enter Tryz.func58,Tryz.ntmps58;go_wp2_with fail
 go_step3;go_wp2_with fail
 refine vH (jy4 W r hr) fun w1 HE=>?_;go_wp2_with fail
 obtain⟨w2,d6⟩:=vE (w1.alloc (.cells #[.string ⟨#[]⟩,.string (jaC r)] 154))
 have h4:=Hd (show Ext W w2 by rw[d6];exact HE.o.alloc _);have h5:LRow W w2 (.slice (some ⟨w1.heap.size,0,none⟩) 1 1) 1 [(⟨#[]⟩,jaC r)]:=by rw[d6];exact ORow.lit #[.string ⟨#[]⟩,.string (jaC r)] HE.o vI rfl
 rw[<-d6];clear d6;have k7:=Hd h5;clear h5;go_step3;go_wp2_with fail
 go_loopw [8,9,10] (fun mv lv tv wr=>jvq S out M R W mv lv tv wr) (fun mv _ tv _=>(400 - lenV mv) * 18+lenV tv)
 case atStart =>
  exact⟨[],[],[(⟨#[]⟩,jaC r)],400,M,R,ORow.nil _ _ h4.o,ORow.nil _ _ h4.o,k7.o,(by intro b hb;constructor <;> intro e <;> cases e),(by intro b hb;cases hb),rfl,HW.o,rfl,rfl,by simp,bM _⟩
 case round =>
  obtain⟨w3,k8⟩:=vE wr
  subst k8
  obtain⟨Z,L0,ts,k,M',R',hK⟩:=hrel
  obtain⟨ma,mc,rfl⟩:=hK.met.sl
  obtain⟨la,lc,rfl⟩:=hK.ent.sl
  obtain⟨ta,c,rfl⟩:=hK.tod.sl
  have A:=Hd hK;have m5:=hK.cnt;clear hK
  by_cases hend:k=0\/ts=[]
  ·have hz:=juH A.o.wx hend
   have hM:Z=M:=by have:=A.o.e1;rw[hz.1,bS]at this;exact this
   have hR:L0=R:=by have:=A.o.e2;rw[hz.2,bS]at this;exact this
   have HF:=Hd (show LRow W w3 (.slice ma Z.length mc) M.length M/\ERow W w3 (.slice la L0.length lc) R.length R by rw[<-hM, <-hR];exact⟨A.o.met,A.o.ent⟩);clear hz hM hR
   by_cases hts:ts.length=0
   ·rw[hts]
    go_wp2_with fail
    go_ret2
    exact⟨_,_,rfl,HF.o.1,HF.o.2⟩
   ·have c1:(0:Int) < (ts.length:Int):=vO
    have c2:¬(Z.length:Int) < 400:=by
     rcases hend with h | h
     ·omega
     ·rw[h]at hts;exact absurd rfl hts
    go_wp2_with fail
    go_ret2
    exact⟨_,_,rfl,HF.o.1,HF.o.2⟩
  ·obtain⟨k,rfl⟩:∃ k',k=k'+1:=⟨k - 1,by omega⟩
   obtain⟨t,ts,rfl⟩:∃ t ts',ts=t :: ts':=by
    cases ts with
    | nil=>exact absurd (.inr rfl) hend
    | cons t ts=>exact⟨t,ts,rfl⟩
   obtain⟨g,rfl⟩:=jgC A.o.tod (by simp)
   clear hend
   obtain⟨n,hn⟩:=vE ts.length
   have HN:=Hd hn;have hl:(t :: ts).length=n+1:=by rw[hn];rfl
   rw[hl];have c1:(0:Int) < (n:Int)+1:=vO
   have c2:(Z.length:Int) < 400:=vO
   have m7:n<=10000:=by have:=A.o.tsl;rw[hl]at this;omega
   have H:=A.o.tod;rw[hl]at H;have k4:=Hd H;clear hn hl
   obtain⟨p,x⟩:=t
   have hq:=by
    have h:=H;rw[HN.o]at h;exact LRow.last (t:=(p,x)) h
   rw[<-HN.o]at hq
   obtain⟨q1,q2⟩:=hq
   have c3:(n:Int)<=(c:Int):=by have:=jkF H;omega
   clear H;go_wp2_with (refine jal Tryz.allocPlc rfl rfl ?_;intro W5 h6 h7;refine jah (vs:=[Value.string p,.string x]) rfl rfl rfl rfl h6 rfl Tryz.szPlc (jdZ _ _) ?_;intro W6 h8 h9)
   have d9:Hid (Ext w3 W6):=(h7.trans' h9 (fun z hz e=>by have e:z=w3.heap.size:=e;omega));have i0:=Hd h8;have e0:=Hd (bM w3.heap.size);clear h6 h7 h8 h9 q1 q2
   obtain⟨pb,i1⟩:=vE w3.heap.size
   rw[<-i1]at i0 ⊢;have e0:=Hd (show w3.heap.size<=pb by omega);clear i1;go_loopw [42] (fun iv w7=>jwX W6 (p,x) out iv w7) (fun iv _=>out.length - (intOf iv).toNat)
   case atStart=>exact⟨0,cB _,rfl,ExtR W6,by simp⟩
   case round =>
    obtain⟨w7,k9⟩:=vE wr
    subst k9
    obtain⟨i,hi,rfl,e3,b8⟩:=hrel
    have b5:=Hd e3;have a8:=Hd b8;have b6:=Hd (i0.o.keeps e3 (fun h=>h));clear e3 b8
    by_cases hlt:i < out.length
    ·have d1:(i:Int) < (out.length:Int):=vO
     obtain⟨q,hq⟩:∃ q,out[i]?=some q:=⟨_,bA hlt⟩
     have m8:i<=100000:=by have:=k6.o;omega
     rcases HO.o with⟨_,_,_,h0⟩ |⟨b,o,c',hh,hb,hc,hcell⟩
     ·rw[h0]at hlt;cases hlt
     cases hh
     obtain⟨q1,q2⟩:=hcell i q hq
     have e4:=(A.o.met.ext.trans d9.o).trans b5.o;have q1:=jaa q1 e4;have q2:=jaa q2 e4;have HQ:=Hd hq;clear hcell hb hc e4 hq
     obtain⟨qa,qb⟩:=q
     have i2:=Hd hlt;clear hlt
     by_cases he:qa=p/\qb=x
     ·obtain⟨rfl,rfl⟩:=he
      have e5:∀ w,(binOp .eql 154 (.agg #[.string qa,.string qb]) (.agg #[.string qa,.string qb])).run Tryz.prog w=.ok (.bool true) w:=fun w=>by rw[ju3,jhM,jhM];simp
      go_wp2_with (first
       |(refine jal Tryz.allocPlc rfl rfl ?_;intro W8 e6 e7;refine jah (vs:=[Value.string qa,.string qb]) rfl rfl rfl rfl e6 rfl Tryz.szPlc (jdZ _ _) ?_;intro W9 O Q;have a7:Ext w7 W9:=e7.trans' Q (fun z hz e=>by have e:z=w7.heap.size:=e;omega);have a9:=Hd (b6.o.keeps a7 (fun h=>h)))
       |(refine jaf 154 (.tmp 11) rfl rfl _ _ rfl (jcG W9 pb qa qb a9.o) ?_)
       |(refine jaf 154 (.tmp 13) rfl rfl _ _ rfl (jcG W9 _ qa qb O) ?_)
       |(refine jhj (.tmp 46) (.tmp 47) rfl rfl _ _ _ rfl rfl vY (e5 _) ?_))
      refine vS ?_;have e8:=Hd ((d9.o.trans b5.o).trans a7);clear a7;go_roundw
      case rel=>exact WkR.pop A.o HN.o (jsL A.o.wx (bI HQ.o)) e8.o
      case measure=>simp[lenV]
     ·have e5:∀ w,(binOp .eql 154 (.agg #[.string p,.string x]) (.agg #[.string qa,.string qb])).run Tryz.prog w=.ok (.bool false) w:=fun w=>by
       rw[ju3,jhM,jhM]
       have:(decide (p=qa) && decide (x=qb))=false:=by
        rw[Bool.and_eq_false_iff]
        by_cases h1:p=qa
        ·right;exact decide_eq_false fun h2=>he ⟨h1.symm,h2.symm⟩
        ·left;exact decide_eq_false h1
       rw[this]
      have l0:=Hd he;clear he;go_wp2_with (first
       |(refine jal Tryz.allocPlc rfl rfl ?_;intro W8 e6 e7;refine jah (vs:=[Value.string qa,.string qb]) rfl rfl rfl rfl e6 rfl Tryz.szPlc (jdZ _ _) ?_;intro W9 O Q;have a7:Ext w7 W9:=e7.trans' Q (fun z hz e=>by have e:z=w7.heap.size:=e;omega);have a9:=Hd (b6.o.keeps a7 (fun h=>h)))
       |(refine jaf 154 (.tmp 11) rfl rfl _ _ rfl (jcG W9 pb p x a9.o) ?_)
       |(refine jaf 154 (.tmp 13) rfl rfl _ _ rfl (jcG W9 _ qa qb O) ?_)
       |(refine jhj (.tmp 46) (.tmp 47) rfl rfl _ _ _ rfl rfl vY (e5 _) ?_))
      have e8:=Hd (b5.o.trans a7);clear a7;go_roundw
      case rel=>exact⟨i+1,by have:=i2.o;omega,by go_num,e8.o,by
       rw[cE,HQ.o];intro y hy;rcases bR.1 hy with hy | hy
       ·exact a8.o y hy
       ·simp at hy;rw[hy];exact fun e=>l0.o ⟨congrArg Prod.fst e,congrArg Prod.snd e⟩⟩
      case measure=>have:=i2.o;simp[intOf];omega
    ·obtain rfl:i=out.length:=vO
     have d1:¬(out.length:Int) < (out.length:Int):=vO
     have c0:(p,x) ∉ out:=fun hm=>a8.o (p,x) (by rw[cG];exact hm) rfl;have g0:=Hd c0;have e9:=Hd (d9.o.trans b5.o);have i3:=Hd (HS.o.ext (A.o.met.ext.trans e9.o));have q4:=b6.o.cell (i:=1) (v:=.string x) vF;clear c0 hi a8 b5;rcases jwD A.o.wx g0.o with⟨hR,hx⟩ |⟨nd,M2,R2,e1,e2,i4,hR,hx⟩
     ·have HR:=Hd hR
      have b7:=Hd hx;clear hR hx;go_wp2_with fail
      refine vH (jlj w7 s bm room S i3.o HR.o) fun W8 hE=>?_;have d7:=Hd (e9.o.trans hE);unfold jae.V;go_wp2_with (refine jal Tryz.allocNode rfl rfl ?_;intro W9 O Q;refine jah (vs:=jaV.cells) rfl rfl rfl rfl O rfl Tryz.szNode jaV.one ?_;intro J a3 a0)
      have a1:=Hd (d7.o.trans (Q.trans' a0 (fun z hz e=>by have e:z=W8.heap.size:=e;omega)));clear O Q a3 a0;refine (jkf J).mono ?_;rintro e l1 ⟨rfl,rfl⟩;go_wp2_with fail
      go_roundw
      case rel=>exact WkR.pop A.o HN.o b7.o a1.o
      case measure=>simp[lenV]
     ·obtain⟨dg,hg⟩:=hR.good
      have b0:=hg.one (inlP dg);have m9:=b0.path;have f0:=b0.refs;have i4:p.size<=10000:=i4;have i5:=Hd f0;have c4:=Hd (nd.cells_len f0);have HR:=Hd hR;have b7:=Hd hx;have f8:=Hd e1;have b1:=Hd e2;clear hR hx e1 e2 hg b0 f0;go_wp2_with fail
      refine vC (jnL w7 s bm room S i3.o HR.o) fun W8 hE=>?_;have d7:=Hd (e9.o.trans hE);have i6:=Hd (b6.o.keeps hE (fun h=>h));clear hE q4;unfold jae.V;go_wp2_with (refine jal Tryz.allocNode rfl rfl ?_;intro W9 O Q;refine jah (vs:=nd.cells) rfl rfl rfl rfl O (by rw[c4.o];rfl) (by rw[c4.o];exact Tryz.szNode) nd.one ?_;intro J a3 a0)
      have b2:Ext W8 J:=Q.trans' a0 (fun z hz e=>by have e:z=W8.heap.size:=e;omega);have a1:=Hd (d7.o.trans b2);have c5:=Hd (i6.o.keeps b2 (fun h=>h));have c6:=Hd a3;clear O Q a3 a0 b2 i6 b6
      obtain⟨nb,i7⟩:=vE W8.heap.size
      have c7:=Hd (show w3.heap.size<=nb by have:=d7.o.size;omega);rw[<-i7]at c6 ⊢;clear i7;refine (jg0 J).mono ?_;rintro e l1 ⟨rfl,rfl⟩
      -- met
      have l2:Z.length+1<=maxLen:=by unfold maxLen;omega
      have l3:(Z.length+1) * 32<=140737488355328:=vO
      have l4:=Hd (ORow.mono A.o.met a1.o);have i8:=Hd (ORow.mono A.o.ent a1.o);have i9:LRow W w3 (.slice (some ⟨g,0,none⟩) n c) n ts.reverse:=by have:=LRow.pop A.o.tod;rw[<-HN.o]at this;exact this
      have j0:=Hd (ORow.mono i9 a1.o);clear i9;have j1:Hid (∀ z,w3.heap.size<=z->¬(Value.slice ma Z.length mc).ownBlock=some z):=(fun z hz e=>by have:=A.o.met.lt z e;omega);go_wp2_with (first
       |(refine jaf 154 (.tmp 11) rfl rfl _ _ rfl (jcG J pb p x c5.o) ?_)
       |(at_builtin;(refine ja7 Tryz.sPlcs (ORow.mono l4.o ((ExtR J).alloc _)) (.tmp 60) (.tmp 62) rfl rfl rfl (ja5 (Blk.new J _)) (news:=[.string p,.string x]) (jdZ _ _) rfl rfl l2 l3 ?_;intro n0 j2 r1 X r3;have c8:=Hd ((c6.o.alloc _).keeps X (j1.o _ c7.o));have c9:=Hd ((c5.o.alloc _).keeps X (j1.o _ e0.o));have g2:=Hd (jha (ORow.mono j0.o ((ExtR J).alloc _)) X (fun b hb=>(A.o.ap1 b hb).1) A.o.met.new);have g4:=Hd (jha (ORow.mono i8.o ((ExtR J).alloc _)) X (fun b hb e=>A.o.ap2 b e hb) A.o.met.new);have j3:=Hd (jd3 (ORow.mono j0.o ((ExtR J).alloc _)).lt (fun b hb=>(A.o.ap1 b hb).1) r3);have d8:=Hd (jd3 (ORow.mono i8.o ((ExtR J).alloc _)).lt (fun b hb e=>A.o.ap2 b e hb) r3);have g5:=Hd r1;have l5:=c9.o.cell (i:=0) (v:=.string p) vF;obtain⟨j4,j5,rfl⟩:=r1.sl;clear r1 X r3))
       |(refine jaf 132 (.tmp 14) rfl rfl _ _ rfl (jax j2 nb nd i5.o c8.o) ?_))
      refine (jvt j2 nd i5.o vO p vO).mono ?_;rintro e j6 ⟨bv,rfl,a4⟩;have l6:(jcu nd p).length<=16:=by rw[<-fP, <-jfj];exact jcI nd p 16
      obtain⟨q,hq⟩:=vE (n+(jcu nd p).length)
      have HQ:=Hd hq;have m6:=Hd a4.ext;have j7:=Hd a4;have j8:q<=1000000:=vO
      have j9:Hid (∀ z,w3.heap.size<=z->¬(Value.slice (some ⟨g,0,none⟩) n c).ownBlock=some z):=(fun z hz e=>by have:=A.o.tod.lt z e;omega);have d0:=Hd (ORow.mono g5.o a4.ext);have d2:=Hd (ORow.mono g4.o a4.ext);have d3:=Hd (ORow.mono g2.o a4.ext);have g6:=Hd (c8.o.keeps a4.ext (fun h=>h));have g7:=Hd (c9.o.keeps a4.ext (fun h=>h));clear a4 hq l6 l5;have d4:∀ (K:vV) (E:vW),ORow 154 2 W E K q (jb8 ts.reverse++jb8 (jcu nd p).reverse)->jad (fun b=>(Value.slice (some ⟨g,0,none⟩) n c).ownBlock=some b) j6 E->(K.ownBlock=(Value.slice (some ⟨g,0,none⟩) n c).ownBlock\/∀ b,K.ownBlock=some b->j6.heap.size<=b) ->
        LRow W E (.slice j4 (Z.length+1) j5) (Z.length+1) (Z++[(p,x)])/\ERow W E (.slice la L0.length lc) L0.length L0/\LRow W E K q (ts.reverse++(jcu nd p).reverse)/\(∀ b,K.ownBlock=some b->(Value.slice j4 (Z.length+1) j5).ownBlock≠some b)/\(∀ b,K.ownBlock=some b->(Value.slice la L0.length lc).ownBlock≠some b)/\Blk E nb (.cells nd.cells.toArray 132)/\Blk E pb (.cells [Value.string p,.string x].toArray 154):=fun K E r1 X r3=>by
       refine⟨?_,jha d2.o X (fun b hb e=>(A.o.ap1 b e).2 hb) A.o.tod.new,?_,?_,?_,g6.o.keeps X (j9.o _ c7.o),g7.o.keeps X (j9.o _ e0.o)⟩
       ·have:=jha d0.o X (fun b hb e=>j3.o b e hb) A.o.tod.new
        unfold LRow;rw[jbf];exact this
       ·unfold LRow;rw[jbf];exact r1
       ·exact fun b hb e=>jd3 d0.o.lt (fun b hb e=>j3.o b e hb) r3 b e hb
       ·exact fun b hb e=>jd3 d2.o.lt (fun b hb e=>(A.o.ap1 b e).2 hb) r3 b e hb
      have d5:=Hd d4;clear d4
      by_cases hv:nd.value.size=0
      ·have l7:nd.value.toList.isEmpty=true:=by
        rw[bX]
        have:nd.value.data.toList=[]:=bE hv
        rw[this];rfl
       have a5:entN nd p=[]:=by unfold entN;rw[if_pos hv]
       have a6:=Hd a5;clear a5 hv;go_wp2_with (refine jiJ Tryz.sPlcs d3.o j7.o HQ.o.symm rfl rfl j8 vI ?_;intro K E r1 X r3;obtain⟨f1,f2,f3,f4,f5,f6,f7⟩:=d5.o K E r1 X r3;have k0:=f6.cellL (i:=2) (v:=.string nd.value) rfl;have HF:=Hd (bB f1 (bB f2 (bB f3 (bB f4 f5))));obtain⟨l8,l9,rfl⟩:=r1.sl;clear r1 X r3 f1 f2 f3 f4 f5 f6 f7)
       go_roundw
       case rel =>
        obtain⟨f1,f2,f3,f4,f5⟩:=HF.o
        exact WkR.go A.o f8.o b1.o b7.o f1 (show L0.length=(L0++entN nd p).length by rw[a6.o,bS]) (by rw[a6.o,bS];exact f2) HN.o (by rw[<-HQ.o];exact f3) f4 f5 (fun b hb e=>d8.o b e hb)
       case measure =>
        have:=HQ.o
        have:(jcu nd p).length<=16:=by rw[<-fP, <-jfj];exact jcI nd p 16
        show (400 - (Z.length+1)) * 18+q < (400 - Z.length) * 18+(n+1);omega
      ·have l7:nd.value.toList.isEmpty=false:=by
        rw[bX];cases hd:nd.value.data.toList with
        | nil=>exact absurd (congrArg List.length hd) hv
        | cons x l=>rfl
       have b9:¬(9223372036854775807 < p.size+nd.path.size):=vO
       have g8:(p++nd.path).size<=1000000:=by rw[cN];omega
       have HV:=Hd hv;clear hv;go_wp2_with (refine jiJ Tryz.sPlcs d3.o j7.o HQ.o.symm rfl rfl j8 vI ?_;intro K E r1 X r3;obtain⟨f1,f2,f3,f4,f5,f6,f7⟩:=d5.o K E r1 X r3;have k0:=f6.cellL (i:=2) (v:=.string nd.value) rfl;have m0:=f6.cellL (i:=1) (v:=.string nd.path) rfl;have m1:=f7.cell (i:=0) (v:=.string p) vF;have HF:=Hd (bB f1 (bB f2 (bB f3 (bB f4 f5))));have g9:=Hd f6;obtain⟨l8,l9,rfl⟩:=r1.sl;clear r1 X r3 f1 f2 f3 f4 f5 f6 f7)
       refine vC (jrm E (p++nd.path) g8) fun f9 b3=>?_;unfold keyV;have a2:=Hd b3;have n1:=(g9.o.keeps b3 (fun h=>h)).cellL (i:=2) (v:=.string nd.value) rfl;clear b3 k0 m0 m1;cases hko:jda (p++nd.path)with
       | false =>
        have a5:entN nd p=[]:=by unfold entN keyR;rw[if_neg HV.o,if_neg (by rw[hko];exact Bool.false_ne_true)]
        have a6:=Hd a5;clear a5 hko;go_wp2_with fail
        go_roundw
        case rel =>
         obtain⟨f1,f2,f3,f4,f5⟩:=HF.o
         exact WkR.go A.o f8.o b1.o b7.o (ORow.mono f1 a2.o) (show L0.length=(L0++entN nd p).length by rw[a6.o,bS]) (by rw[a6.o,bS];exact ORow.mono f2 a2.o) HN.o (by rw[<-HQ.o];exact ORow.mono f3 a2.o) f4 f5 (fun b hb e=>d8.o b e hb)
        case measure =>
         have:=HQ.o
         have:(jcu nd p).length<=16:=by rw[<-fP, <-jfj];exact jcI nd p 16
         show (400 - (Z.length+1)) * 18+q < (400 - Z.length) * 18+(n+1);omega
       | true =>
        have a5:entN nd p=[(jby (p++nd.path),nd.value)]:=by unfold entN keyR;rw[if_neg HV.o,if_pos hko]
        have a6:=Hd a5;clear a5 hko
        obtain⟨k1,b4⟩:=vE (jby (p++nd.path))
        have h3:=Hd b4;have n2:L0.length<=400:=by have:=A.o.lle;omega
        have m2:L0.length+1<=maxLen:=by unfold maxLen;omega
        have m3:(L0.length+1) * 32<=140737488355328:=vO
        rw[if_pos rfl, <-b4];clear b4;go_wp2_with (at_builtin;(refine ja7 Tryz.sEnts (ORow.mono (ORow.mono HF.o.2.1 a2.o) ((ExtR f9).alloc _)) (.tmp 83) (.tmp 88) rfl rfl rfl (ja5 (Blk.new f9 _)) (news:=[.string k1,.string nd.value]) (jdZ _ _) rfl rfl m2 m3 ?_;intro n3 n4 r1 X r3))
        have m4:=Hd r1;have k2:=Hd X;have k3:=Hd r3
        obtain⟨n5,n6,rfl⟩:=r1.sl
        clear r1 X r3;go_roundw
        case rel =>
         obtain⟨f1,f2,f3,f4,f5⟩:=HF.o
         have hx:=a2.o.trans ((ExtR f9).alloc (.cells #[.string k1,.string nd.value] 71));have g1:=jha (ORow.mono f1 hx) k2.o (fun b hb e=>d8.o b e hb) f2.new;have g3:=jha (ORow.mono f3 hx) k2.o (fun b hb e=>f5 b hb e) f2.new;refine WkR.go A.o f8.o b1.o b7.o g1 (m:=L0.length+1) (by rw[a6.o,bF];rfl) (by rw[a6.o];unfold ERow;rw[jbf, <-h3.o];exact m4.o) HN.o (by rw[<-HQ.o];exact g3) f4 ?_ ?_
         ·exact jd3 (ORow.mono f3 hx).lt f5 k3.o
         ·exact jd3 (ORow.mono f1 hx).lt (fun b hb e=>d8.o b e hb) k3.o
        case measure =>
         have:=HQ.o
         have:(jcu nd p).length<=16:=by rw[<-fP, <-jfj];exact jcI nd p 16
         show (400 - (Z.length+1)) * 18+q < (400 - Z.length) * 18+(n+1);omega
end
section
open Go Go.RowKit
def rowE(e:Pair):Pair:=(jbv e.1,e.2)
theorem jm0(e:Pair):keyE (rowE e)=e:=by unfold keyE rowE;rw[jfu]
theorem jmx(l:vL):absP ⟨#[]⟩ l=l:=by
 unfold absP
 conv=>rhs;rw[<-List.map_id l]
 exact cZ fun q _=>by rw[jom];rfl
theorem jwi(x:vB):preB ⟨#[]⟩ x=true:=(jdk _ _).2 ⟨x.data.toList,rfl⟩
theorem jsq{e:Pair}{l:vL}:rowE e∈jaP l↔e∈l:=by
 constructor
 ·intro h
  obtain⟨p,o,h⟩:=bH.1 h
  have:=congrArg keyE h
  rw[show ((jbv p.1,p.2):Pair)=rowE p from rfl,jm0,jm0]at this;rw[<-this];exact o
 ·exact fun h=>bH.2 ⟨e,h,rfl⟩
theorem joP{l:vL}(h:jap l=0)(out:List Pl):jmm out l=l.filter fun e => !jeC (metT [] l) out (jbv e.1):=by
 have z:=jbm (jau h);have q:metT [] l=topP l ::(jcf ⟨#[]⟩ (jaP l)).flatMap fun k=>metF [] 12 k.1 k.2:=by unfold metT;rw[if_neg (cJ)]
 unfold jmm
 by_cases ho:topP l∈out
 ·rw[if_pos ho,eq_comm,gV]
  intro e A;rw[q,jfC,show (topP l).1=⟨#[]⟩from rfl,jwi];simp[ho]
 ·rw[if_neg ho,jlR (f:=11) out ⟨#[]⟩ z (jnq out 11),jmx]
  have o:∀ P:Pair->Bool,(((jaP l).filter P).map keyE)=l.filter fun e=>P (rowE e):=fun P=>by
   show (((l.map rowE).filter P).map keyE)=_;rw[List.filter_map,dE];rw[cZ (f:=keyE ∘ rowE) (g:=id) fun e _=>jm0 e,List.map_id];rfl
  rw[o];refine List.filter_congr fun e A=>?_;rw[q,jfC,decide_eq_false ho];rfl
theorem jrD{l:vL}(h:jap l=0){q:Pl}(e:q∈metT [] l):q=topP l\/(0 < q.1.size/\∃ m,jjL 12 ⟨#[]⟩ (jaP l) q m):=by
 have z:=jbm (jau h);unfold metT at e;rw[if_neg (cJ)]at e;rcases bJ.1 e with e | e
 ·exact .inl e
 ·obtain⟨k,A,e⟩:=cO.1 e
  have o:=jfY (f:=11) z k A
  obtain⟨m,E⟩:=jud 11 _ _ o.rows o.ne q e
  refine .inr ⟨?_,m,jlD (f:=11) z A e E⟩;have H:=jhF (jkl 11 _ _ o.rows q e);have J:=o.more;have K:(⟨#[]⟩:vB).size=0:=rfl;omega
theorem jpw{f g:Nat}{l m:vL}(q:jar f l)(hm:jar g m){U:vM}(hU:InjL U)(h1:∀ x∈jao (jab (f+1) l),32<=x.size->x∈U)(h2:∀ x∈jao (jab (g+1) m),32<=x.size->x∈U) :
  jiV (jaz (jbt (jab (f+1) l))) (jaz (jbt (jab (g+1) m))):=by
 have o:∀ {f:Nat} {l:vL},jar f l->(∀ x∈jao (jab (f+1) l),32<=x.size->x∈U)->∀ x∈jaz (jbt (jab (f+1) l)),x∈U:=fun {f l} q h x e=>by
  by_cases hz:(jab (f+1) l).text.size < 32
  ·unfold jbt at e
   rw[if_pos hz]at e;cases e
  ·rw[jgl hz]at e
   refine h x e ?_;rcases jtC q e with rfl | h
   ·omega
   ·exact h
 exact fun x e y z=>hU x (o q h1 x e) y (o hm h2 y z)
theorem jul(w:vW){l m:vL}(hl:jar 12 l)(hm:jar 12 m)(nl:l≠[])(nm:m≠[]){U:vM}(hU:InjL U)(h1:∀ x∈jao (jab 13 l),32<=x.size->x∈U)(h2:∀ x∈jao (jab 13 m),32<=x.size->x∈U)(h:refT l=refT m):l=m:=by
 obtain⟨e,o⟩:=jiD ((good 12 l hl).2.1 nl) ((good 12 m hm).2.1 nm) h (jpw hl hm hU h1 h2)
 exact jlV w 12 l m hl hm o e
theorem joZ(w:vW){a b:vL}(ha:jap a=0)(hb:jap b=0){U:vM}(hU:InjL U)(h1:∀ x∈jao (jav a),x∈U)(h2:∀ x∈jao (jav b),x∈U){e:Pair}(h:jeC (metT [] a) (metT [] b) (jbv e.1)=true)(he:e∈a):e∈b:=by
 obtain⟨q,H,h⟩:=fE.1 h
 obtain⟨A,J⟩:q∈metT [] b/\preB q.1 (jbv e.1)=true:=by
  have:=iA.1 h
  exact⟨of_decide_eq_true this.1,this.2⟩
 rcases jrD ha H with e1 |⟨e1,m,hm⟩ <;> rcases jrD hb A with e2 |⟨e2,n,hn⟩
 ·have K:(topP a).2=(topP b).2:=by rw[<-e1, <-e2]
  have O:shaB (jav a).text=shaB (jav b).text:=jjI (jbg _) (jbg _) K
  have:=hU _ (h1 _ (jbS _)) _ (h2 _ (jbS _)) O
  rw[<-juD w ha hb (fun x z y Q=>hU x (h1 x z) y (h2 y Q)) this];exact he
 ·rw[e1]at e2;exact absurd e2 (Nat.lt_irrefl 0)
 ·rw[e2]at e1;exact absurd e1 (Nat.lt_irrefl 0)
 ·have:m=n:=jul w hm.rows hn.rows hm.ne hn.ne hU (fun x z o=>h1 x (hm.text x z o)) (fun x z o=>h2 x (hn.text x z o)) (hm.ref.symm.trans hn.ref)
  subst this;have X:=hm.down (rowE e) (by rw[jmx];exact jsq.2 he) J;have E:=hn.up _ X;rw[jmx]at E;exact jsq.1 E
theorem jo0(A B:List Pl)(e:vB):jeC A B e=jeC B A e:=by
 unfold jeC;rw[iO,fE,fE];constructor <;>
 ·rintro⟨q,o,h⟩
  have:=iA.1 h
  exact⟨q,of_decide_eq_true this.1,by rw[iA];exact⟨decide_eq_true o,this.2⟩⟩
theorem jtV(x:vB):jbH x x=false:=gA.2 fun h=>lt_irrefl _ ((jbC _ _).1 h)
theorem jim(x y:vB)(h:jbH x y=true):jbH y x=false:=gA.2 fun k=>jlM _ _ ((jbC _ _).1 h) ((jbC _ _).1 k)
theorem jpC(x y z:vB)(h:jbH x y=true)(k:jbH y z=true):jbH x z=true:=(jbC _ _).2 (jdH _ _ _ ((jbC _ _).1 h) ((jbC _ _).1 k))
theorem jrt(x y:vB)(h:jbH x y=false)(k:jbH y x=false):x=y:=by
 rcases jjp x.data.toList y.data.toList with h1 | h1 | h1
 ·rw[(jbC _ _).2 h1]at h;cases h
 ·exact jbW h1
 ·rw[(jbC _ _).2 h1]at k;cases k
theorem jmf{l:vL}(h:jap l=0):jkW l:=(jau h).rise.imp fun {p q} h=>(jbC _ _).2 h
theorem jdO{l:vL}(h:jap l=0)(P:Pair->Bool):jap (l.filter P)=0:=
 joq (fun p e=>jm6 h p (cH.1 e).1) ((jau h).rise.filter _) (bK (dX _ _) (jau h).len)
theorem jt5(w:vW){a b:vL}(ha:jap a=0)(hb:jap b=0){U:vM}(hU:InjL U)(h1:∀ x∈jao (jav a),x∈U)(h2:∀ x∈jao (jav b),x∈U) :
  jap (jmm (metT [] b) a)=0/\jap (jmm (metT [] a) b)=0/\jbP (jmm (metT [] b) a) (jmm (metT [] a) b)=jbP a b:=by
 rw[joP ha,joP hb]
 refine⟨jdO ha _,jdO hb _,?_⟩
 unfold jbP;rw[if_pos ⟨jdO ha _,jdO hb _⟩,if_pos ⟨ha,hb⟩];rw[show (fun e:Pair => !jeC (metT [] b) (metT [] a) (jbv e.1))=fun e:Pair => !jeC (metT [] a) (metT [] b) (jbv e.1) by funext e;rw[jo0]];exact jqV jtV jim jpC jrt (fun e=>jeC (metT [] a) (metT [] b) (jbv e.1)) a b (jmf ha) (jmf hb) fun e o =>
  ⟨joZ w ha hb hU h1 h2 o,joZ w hb ha hU h2 h1 (by rw[jo0];exact o)⟩
inductive jb3 (S:vT) (out:vM):vM->vM->vM->Prop
 | nil (L:vM):jb3 S out L [] L
 | seen (L:vM) (h:vB) (hs R:vM):(h∈L\/h∈out)->jb3 S out L hs R->jb3 S out L (h :: hs) R
 | no (L:vM) (h:vB) (hs R:vM):h ∉ L->h ∉ out->h.size=32->atL S h.data.toList=none->jb3 S out L hs R->jb3 S out L (h :: hs) R
 | go (L:vM) (h:vB) (hs:vM) (y:Nd5) (n:jae) (R:vM):h ∉ L->h ∉ out->h.size=32->L.length+1<=S.length->atL S h.data.toList=some y->jbi y.2.2.text n->jb3 S out (L++[h]) ((jaF n).reverse++hs) R->jb3 S out L (h :: hs) R
theorem jrf{d:Nat}{n:jae}(hg:jck (InlD d) n):∀ h∈jaF n,h.size=32:=by
 intro h o
 obtain⟨r,q,e⟩:=List.mem_filterMap.1 o
 by_cases hz:r.size=0
 ·rw[jbp hz,jeW]at e;cases e
 rcases jn4 hg r q hz with⟨k,h1,h2⟩ |⟨m,hm⟩
 ·rw[h2,jd6 h1]at e
  rw[<-bV e];exact h1
 ·rw[jdE (inlP d) hm]at e;cases e
theorem jm5{α:Type}[DecidableEq α]:∀ {a b:List α},a.Nodup->(∀ x∈a,x∈b)->a.length<=b.length
 | [],b,_,_=>cB _
 | x :: a,b,hn,h=>by
  rw[dH]at hn
  have:=jm5 (b:=b.erase x) hn.2 fun y o=>(List.mem_erase_of_ne (fun e=>by subst e;exact hn.1 o)).2 (h y (bC _ o))
  rw[List.length_erase_of_mem (h x bD)]at this
  have:=List.length_pos_of_mem (h x bD)
  simp only[bP];omega
structure jhh(S:vT)(L:vM):Prop where
 nodup:L.Nodup
 there:∀ h∈L,h.data.toList∈S.map (·.1)
theorem jhh.len{S:vT}{L:vM}(h:jhh S L):L.length<=S.length:=by
 have:=jm5 (a:=L.map fun x:vB=>x.data.toList) (b:=S.map (·.1)) ?_ fun x q=>?_
 ·simpa using this
 ·have:∀ {L:vM},L.Nodup->(L.map fun x:vB=>x.data.toList).Nodup:=fun {L} h=>by
   induction L with
   | nil=>exact .nil
   | cons x L ih =>
    rw[dH]at h;rw[bL,dH]
    refine⟨fun z=>?_,ih h.2⟩
    obtain⟨y,o,e⟩:=bH.1 z
    rw[jbW e]at o;exact h.1 o
  exact this h.nodup
 ·obtain⟨y,o,rfl⟩:=bH.1 q
  exact h.there y o
theorem jhh.add{S:vT}{L:vM}(h:jhh S L){k:vB}(hk:k ∉ L){y:Nd5}(hy:atL S k.data.toList=some y):jhh S (L++[k]):=by
 refine⟨dY.2 ⟨h.nodup,by simp,fun a q b hb=>?_⟩,fun x o=>?_⟩
 ·rw[bO.1 hb]
  exact fun e=>hk (e ▸ q)
 ·rcases bR.1 o with o | o
  ·exact h.there x o
  ·rw[bO.1 o]
   obtain⟨z,A⟩:=ja6 hy
   exact bH.2 ⟨y,z,A⟩
theorem joA{S:vT}(hN:AllN S)(out:vM):∀ (m:Nat) (L q:vM),jhh S L->S.length<=L.length+m->(∀ h∈q,h.size=32)->∃ R,jb3 S out L q R:=by
 intro m;induction m with
 | zero =>
  intro L q H O;induction q with
  | nil=>exact fun _=>⟨L,.nil L⟩
  | cons h q ih =>
   intro o
   obtain⟨R,A⟩:=ih fun x z=>o x (bC _ z)
   by_cases h1:h∈L\/h∈out
   ·exact⟨R,.seen L h q R h1 A⟩
   ·cases hy:atL S h.data.toList with
    | none=>exact⟨R,.no L h q R (fun e=>h1 (.inl e)) (fun e=>h1 (.inr e)) (o h bD) hy A⟩
    | some y =>
     have:=(H.add (fun e=>h1 (.inl e)) hy).len
     rw[bF]at this;simp at this;omega
 | succ m ihm =>
  intro L q H O;induction q with
  | nil=>exact fun _=>⟨L,.nil L⟩
  | cons h q ih =>
   intro o
   by_cases h1:h∈L\/h∈out
   ·obtain⟨R,A⟩:=ih fun x z=>o x (bC _ z)
    exact⟨R,.seen L h q R h1 A⟩
   ·cases hy:atL S h.data.toList with
    | none =>
     obtain⟨R,A⟩:=ih fun x z=>o x (bC _ z)
     exact⟨R,.no L h q R (fun e=>h1 (.inl e)) (fun e=>h1 (.inr e)) (o h bD) hy A⟩
    | some y =>
     obtain⟨n,J⟩:=hN y (ja6 hy).1
     have E:=H.add (fun e=>h1 (.inl e)) hy;have K:=E.len;rw[bF]at K
     obtain⟨R,A⟩:=ihm (L++[h]) ((jaF n).reverse++q) E (by rw[bF];simp;omega) fun x z=>by
      rcases bR.1 z with z | z
      ·obtain⟨_,g,Q⟩:=J
       exact jrf Q x (List.mem_reverse.1 z)
      ·exact o x (bC _ z)
     exact⟨R,.go L h q y n R (fun e=>h1 (.inl e)) (fun e=>h1 (.inr e)) (o h bD) (by simpa using K) hy J A⟩
theorem jjy{S:vT}{out L hs R:vM}(h:jb3 S out L hs R):∀ x∈L,x∈R:=by
 induction h with
 | nil L=>exact fun x e=>e
 | seen L h hs R _ _ ih=>exact ih
 | no L h hs R _ _ _ _ _ ih=>exact ih
 | go L h hs y n R _ _ _ _ _ _ _ ih=>exact fun x e=>ih x (cA _ e)
theorem jix{S:vT}{out L hs R:vM}(h:jb3 S out L hs R):L.Nodup->R.Nodup:=by
 induction h with
 | nil L=>exact id
 | seen L h hs R _ _ ih=>exact ih
 | no L h hs R _ _ _ _ _ ih=>exact ih
 | go L h hs y n R h1 _ _ _ _ _ _ ih =>
  exact fun o=>ih (dY.2 ⟨o,by simp,fun a q b hb=>by rw[bO.1 hb];exact fun e=>h1 (e ▸ q)⟩)
theorem jma{S:vT}{out L hs R:vM}(h:jb3 S out L hs R)(Q:vB->Prop)(hQ:∀ (k:vB) (y:Nd5) (n:jae),Q k->atL S k.data.toList=some y->jbi y.2.2.text n->∀ x∈jaF n,Q x) :
  (∀ x∈hs,Q x)->∀ x∈R,x∈L\/(Q x/\x ∉ out/\x.data.toList∈S.map (·.1)):=by
 induction h with
 | nil L=>exact fun _ x e=>.inl e
 | seen L h hs R _ _ ih=>exact fun o=>ih fun x e=>o x (bC _ e)
 | no L h hs R _ _ _ _ _ ih=>exact fun o=>ih fun x e=>o x (bC _ e)
 | go L h hs y n R h1 h2 h3 _ h4 h5 _ ih =>
  intro o x e;have q:=o h bD;rcases ih (fun z A=>by
   rcases bR.1 A with A | A
   ·exact hQ h y n q h4 h5 z (List.mem_reverse.1 A)
   ·exact o z (bC _ A)) x e with h6 | h6
  ·rcases bR.1 h6 with h6 | h6
   ·exact .inl h6
   ·rw[bO.1 h6]
    obtain⟨E,H⟩:=ja6 h4
    exact .inr ⟨q,h2,bH.2 ⟨y,E,H⟩⟩
  ·exact .inr h6
theorem jpL{S:vT}{out L hs R:vM}(h:jb3 S out L hs R)(hL:∀ k∈L,∀ y n,atL S k.data.toList=some y->jbi y.2.2.text n->∀ x∈jaF n,x∈L\/x∈hs\/x∈out\/atL S x.data.toList=none)(w:vW) :
  (∀ x∈hs,x∈R\/x∈out\/atL S x.data.toList=none)/\∀ k∈R,∀ y n,atL S k.data.toList=some y->jbi y.2.2.text n->∀ x∈jaF n,x∈R\/x∈out\/atL S x.data.toList=none:=by
 induction h with
 | nil L =>
  refine⟨fun x e=>(cJ e).elim,fun k o y n z J x e=>?_⟩
  rcases hL k o y n z J x e with h | h | h
  ·exact .inl h
  ·exact (cJ h).elim
  ·exact .inr h
 | seen L h hs R z hR ih =>
  obtain⟨E,H⟩:=ih fun k o y n q A x e=>by
   rcases hL k o y n q A x e with h | h | h
   ·exact .inl h
   ·rcases bJ.1 h with rfl | h
    ·exact z.elim .inl fun h=>.inr (.inr (.inl h))
    ·exact .inr (.inl h)
   ·exact .inr (.inr h)
  refine⟨fun x e=>?_,H⟩
  rcases bJ.1 e with rfl | e
  ·exact z.elim (fun h=>.inl (jjy hR _ h)) fun h=>.inr (.inl h)
  ·exact E x e
 | no L h hs R z J h3 h4 hR ih =>
  obtain⟨E,H⟩:=ih fun k o y n q A x e=>by
   rcases hL k o y n q A x e with h | h | h
   ·exact .inl h
   ·rcases bJ.1 h with rfl | h
    ·exact .inr (.inr (.inr h4))
    ·exact .inr (.inl h)
   ·exact .inr (.inr h)
  refine⟨fun x e=>?_,H⟩
  rcases bJ.1 e with rfl | e
  ·exact .inr (.inr h4)
  ·exact E x e
 | go L h hs y n R z J h3 _ h4 h5 hR ih =>
  obtain⟨E,H⟩:=ih fun k o O K q A x e=>by
   rcases bR.1 o with o | o
   ·rcases hL k o O K q A x e with h | h | h
    ·exact .inl (cA _ h)
    ·rcases bJ.1 h with rfl | h
     ·exact .inl (by simp)
     ·exact .inr (.inl (dD _ h))
    ·exact .inr (.inr h)
   ·obtain rfl:=bO.1 o
    rw[h4]at q;obtain rfl:=bV q
    obtain⟨Q,g1,X⟩:=h5
    obtain⟨Z,g2,b2⟩:=A
    obtain rfl:n=K:=jdc w X b2 (Q.symm.trans Z);exact .inr (.inl (cA _ (List.mem_reverse.2 e)))
  refine⟨fun x e=>?_,H⟩
  rcases bJ.1 e with rfl | e
  ·exact .inl (jjy hR _ (by simp))
  ·exact E x (dD _ e)
theorem jtt(G:vB->Prop):∀ (f:Nat) (l:vL),jar f l->(∀ t∈jao (jab (f+1) l),∀ n,jbi t n->G (shaB t)->∀ h∈jaF n,G h)->G (shaB (jab (f+1) l).text)->∀ t∈jao (jab (f+1) l),G (shaB t):=by
 intro f;induction f with
 | zero =>
  intro l h _ z t o;have J:jaq (jab 0) l=[]:=by have:=jbA h;unfold jaq;rw[if_pos vO]
  have A:jao (jab (0+1) l)=(jab (0+1) l).text :: jaz (jaq (jab 0) l):=by
   show jao (.mk (jaU (jan (jab 0) l)) (jaq (jab 0) l))=_;rw[jao];rfl
  rw[A,J]at o;simp[jaz]at o;rw[o];exact z
 | succ f ih =>
  intro l h H z t o;have A:jao (jab (f+1+1) l)=(jab (f+1+1) l).text :: jaz (jaq (jab (f+1)) l):=by
   show jao (.mk (jaU (jan (jab (f+1)) l)) (jaq (jab (f+1)) l))=_;rw[jao];rfl
  have q:=H _ (jbS _) (jan (jab (f+1)) l) ⟨rfl,f+1,(good (f+1) l h).1⟩ z;rw[jdR (f+1) l h]at q;rw[A]at o;rcases bJ.1 o with rfl | o
  ·exact z
  ·obtain⟨K,E,o⟩:=jbs.1 o
   have O:=q _ (bH.2 ⟨K,E,rfl⟩)
   obtain⟨g,m,e,rfl,Q,_⟩:=jhN h E
   obtain rfl:f=g:=vO
   exact ih m Q (fun x X=>H x (by rw[A];exact bC _ (jbs.2 ⟨_,E,X⟩))) O t o
theorem jmb(w:vW){S:vT}{b:vL}(h:HasM S b){out R:vM}(hR:jb3 S out [] [shaB (jav b).text] R)(ho:∀ t∈jao (jav b),shaB t∈out->∀ n,jbi t n->∀ x∈jaF n,x∈out) :
  ∀ k,k∈R↔(∃ t∈jao (jav b),k=shaB t)/\k ∉ out:=by
 have hr:=jbm (jau h.ok);have hT:=(jho h.ok).node;have o:∀ t∈jao (jav b),∃ y,atL S (shaB t).data.toList=some y/\y.2.2.text=t:=fun t z=>h.has t z;have h1:=jma hR (fun k=>∃ t∈jao (jav b),k=shaB t) (fun k y n ⟨t,z,q⟩ hy A x E=>by
  subst q
  obtain⟨y',K,O⟩:=o t z
  rw[K]at hy;obtain rfl:=bV hy;rw[O]at A
  obtain⟨Q,H,X⟩:=hT t ((jaM _ _).2 z)
  obtain⟨Z,g1,a2⟩:=A
  obtain⟨b1,g2,b2⟩:=H
  obtain rfl:n=Q:=jdc w a2 b2 (Z.symm.trans b1)
  obtain⟨t',J,e⟩:=X x E
  exact⟨t',(jaM _ _).1 J,e⟩) (fun x E=>by rw[bO.1 E];exact⟨_,jbS _,rfl⟩)
 obtain⟨h2,h3⟩:=jpL hR (fun k q=>(cJ q).elim) w
 have h4:∀ t∈jao (jav b),shaB t∈R\/shaB t∈out:=jtt (fun k=>k∈R\/k∈out) 12 (jaP b) hr (fun t z n A q x E=>by
   obtain⟨y,K,O⟩:=o t z
   rcases q with q | q
   ·rcases h3 _ q y n K (by rw[O];exact A) x E with h | h | h
    ·exact .inl h
    ·exact .inr h
    ·obtain⟨Q,H,X⟩:=hT t ((jaM _ _).2 z)
     obtain⟨Z,g1,a2⟩:=A
     obtain⟨b1,g2,b2⟩:=H
     obtain rfl:n=Q:=jdc w a2 b2 (Z.symm.trans b1)
     obtain⟨t',J,e⟩:=X x E
     obtain⟨y',e3,_⟩:=o t' ((jaM _ _).1 J)
     rw[e,e3]at h;cases h
   ·exact .inr (ho t z q n A x E)) (by
  rcases h2 _ bD with h | h | h
  ·exact .inl h
  ·exact .inr h
  ·obtain⟨y,K,_⟩:=o _ (jbS (jav b))
   rw[K]at h;cases h)
 refine fun k=>⟨fun q=>?_,fun ⟨⟨t,z,e⟩,A⟩=>?_⟩
 ·rcases h1 k q with h |⟨h,h',_⟩
  ·exact (cJ h).elim
  ·exact⟨h,h'⟩
 ·subst e
  exact (h4 t z).resolve_right A
theorem jt9(w:vW){a b:vL}(ha:jap a=0){U:vM}(hU:InjL U)(h1:∀ x∈jao (jav a),x∈U)(h2:∀ x∈jao (jav b),x∈U){A:vM}(hA:∀ k,k∈A↔∃ t∈jao (jav a),k=shaB t) :
  ∀ t∈jao (jav b),shaB t∈A->∀ n,jbi t n->∀ x∈jaF n,x∈A:=by
 intro t E H n J x K
 obtain⟨z,o,e⟩:=(hA _).1 H
 obtain rfl:=hU t (h2 t E) z (h1 z o) e
 obtain⟨O,q,Q⟩:=(jho ha).node t ((jaM _ _).2 o)
 obtain⟨X,g1,Z⟩:=J
 obtain⟨b1,g2,b2⟩:=q
 obtain rfl:n=O:=jdc w Z b2 (X.symm.trans b1)
 obtain⟨t2,h3,e⟩:=Q x K
 exact (hA x).2 ⟨t2,(jaM _ _).1 h3,e⟩
end
section
open Go Go.RowKit
attribute [local go_sem] Oper.semAt_some
theorem jvT(W:vW)(x:vB):vQ 126 #[.string x] W fun e w'=>e=.returned (.tuple #[])/\w'=W:=by
 go_enter Tryz.func126,Tryz.ntmps126;go_wp2_with fail
 refine bodyPost_end (results_none rfl _ _ _) rfl ?_
 exact⟨rfl,rfl⟩
theorem jyA(W:vW)(s bm:Nat)(room:Int)(S:vT)(hs:jaL W s bm room S)(k:vB)(y:Nd5)(hy:atL S k.data.toList=some y)(f:Nat)(n:jae)(hg:jck (InlD f) n)(ht:y.2.2.text=jaU n) :
  vR 85 #[.pointer (some ⟨s,0,none⟩),.string k,.func (.func 126) #[] #[]] W (.tuple #[n.V,.bool true]):=by
 have hn:=(hg.one (inlP f)).refs;have HN:=Hd hn;have HG:=Hd hg;have HL:=Hd (n.cells_len hn);have q:=fun w (h:jaL w s bm room S)=>jiB w s bm room S k h;rw[hy]at q;simp only[fY,optV]at q;have H:=Hd q;have HS:=Hd hs
 obtain⟨t,J⟩:=vE y.2.2.text
 rw[<-J]at H ht;have HT:=Hd ht;clear q hs hg ht hn hy J;go_enter Tryz.func85,Tryz.ntmps85;go_wp2_with (refine jal Tryz.allocNode rfl rfl ?_;intro W1 K A)
 refine vC (H.o W1 (HS.o.ext A)) fun w3 E=>?_;have O:=Hd (K.keeps E (fun h=>h));have Q:=Hd (A.trans E);clear E K A;go_wp2_with fail
 refine (jvT w3 t).mono ?_;rintro e w4 ⟨rfl,rfl⟩;go_wp2_with fail
 rw[HT.o];refine vC (jji (inlP f) w4 n HG.o) fun w5 E=>?_;rw[<-HT.o];have z:=O.o.keeps E (fun h=>h);have X:=Hd E;clear E O;unfold jae.V;go_wp2_with (first |(refine jal Tryz.allocNode rfl rfl ?_;intro W5 a2 Z;refine jah (vs:=n.cells) rfl rfl rfl rfl a2 (by rw[HL.o];rfl) (by rw[HL.o];exact Tryz.szNode) n.one ?_;intro W6 a3 a1;have a0:=(z.keeps Z (fun h=>h)).keeps a1 (by have:=z.lt;omega)) |(refine jaf 132 (.tmp 10) rfl rfl _ _ rfl (jax _ _ n HN.o a3) ?_) |(refine jah (vs:=n.cells) rfl rfl rfl rfl a0 (by rw[HL.o];rfl) (by rw[HL.o];exact Tryz.szNode) n.one ?_;intro W8 a4 a5))
 refine bodyPost_ret (jaQ rfl rfl rfl (jaH W8 _ n HN.o a4)) rfl ?_;have a6:Ext W W6:=(((Q.o.trans X.o).trans Z)).trans' a1 (fun x hx e=>by have e:x=w5.heap.size:=e;have:=X.o.size;have:=Q.o.size;omega)
 exact⟨rfl,a6.trans' a5 (fun x hx e=>by have e:x=W.heap.size:=e;omega)⟩
section
variable (w0:vW) (s bm:Nat) (room:Int) (S:vT) (rb:Nat)
structure RdS0:Prop where
 st:jaL w0 s bm room S
 nodes:jhJ S
 new:w0.heap.size<=rb
def jp5(f:Nat):Prop:=∀ n d,jck (InlD d) n->∀ (W:vW) (left:Nat),Ext w0 W->RdAt W rb s left->left<=f->left<=160->vQ 127 #[.pointer (some ⟨rb,0,none⟩),n.V] W (RdO W rb s (jbQ (gRef S) f n left))
def RefC(f:Nat):Prop:=∀ r d,MayP (InlD d) r->∀ (W:vW) (left:Nat),Ext w0 W->RdAt W rb s left->left<=f->left<=160->vQ 166 #[.pointer (some ⟨rb,0,none⟩),.string r] W (RdO W rb s ((gRef S r).bind fun m=>jbQ (gRef S) f m left))
noncomputable def gHash(h:vB):Option jae:=(atL S h.data.toList).map fun x=>nodeOf x.2.2.text
def jwU(f:Nat):Prop:=∀ h,∀ (W:vW) (left:Nat),Ext w0 W->RdAt W rb s left->left<=f->left<=160->vQ 89 #[.pointer (some ⟨rb,0,none⟩),.string h] W (RdO W rb s ((gHash S h).bind fun m=>jbQ (gRef S) f m left))
end
theorem RdAt.ext{W W':vW}{rb s left:Nat}(h:RdAt W rb s left)(e:Ext W W'):RdAt W' rb s left:=h.keeps e (fun e=>e)
theorem jre(w0:vW)(s bm:Nat)(room:Int)(S:vT)(rb:Nat)(hR:RdS0 w0 s bm room S rb)(h:vB)(W:vW)(left:Nat)(q:Ext w0 W)(hr:RdAt W rb s left)(ha:atL S h.data.toList=none) :
  vQ 89 #[.pointer (some ⟨rb,0,none⟩),.string h] W (RdO W rb s none):=by
 have z:=jxj W s bm room S (hR.st.ext q) (.func (.func 126) #[] #[]) h ha;have E:=Hd z;have Q:=Hd hr;unfold RdAt at hr;have q0:=hr.cell (i:=0) (v:=.pointer (some ⟨s,0,none⟩)) vF;clear z hr hR q ha;go_enter Tryz.func89,Tryz.ntmps89;go_wp2_with fail
 refine E.o.mono ?_;rintro e w1 ⟨rfl,q⟩;have O:=Hd q;clear q;unfold jae.V;go_wp2_with (first |(refine jal Tryz.allocNode rfl rfl ?_;intro W5 H J;refine jah (vs:=jaV.cells) rfl rfl rfl rfl H rfl Tryz.szNode jaV.one ?_;intro X Z K))
 go_ret2;have A:Ext W X:=(O.o.trans J).trans' K (fun x hx e=>by have e:x=w1.heap.size:=e;have:=O.o.size;omega)
 exact⟨A.mono (fun _ _ e=>e.elim),_,left,rfl,.inl rfl,Q.o.ext A⟩
theorem jrd(w0:vW)(s bm:Nat)(room:Int)(S:vT)(rb:Nat)(hR:RdS0 w0 s bm room S rb)(f:Nat)(hN:jp5 w0 s S rb f)(h:vB)(W:vW)(left:Nat)(H:Ext w0 W)(hr:RdAt W rb s left)(hf:left<=f)(h160:left<=160)(y:Nd5)(ha:atL S h.data.toList=some y) :
  vQ 89 #[.pointer (some ⟨rb,0,none⟩),.string h] W (RdO W rb s (jbQ (gRef S) f (nodeOf y.2.2.text) left)):=by
 obtain⟨n0,J⟩:=hR.nodes y (ja6 ha).1
 have hn:=jdd J
 obtain⟨n,K⟩:=vE (nodeOf y.2.2.text)
 rw[<-K]at hn ⊢
 obtain⟨ht,d,hg⟩:=hn
 have E:=(hg.one (inlP d)).refs;have a4:=Hd E;have HL:=Hd (n.cells_len E);have O:=jyA W s bm room S (hR.st.ext H) h y ha d n hg ht;have a5:=Hd O;have HR:=Hd hr;have Q:=Hd (show ∀ w,Ext W w->vQ 127 #[.pointer (some ⟨rb,0,none⟩),n.V] w (RdO w rb s (jbQ (gRef S) f n left))from fun w e=>hN n d hg w left (H.trans e) (hr.ext e) hf h160);unfold RdAt at hr;have q0:=hr.cell (i:=0) (v:=.pointer (some ⟨s,0,none⟩)) vF
 obtain⟨o,ho⟩:=vE (jbQ (gRef S) f n left)
 rw[<-ho]at Q ⊢;clear O hr hR H ha J K ht hg E hN ho;go_enter Tryz.func89,Tryz.ntmps89;go_wp2_with fail
 refine a5.o.mono ?_;rintro e w1 ⟨rfl,H⟩;have HE:=Hd H;clear H;unfold jae.V;go_wp2_with (first |(refine jal Tryz.allocNode rfl rfl ?_;intro W5 X Z;refine jah (vs:=n.cells) rfl rfl rfl rfl X (by rw[HL.o];rfl) (by rw[HL.o];exact Tryz.szNode) n.one ?_;intro W6 a0 a1) |(refine jaf 132 (.tmp 6) rfl rfl _ _ rfl (jax _ _ n a4.o a0) ?_))
 have a2:Ext W W6:=(HE.o.trans Z).trans' a1 (fun x hx e=>by have e:x=w1.heap.size:=e;have:=HE.o.size;omega);have HX:=Hd a2;clear a2 X Z a0 a1;refine (Q.o W6 HX.o).mono ?_;intro e w7 hO
 obtain⟨hk,a3⟩:=hO
 cases o with
 | none =>
  obtain⟨v,l,rfl,hv,q⟩:=a3
  have A:=Hd (bB hk (bB hv q));clear hk q;rcases hv with rfl |⟨T,x,rfl⟩
  ·go_wp2_with fail
   go_ret2
   exact⟨(HX.o.mono (fun _ _ e=>e.elim)).trans A.o.1,_,l,rfl,.inl rfl,A.o.2.2⟩
  ·go_wp2_with fail
   go_ret2
   exact⟨(HX.o.mono (fun _ _ e=>e.elim)).trans A.o.1,_,l,rfl,.inr ⟨T,x,rfl⟩,A.o.2.2⟩
 | some Pl =>
  obtain⟨P,l⟩:=Pl
  obtain⟨T,x,rfl,hP,q⟩:=a3
  have A:=Hd (bB hk (bB hP q));clear hk hP q;go_wp2_with fail
  go_ret2
  exact⟨(HX.o.mono (fun _ _ e=>e.elim)).trans A.o.1,T,x,rfl,A.o.2.1.mono (fun z hz=>⟨bK HX.o.size hz.1,hz.2⟩),A.o.2.2⟩
theorem jsm(w0:vW)(s bm:Nat)(room:Int)(S:vT)(rb:Nat)(hR:RdS0 w0 s bm room S rb)(f:Nat)(hN:jp5 w0 s S rb f):jwU w0 s S rb f:=by
 intro h W left o q z e;unfold gHash;cases ha:atL S h.data.toList with
 | none=>exact jre w0 s bm room S rb hR h W left o q ha
 | some y=>exact jrd w0 s bm room S rb hR f hN h W left o q z e y ha
end
section
open Go Go.RowKit
attribute [local go_sem] Oper.semAt_some
theorem jmV(r:vB):jj9 r=jcA r:=by
 unfold jj9 jcA;cases cutN r <;> rfl
theorem juk(w0:vW)(s:Nat)(S:vT)(rb:Nat)(f:Nat)(hH:jwU w0 s S rb f)(r h:vB)(hrh:jcA r=some h)(hs:r.size<=1000)(W:vW)(left:Nat)(H:Ext w0 W)(hr:RdAt W rb s left)(hf:left<=f)(h160:left<=160) :
  vQ 166 #[.pointer (some ⟨rb,0,none⟩),.string r] W (RdO W rb s ((gHash S h).bind fun m=>jbQ (gRef S) f m left)):=by
 have q:=jhy W r vO;rw[jmV,hrh]at q;unfold optV at q;have HA:=Hd q;have Q:=Hd (show ∀ w,Ext W w->vQ 89 #[.pointer (some ⟨rb,0,none⟩),.string h] w (RdO w rb s ((gHash S h).bind fun m=>jbQ (gRef S) f m left))from fun w e=>hH h w left (H.trans e) (hr.ext e) hf h160)
 obtain⟨o,X⟩:=vE ((gHash S h).bind fun m=>jbQ (gRef S) f m left)
 rw[<-X]at Q ⊢;clear hH hrh hs H hr hf h160 q X;go_enter Tryz.func166,Tryz.ntmps166;go_wp2_with fail
 refine HA.o.mono ?_;rintro e w1 ⟨rfl,H⟩;have J:=Hd H;clear H;go_wp2_with fail
 refine (Q.o w1 J.o).mono ?_;intro e w7 hO
 obtain⟨O,K⟩:=hO
 cases o with
 | none =>
  obtain⟨v,l,rfl,Z,A⟩:=K
  have E:=Hd (bB O (bB Z A));clear O A;rcases Z with rfl |⟨T,x,rfl⟩
  ·go_wp2_with fail
   go_ret2
   exact⟨(J.o.mono (fun _ _ e=>e.elim)).trans E.o.1,_,l,rfl,.inl rfl,E.o.2.2⟩
  ·go_wp2_with fail
   go_ret2
   exact⟨(J.o.mono (fun _ _ e=>e.elim)).trans E.o.1,_,l,rfl,.inr ⟨T,x,rfl⟩,E.o.2.2⟩
 | some Pl =>
  obtain⟨P,l⟩:=Pl
  obtain⟨T,x,rfl,hP,A⟩:=K
  have E:=Hd (bB O (bB hP A));clear O hP A;go_wp2_with fail
  go_ret2
  exact⟨(J.o.mono (fun _ _ e=>e.elim)).trans E.o.1,T,x,rfl,E.o.2.1.mono (fun z hz=>⟨bK J.o.size hz.1,hz.2⟩),E.o.2.2⟩
theorem jwm(w0:vW)(s:Nat)(S:vT)(rb:Nat)(f:Nat)(hN:jp5 w0 s S rb f)(r:vB)(d:Nat)(n:jae)(hi:InlD (d+1) r n)(hs:r.size<=1000)(W:vW)(left:Nat)(hE:Ext w0 W)(hr:RdAt W rb s left)(hf:left<=f)(h160:left<=160) :
  vQ 166 #[.pointer (some ⟨rb,0,none⟩),.string r] W (RdO W rb s (jbQ (gRef S) f n left)):=by
 have q:=jhy W r vO;rw[jmV,jdE (inlP (d+1)) hi]at q;unfold optV at q;have HA:=Hd q;have H:=(hi.1.one (inlP d)).refs;have a2:=Hd H;have HL:=Hd (n.cells_len H);have HI:=Hd (fun w=>(inlP (d+1)).inl r n hi w);have J:=Hd (show ∀ w,Ext W w->vQ 127 #[.pointer (some ⟨rb,0,none⟩),n.V] w (RdO w rb s (jbQ (gRef S) f n left))from fun w e=>hN n d hi.1 w left (hE.trans e) (hr.ext e) hf h160)
 obtain⟨o,ho⟩:=vE (jbQ (gRef S) f n left)
 rw[<-ho]at J ⊢;clear hN hi hs hE hr hf h160 q H ho;go_enter Tryz.func166,Tryz.ntmps166;go_wp2_with fail
 refine HA.o.mono ?_;rintro e a3 ⟨rfl,K⟩;have a4:=Hd K;clear K;go_wp2_with fail
 refine vH (HI.o a3) fun w1 hE=>?_;have HE:=Hd (a4.o.trans hE);unfold jae.V;go_wp2_with (first |(refine jal Tryz.allocNode rfl rfl ?_;intro W5 O Q;refine jah (vs:=n.cells) rfl rfl rfl rfl O (by rw[HL.o];rfl) (by rw[HL.o];exact Tryz.szNode) n.one ?_;intro W6 X Z) |(refine jaf 132 (.tmp 8) rfl rfl _ _ rfl (jax _ _ n a2.o X) ?_))
 have a0:Ext W W6:=(HE.o.trans Q).trans' Z (fun x hx e=>by have e:x=w1.heap.size:=e;have:=HE.o.size;omega);have HX:=Hd a0;clear a0 O Q X Z;refine (J.o W6 HX.o).mono ?_;intro e w7 hO
 obtain⟨hk,a1⟩:=hO
 cases o with
 | none =>
  obtain⟨v,l,rfl,hv,A⟩:=a1
  have E:=Hd (bB hk (bB hv A));clear hk A;rcases hv with rfl |⟨T,x,rfl⟩
  ·go_wp2_with fail
   go_ret2
   exact⟨(HX.o.mono (fun _ _ e=>e.elim)).trans E.o.1,_,l,rfl,.inl rfl,E.o.2.2⟩
  ·go_wp2_with fail
   go_ret2
   exact⟨(HX.o.mono (fun _ _ e=>e.elim)).trans E.o.1,_,l,rfl,.inr ⟨T,x,rfl⟩,E.o.2.2⟩
 | some Pl =>
  obtain⟨P,l⟩:=Pl
  obtain⟨T,x,rfl,hP,A⟩:=a1
  have E:=Hd (bB hk (bB hP A));clear hk hP A;go_wp2_with fail
  go_ret2
  exact⟨(HX.o.mono (fun _ _ e=>e.elim)).trans E.o.1,T,x,rfl,E.o.2.1.mono (fun z hz=>⟨bK HX.o.size hz.1,hz.2⟩),E.o.2.2⟩
theorem jx8(w0:vW)(s bm:Nat)(room:Int)(S:vT)(rb:Nat)(hR:RdS0 w0 s bm room S rb)(f:Nat)(hN:jp5 w0 s S rb f):RefC w0 s S rb f:=by
 intro r d q W left z A E e;have H:r.size<=1000:=by have:=q.size (inlP d);omega
 unfold gRef;rcases q with hh |⟨m,hi⟩
 ·obtain⟨h,J,K⟩:=hh
  have o:jcA r=some h:=by rw[K];exact jd6 J
  rw[o];exact juk w0 s S rb f (jsm w0 s bm room S rb hR f hN) r h o H W left z A E e
 ·cases d with
  | zero=>exact hi.elim
  | succ d =>
   rw[jdE (inlP (d+1)) hi];show Calls _ _ _ W (RdO W rb s (jbQ (gRef S) f (inlOf r) left));rw[jn8 w0 hi];exact jwm w0 s S rb f hN r d m hi H W left z A E e
theorem jlS(W:vW)(rb s:Nat)(n:jae)(hr:RdAt W rb s 0):vQ 127 #[.pointer (some ⟨rb,0,none⟩),n.V] W (RdO W rb s none):=by
 have z:=hr.lt;have q:=hr.ext ((ExtR W).alloc (.cells n.cells.toArray 132));have A:=Hd q;unfold RdAt at q;have E:=q.cell (i:=1) (v:=.int .i64 0) vF;clear q hr;unfold jae.V;go_enter Tryz.func127,Tryz.ntmps127;go_wp2_with fail
 go_ret2
 exact⟨((ExtR W).alloc _).mono (fun _ _ e=>e.elim),_,0,rfl,.inl rfl,A.o⟩
theorem jrT(W:vW)(rb s k:Nat)(hk:k<=160)(q v:vB)(rs:vM)(hr:RdAt W rb s (k+1)):vQ 127 #[.pointer (some ⟨rb,0,none⟩),(jae.mk 1 q v rs).V] W (RdO W rb s (some (.leaf q v,k))):=by
 have a5:=hr.lt;have a6:W.heap.size≠rb:=vO
 obtain⟨Q,A⟩:=vE (W.setCell ⟨rb,1,none⟩ (.int .i64 (k:Int)))
 obtain⟨J,E⟩:=vE (Q.alloc (.cells (jae.cells ⟨1,q,v,rs⟩).toArray 132))
 have Z:RdAt Q rb s k:=by rw[A];exact Blk.set_same (i:=1) hr _
 have a0:Q.heap.size=W.heap.size:=by rw[A];exact gF _ _ _
 have H:Ext Q J:=by rw[E];exact (ExtR Q).alloc _
 have X:Blk J W.heap.size (.cells (jae.cells ⟨1,q,v,rs⟩).toArray 132):=by rw[<-a0,E];exact Blk.new Q _
 have K:RdAt J rb s k:=Z.ext H;have O:jad (fun z=>z=rb) W J:=(show jad (fun z=>z=rb) W Q by rw[A];exact jad.oneSet _ ⟨rb,1,none⟩ _).trans (H.mono (fun _ _ e=>e.elim));have a3:=Hd (bB K (bB O X));have hA:=hr.ext ((ExtR W).alloc (.cells (jae.cells ⟨1,q,v,rs⟩).toArray 132));unfold RdAt at hA;have q1:=hA.cell (i:=1) (v:=.int .i64 ((k:Int)+1)) vF;have f1:(W.alloc (.cells (jae.cells ⟨1,q,v,rs⟩).toArray 132)).frozen? ⟨rb,1,none⟩=false:=hA.frozen;have e0:(jae.cells ⟨1,q,v,rs⟩)[0]?=some (.int .i64 1):=rfl;have e1:(jae.cells ⟨1,q,v,rs⟩)[1]?=some (.string q):=rfl;have e2:(jae.cells ⟨1,q,v,rs⟩)[2]?=some (.string v):=rfl;have HW:=Hd (bB A E);clear hr hA Z H K O X A E;unfold jae.V;go_enter Tryz.func127,Tryz.ntmps127;go_wp2_with fail
 go_ret2
 obtain⟨A,E⟩:=HW.o
 rw[<-A, <-E]
 obtain⟨K,O,X⟩:=a3.o
 have a1:Ext J (J.alloc (.cells #[.string q,.string v] 235)):=(ExtR J).alloc _;have a4:=Blk.new J (.cells #[.string q,.string v] 235);have hz:J.heap.size=W.heap.size+1:=by rw[E,bN,a0]
 have a2:Blk (J.alloc (.cells #[.string q,.string v] 235)) (W.heap.size+1) (.cells #[.string q,.string v] 235):=by rw[<-hz];exact a4
 exact⟨O.trans (a1.mono (fun _ _ e=>e.elim)),_,_,rfl,⟨_,rfl,⟨Nat.le_succ _,a2.lt⟩,a2⟩,K.ext a1⟩
theorem jrU(W:vW)(rb s k:Nat)(hk:k<=160)(q v:vB)(rs:vM)(hr:RdAt W rb s (k+1)):vQ 127 #[.pointer (some ⟨rb,0,none⟩),(jae.mk 0 q v rs).V] W (RdO W rb s (some (.no,k))):=by
 have a2:=hr.lt;have a3:W.heap.size≠rb:=vO
 obtain⟨O,A⟩:=vE (W.setCell ⟨rb,1,none⟩ (.int .i64 (k:Int)))
 obtain⟨Z,E⟩:=vE (O.alloc (.cells (jae.cells ⟨0,q,v,rs⟩).toArray 132))
 have X:RdAt O rb s k:=by rw[A];exact Blk.set_same (i:=1) hr _
 have a0:O.heap.size=W.heap.size:=by rw[A];exact gF _ _ _
 have H:Ext O Z:=by rw[E];exact (ExtR O).alloc _
 have Q:Blk Z W.heap.size (.cells (jae.cells ⟨0,q,v,rs⟩).toArray 132):=by rw[<-a0,E];exact Blk.new O _
 have J:RdAt Z rb s k:=X.ext H;have K:jad (fun z=>z=rb) W Z:=(show jad (fun z=>z=rb) W O by rw[A];exact jad.oneSet _ ⟨rb,1,none⟩ _).trans (H.mono (fun _ _ e=>e.elim));have a1:=Hd (bB J (bB K Q));have hA:=hr.ext ((ExtR W).alloc (.cells (jae.cells ⟨0,q,v,rs⟩).toArray 132));unfold RdAt at hA;have q1:=hA.cell (i:=1) (v:=.int .i64 ((k:Int)+1)) vF;have f1:(W.alloc (.cells (jae.cells ⟨0,q,v,rs⟩).toArray 132)).frozen? ⟨rb,1,none⟩=false:=hA.frozen;have e0:(jae.cells ⟨0,q,v,rs⟩)[0]?=some (.int .i64 0):=rfl;have HW:=Hd (bB A E);clear hr hA X H J K Q A E;unfold jae.V;go_enter Tryz.func127,Tryz.ntmps127;go_wp2_with fail
 go_ret2
 obtain⟨A,E⟩:=HW.o
 rw[<-A, <-E]
 obtain⟨J,K,Q⟩:=a1.o
 exact⟨K,_,_,rfl,rfl,J⟩
theorem jt2(w0:vW)(s:Nat)(S:vT)(rb f:Nat)(hRef:RefC w0 s S rb f)(hnew:w0.heap.size<=rb)(W:vW)(k:Nat)(hE0:Ext w0 W)(hk:k<=f)(h160:k<=159)(q v r:vB)(rs:vM)(d:Nat)(hm:MayP (InlD d) r)(hr:RdAt W rb s (k+1)):vQ 127 #[.pointer (some ⟨rb,0,none⟩),(jae.mk 2 q v (r :: rs)).V] W (RdO W rb s ((gRef S r).bind fun m=>(jbQ (gRef S) f m k).map fun x=>(.ext q x.1,x.2))):=by
 have b9:=hr.lt;have b4:W.heap.size≠rb:=vO
 obtain⟨W1,E⟩:=vE (W.setCell ⟨rb,1,none⟩ (.int .i64 (k:Int)))
 obtain⟨J,H⟩:=vE (W1.alloc (.cells (jae.cells ⟨2,q,v,r :: rs⟩).toArray 132))
 have a4:RdAt W1 rb s k:=by rw[E];exact Blk.set_same (i:=1) hr _
 have a5:W1.heap.size=W.heap.size:=by rw[E];exact gF _ _ _
 have K:Ext W1 J:=by rw[H];exact (ExtR W1).alloc _
 have a6:Blk J W.heap.size (.cells (jae.cells ⟨2,q,v,r :: rs⟩).toArray 132):=by rw[<-a5,H];exact Blk.new W1 _
 have X:RdAt J rb s k:=a4.ext K;have a1:jad (fun z=>z=rb) W J:=(show jad (fun z=>z=rb) W W1 by rw[E];exact jad.oneSet _ ⟨rb,1,none⟩ _).trans (K.mono (fun _ _ e=>e.elim));have a2:=Hd (bB X (bB a1 a6));have hA:=hr.ext ((ExtR W).alloc (.cells (jae.cells ⟨2,q,v,r :: rs⟩).toArray 132));unfold RdAt at hA;have q1:=hA.cell (i:=1) (v:=.int .i64 ((k:Int)+1)) vF;have f1:(W.alloc (.cells (jae.cells ⟨2,q,v,r :: rs⟩).toArray 132)).frozen? ⟨rb,1,none⟩=false:=hA.frozen;have e0:(jae.cells ⟨2,q,v,r :: rs⟩)[0]?=some (.int .i64 2):=rfl;have e1:(jae.cells ⟨2,q,v,r :: rs⟩)[1]?=some (.string q):=rfl;have e3:(jae.cells ⟨2,q,v,r :: rs⟩)[3]?=some (.string r):=rfl;have a7:Ext w0 J:=hE0.trans' a1 (fun x hx e=>by have e:x=rb:=e;omega);have HC:=Hd (hRef r d hm J k a7 X hk vO);have b5:(jae.cells ⟨2,q,v,r :: rs⟩).toArray.size=(jae.cells ⟨2,q,v,r :: rs⟩).length:=by simp
 have a0:rb < J.heap.size:=X.lt;have c0:=Hd a0
 obtain⟨o,ho⟩:=vE ((gRef S r).bind fun m=>jbQ (gRef S) f m k)
 have a8:((gRef S r).bind fun m=>(jbQ (gRef S) f m k).map fun x=>(PA.ext q x.1,x.2))=o.map fun x=>(PA.ext q x.1,x.2):=by
  rw[ho];cases gRef S r with
  | none=>rfl
  | some m=>rfl
 rw[<-ho]at HC;rw[a8];have HW:=Hd (bB E H);have a9:J.heap.size=W.heap.size+1:=by rw[H,bN,a5]
 have b6:=Hd a9;have b7:=hr;clear hRef hnew hE0 hm hr hA a4 K X a1 a6 a7 ho a8 a9 b5 a0 b7;unfold jae.V;go_enter Tryz.func127,Tryz.ntmps127;go_wp2_with fail
 rw[<-E, <-H];clear E H q1 f1;refine HC.o.mono ?_;intro e O hO
 obtain⟨Q,b0⟩:=hO
 have b1:=a2.o.2.2.keeps Q (fun e=>b4 (by exact e));have q7:=b1.cellL (i:=1) e1;have a3:=Hd (a2.o.2.1.trans Q);have b2:=a2.o.2.2.lt;have b8:=Hd (show W.heap.size<=O.heap.size/\W.heap.size+1=J.heap.size/\J.heap.size<=O.heap.size from⟨bK (Nat.le_of_lt b2) Q.size,b6.o.symm,Q.size⟩);clear Q b1 b2;cases o with
 | none =>
  obtain⟨v7,l,rfl,hv,A⟩:=b0
  have HZ:=Hd A;clear A;rcases hv with rfl |⟨T,x,rfl⟩
  ·go_wp2_with fail
   go_ret2
   exact⟨a3.o.trans (((ExtR O).alloc _).mono (fun _ _ e=>e.elim)),_,l,rfl,.inr ⟨_,_,rfl⟩,HZ.o.ext ((ExtR O).alloc _)⟩
  ·go_wp2_with fail
   go_ret2
   exact⟨a3.o.trans (((ExtR O).alloc _).mono (fun _ _ e=>e.elim)),_,l,rfl,.inr ⟨_,_,rfl⟩,HZ.o.ext ((ExtR O).alloc _)⟩
 | some Pl =>
  obtain⟨P,l⟩:=Pl
  obtain⟨T,x,rfl,hP,A⟩:=b0
  have HZ:=Hd (bB hP A);clear hP A;go_wp2_with fail
  go_ret2
  obtain⟨hP,A⟩:=HZ.o
  have Z:Ext O (O.alloc (.cells #[.string q,.iface T x] 238)):=(ExtR O).alloc _;have b3:=Blk.new O (.cells #[.string q,.iface T x] 238)
  obtain⟨z1,z2,z3⟩:=b8.o
  refine⟨a3.o.trans (Z.mono (fun _ _ e=>e.elim)),_,_,rfl,⟨_,T,x,jkY J O,rfl,⟨by omega,b3.lt⟩,b3,hP.keeps Z _ _ _ (fun _ _ e=>e),fun e=>by have:=e.2;omega,fun z hz=>⟨by have:=hz.1;omega,bQ hz.2 Z.size⟩⟩,A.ext Z⟩
theorem jjA{R:jae->Nat->Option (PA × Nat)}{G:vB->Option jae}{rs:vM}{k left:Nat}(h:je7 R G rs k left=none):∀ d,je7 R G rs (k+d) left=none
 | 0=>h
 | d+1=>by
  show je7 R G rs (k+d+1) left=none;rw[jfv,jjA h d];rfl
structure jw3(W:World)(rb s bb:Nat)(G:vB->Option jae)(R:jae->Nat->Option (PA × Nat))(v:vB)(rs:vM)(left:Nat)(iv:Value)(wr:World)(k:Nat)(ks:Nat->PA)(l:Nat)(vk:Nat->Value)(Dk:Nat->Nat->Prop)(D:Nat->Prop):Prop where
 le:k<=16
 iv:iv=.int .i64 (k:Int)
 rd:je7 R G rs k left=some (ks,l)
 br:BrAt v ks bb vk Dk D wr
 since:∀ z,D z->W.heap.size<=z
 rdr:RdAt wr rb s l
 kp:jad (fun z=>z=rb) W wr
theorem jkG{W:vW}{b:Nat}{n:jae}(hr:n.refs.length=16)(hB:Blk W b (.cells n.cells.toArray 132)):(Instr.loadAt 130 (.pointer (some ⟨b,3,none⟩))).run Tryz.prog W=.ok (.agg (n.refs.map Value.string).toArray) W:=by
 have e:W.rangeAt b 3 (n.refs.map Value.string):=fun j v q=>hB.cellL (by
  unfold jae.cells;rw[show 3+j=j+3 by omega];simpa using q)
 have o:=run_loadVar_mid (P:=Tryz.prog) W b 3 130 _ _ e Tryz.uRefs rfl (by simp only[cC,hr];exact Tryz.iRefs);simp[Instr.loadAt,Instr.sureAddr,bT,Result.andThen,o]
theorem jwb(w0:vW)(s:Nat)(S:vT)(rb f:Nat)(hRef:RefC w0 s S rb f)(hnew:w0.heap.size<=rb)(W:vW)(k0:Nat)(hE0:Ext w0 W)(hk:k0<=f)(h160:k0<=159)(q v:vB)(rs:vM)(d:Nat)(hrl:rs.length=16)(hm:∀ r∈rs,r.size≠0->MayP (InlD d) r)(hr:RdAt W rb s (k0+1)):vQ 127 #[.pointer (some ⟨rb,0,none⟩),(jae.mk 3 q v rs).V] W (RdO W rb s ((je7 (jbQ (gRef S) f) (gRef S) rs 16 k0).map fun x=>(.br v x.1,x.2))):=by
 have d7:=hr.lt;have e9:W.heap.size≠rb:=vO
 obtain⟨W1,A⟩:=vE (W.setCell ⟨rb,1,none⟩ (.int .i64 (k0:Int)))
 obtain⟨W2,E⟩:=vE (W1.alloc (.cells (jae.cells ⟨3,q,v,rs⟩).toArray 132))
 have c2:RdAt W1 rb s k0:=by rw[A];exact Blk.set_same (i:=1) hr _
 have b0:W1.heap.size=W.heap.size:=by rw[A];exact gF _ _ _
 have Z:Ext W1 W2:=by rw[E];exact (ExtR W1).alloc _
 have b1:Blk W2 W.heap.size (.cells (jae.cells ⟨3,q,v,rs⟩).toArray 132):=by rw[<-b0,E];exact Blk.new W1 _
 have b2:RdAt W2 rb s k0:=c2.ext Z;have b3:jad (fun z=>z=rb) W W2:=(show jad (fun z=>z=rb) W W1 by rw[A];exact jad.oneSet _ ⟨rb,1,none⟩ _).trans (Z.mono (fun _ _ e=>e.elim));have d8:=Hd (bB b2 (bB b3 b1));have hA:=hr.ext ((ExtR W).alloc (.cells (jae.cells ⟨3,q,v,rs⟩).toArray 132));unfold RdAt at hA;have q1:=hA.cell (i:=1) (v:=.int .i64 ((k0:Int)+1)) vF;have f1:(W.alloc (.cells (jae.cells ⟨3,q,v,rs⟩).toArray 132)).frozen? ⟨rb,1,none⟩=false:=hA.frozen;have e0:(jae.cells ⟨3,q,v,rs⟩)[0]?=some (.int .i64 3):=rfl;have e2:(jae.cells ⟨3,q,v,rs⟩)[2]?=some (.string v):=rfl
 obtain⟨W3,J⟩:=vE (W2.alloc (.cells #[.string v,.nilIface,.nilIface,.nilIface,.nilIface,.nilIface,.nilIface,.nilIface,.nilIface,.nilIface,.nilIface,.nilIface,.nilIface,.nilIface,.nilIface,.nilIface,.nilIface] 242))
 have Q:Ext W2 W3:=by rw[J];exact (ExtR W2).alloc _
 have c3:W2.heap.size=W.heap.size+1:=by rw[E,bN,b0]
 have b4:Blk W3 (W.heap.size+1) (.cells (brC v (fun _=>.nilIface)).toArray 242):=by rw[<-c3,J];exact Blk.new W2 _
 have a0:BrAt v (fun _=>.nil) (W.heap.size+1) (fun _=>.nilIface) (fun _ _=>False) (fun x=>x=W.heap.size+1) W3:=
  ⟨rfl,b4,fun i _=>⟨rfl,fun e=>e,fun _ e=>e.elim⟩,fun _ _ _ _ _ _ e=>e.elim,fun x e=>by rw[e];exact b4.lt⟩
 have b5:=jkG (n:=⟨3,q,v,rs⟩) hrl (b1.keeps Q (fun e=>e));have c4:=Hd (show jw3 W rb s (W.heap.size+1) (gRef S) (jbQ (gRef S) f) v rs k0 (.int .i64 0) W3 0 (fun _=>.nil) k0 (fun _=>.nilIface) (fun _ _=>False) (fun x=>x=W.heap.size+1)from⟨by omega,rfl,rfl,a0,fun z e=>by rw[e];omega,b2.ext Q,b3.trans (Q.mono (fun _ _ e=>e.elim))⟩);have c1:=Hd hRef;have HM:=Hd hm;have d9:=Hd hrl;have e1:=Hd hE0;have e3:=Hd hnew;have e4:=Hd d7;have HF:=Hd hk
 obtain⟨o,ho⟩:=vE ((je7 (jbQ (gRef S) f) (gRef S) rs 16 k0).map fun x=>(PA.br v x.1,x.2))
 have HO:=Hd ho;rw[<-ho];have HW:=Hd (bB A (bB E J));have c5:=Hd (show W.heap.size+1≠rb by omega);rw[J,E,A]at b5;clear hRef hnew hE0 hm hr hA c2 Z b2 b3 b1 A E J Q b4 a0 hrl ho c3 hk;unfold jae.V;go_enter Tryz.func127,Tryz.ntmps127;go_wp2_with (refine jaf 130 (.tmp 59) rfl rfl _ _ rfl b5 ?_)
 obtain⟨A,E,J⟩:=HW.o
 rw[<-A, <-E, <-J]
 obtain⟨bb,c6⟩:=vE (W.heap.size+1)
 rw[<-c6]at c4 c5 ⊢;clear A E J HW b5 q1 f1 b0 c6 d8;go_loopw [61] (fun iv wr=>∃ k ks l vk Dk D,jw3 W rb s bb (gRef S) (jbQ (gRef S) f) v rs k0 iv wr k ks l vk Dk D) (fun iv _=>16 - (intOf iv).toNat)
 case atStart=>exact⟨0,_,_,_,_,_,c4.o⟩
 case round =>
  obtain⟨k,ks,l,vk,Dk,D,h⟩:=hrel
  obtain⟨f0,rfl,c7,a0,c8,c9,d0⟩:=h
  have b6:=Hd c7;have K:=Hd a0;have a1:=Hd c8;have b7:=Hd c9;have O:=Hd d0;clear c7 a0 c8 c9 d0
  by_cases hlt:k < 16
  ·obtain⟨r,a2⟩:∃ r,rs[k]?=some r:=⟨_,bA (by have:=d9.o;omega)⟩
   have f2:(Instr.index 130 (.agg (rs.map Value.string).toArray) (.int .i64 (k:Int))).run Tryz.prog wr=.ok (.string r) wr:=jeF Tryz.uRefs Tryz.strOne Tryz.strAgg _ k hlt _ (by rw[bZ,a2];rfl) wr;have b8:rs.getD k ⟨#[]⟩=r:=by rw[bG,a2];rfl
   have H:=jfv (jbQ (gRef S) f) (gRef S) rs k k0;rw[b6.o,b8]at H;have H:je7 (jbQ (gRef S) f) (gRef S) rs (k+1) k0=if r.size=0 then some (ks,l)else (gRef S r).bind fun m=>(jbQ (gRef S) f m l).map fun y=>(setK ks k y.1,y.2):=H
   by_cases hr0:r.size=0
   ·rw[if_pos hr0]at H
    have e5:=jbp hr0;subst e5;have f3:(⟨#[]⟩:vB).toList.isEmpty=true:=by rw[bX];rfl
    have a6:=Hd H;clear H a2 hr0 b8;go_wp2;go_roundw
    case rel=>exact⟨k+1,ks,l,vk,Dk,D,by omega,by go_num,a6.o,K.o,a1.o,b7.o,O.o⟩
    case measure=>exact vJ
   ·rw[if_neg hr0]at H
    have e8:=jcU hr0;have d1:Ext w0 wr:=e1.o.trans' O.o (fun x hx e=>by have e:x=rb:=e;have:=e3.o;omega);have e6:l<=k0:=jkB (fun m l y h=>bK (jkC (gRef S) f m l y h) (Nat.sub_le _ _)) k k0 _ b6.o;have HC:=Hd (c1.o r d (HM.o r (bI a2) hr0) wr l d1 b7.o (by have:=HF.o;omega) vO)
    obtain⟨o1,b9⟩:=vE ((gRef S r).bind fun m=>jbQ (gRef S) f m l)
    rw[<-b9]at HC;have a4:je7 (jbQ (gRef S) f) (gRef S) rs (k+1) k0=o1.map fun y=>(setK ks k y.1,y.2):=by
     rw[H,b9];cases gRef S r with
     | none=>rfl
     | some m=>rfl
    have a6:=Hd a4;have f4:=Hd (K.o.lt bb K.o.mem);clear H a4 a2 hr0 b8 d1 e6 b9;go_wp2_with fail
    refine HC.o.mono ?_;intro e w7 hO
    obtain⟨d2,d3⟩:=hO
    have a7:=Hd d2;clear d2;cases o1 with
    | none =>
     obtain⟨v7,l7,rfl,hv,a3⟩:=d3
     have HZ:=Hd a3;clear a3;have d4:=Hd (show o=none by
      rw[HO.o]
      have:=jjA (k:=k+1) a6.o (15 - k)
      rw[show k+1+(15 - k)=16 by omega]at this;rw[this];rfl)
     rcases hv with rfl |⟨T,x,rfl⟩
     ·go_wp2_with fail
      go_ret2;rw[d4.o]
      exact⟨O.o.trans a7.o,_,l7,rfl,.inl rfl,HZ.o⟩
     ·go_wp2_with fail
      go_ret2;rw[d4.o]
      exact⟨O.o.trans a7.o,_,l7,rfl,.inl rfl,HZ.o⟩
    | some Pl =>
     obtain⟨P,l7⟩:=Pl
     obtain⟨T,x,rfl,hP,a3⟩:=d3
     have a5:∀ z,D z->¬ z=rb:=fun z X e=>by have:=a1.o z X;have:=e4.o;omega
     have a8:=K.o.keeps a7.o (fun z X=>a5 z X);have hg:=a8.give hlt hP (fun z X=>⟨fun e=>by have:=K.o.lt z e;have:=X.1;omega,X.2⟩)
     obtain⟨W8,a9⟩:=vE (w7.setCell ⟨bb,1+k,none⟩ (.iface T x))
     rw[<-a9]at hg;have c0:jad (fun z=>z=bb) w7 W8:=by rw[a9];exact jad.oneSet w7 ⟨bb,1+k,none⟩ (.iface T x)
     have d5:RdAt W8 rb s l7:=a3.keeps c0 (fun e=>c5.o e.symm);have d6:jad (fun z=>z=rb) W W8:=(O.o.trans a7.o).trans' c0 (fun z X e=>by have e:z=bb:=e;have:=a1.o bb K.o.mem;omega)
     obtain⟨old,q7⟩:∃ v,w7.cell? ⟨bb,1+k,none⟩=some v:=⟨_,a8.blk.cellL (bA (by rw[jgP];omega))⟩
     have f7:w7.frozen? ⟨bb,1+k,none⟩=false:=a8.blk.frozen;have HG:=Hd (bB hg (bB d5 (bB d6 (show ∀ z,(D z\/jkY wr w7 z)->W.heap.size<=z from fun z X=>X.elim (a1.o z) (fun e=>bK O.o.size e.1)))));have e7:=Hd a9;clear hP a3 a5 a8 hg c0 d5 d6 a9;go_wp2_with fail
     rw[<-e7.o];clear q7 f7;go_roundw
     case rel=>exact⟨k+1,_,l7,_,_,_,by omega,by go_num,a6.o,HG.o.1,HG.o.2.2.2,HG.o.2.1,HG.o.2.2.1⟩
     case measure=>exact vJ
  ·obtain rfl:k=16:=vO
   go_wp2_with fail
   go_ret2;rw[HO.o,b6.o]
   exact⟨O.o,_,_,rfl,K.o.pa.at'.mono (fun z X=>⟨a1.o z X,K.o.lt z X⟩),b7.o⟩
theorem jso(w0:vW)(s bm:Nat)(room:Int)(S:vT)(rb:Nat)(hR:RdS0 w0 s bm room S rb):∀ f,jp5 w0 s S rb f
 | 0=>fun n d E W left z o H q=>by
  obtain rfl:left=0:=vO
  rw[jjB];exact jlS W rb s n o
 | f+1=>fun n d E W left z o H q=>by
  have e:=jx8 w0 s bm room S rb hR f (jso w0 s bm room S rb hR f);cases left with
  | zero =>
   rw[jjB];exact jlS W rb s n o
  | succ k =>
   rw[jei,if_neg (gY k)];cases E with
   | none=>exact jrU W rb s k vO _ _ _ o
   | leaf p v h1 h2 h3=>exact jrT W rb s k vO p v _ o
   | ext p r h1 h2 h3 =>
    have A:MayP (InlD d) r:=h3.imp id (fun ⟨m,A,_⟩=>⟨m,A⟩);exact jt2 w0 s S rb f e hR.new W k z vO vO p ⟨#[]⟩ r (jat 15) d A o
   | branch v rs h1 h2 h3 h4=>exact jwb w0 s S rb f e hR.new W k z vO vO ⟨#[]⟩ v rs d h1 h3 o
def jyq(W:vW)(o:Option (PA × Nat))(e:Ending)(w':vW):Prop:=Ext W w'/\match o with
 | some (P,_)=>∃ T x,e=.returned (.tuple #[.iface T x,.bool true])/\PaAt P (.iface T x) (jkY W w') w'
 | none=>∃ v,e=.returned (.tuple #[v,.bool false])/\(v=.nilIface\/∃ T x,v=.iface T x)
noncomputable def readR(S:vT)(root:vB):Option (PA × Nat):=(gHash S root).bind fun m=>jbQ (gRef S) 160 m 160
theorem jwB(W:vW)(s bm:Nat)(room:Int)(S:vT)(hs:jaL W s bm room S)(hN:jhJ S)(root:vB) :
  vQ 48 #[.pointer (some ⟨s,0,none⟩),.string root] W (jyq W (readR S root)):=by
 obtain⟨H,q⟩:=vE (W.alloc (.cells #[.pointer (some ⟨s,0,none⟩),.int .i64 160] 144))
 have A:Ext W H:=by rw[q];exact (ExtR W).alloc _
 have J:RdAt H W.heap.size s 160:=by rw[q];exact Blk.new W _
 have Q:RdS0 W s bm room S W.heap.size:=⟨hs,hN,bM _⟩;have O:=jsm W s bm room S W.heap.size Q 160 (jso W s bm room S W.heap.size Q 160) root H 160 A J (bM _) (bM _)
 obtain⟨o,X⟩:=vE (readR S root)
 have O:vQ 89 #[.pointer (some ⟨W.heap.size,0,none⟩),.string root] H (RdO H W.heap.size s o):=by rw[X];exact O
 have HC:=Hd O;have HE:=Hd A;have HW:=Hd q;rw[<-X];clear hs hN J Q O X A q;go_enter Tryz.func48,Tryz.ntmps48;go_wp2_with fail
 rw[<-HW.o];refine HC.o.mono ?_;intro e w7 hO
 obtain⟨hk,K⟩:=hO
 have hX:Ext W w7:=HE.o.trans' hk (fun x hx e=>by have e:x=W.heap.size:=e;omega);have Z:=Hd hX;clear hk hX;cases o with
 | none =>
  obtain⟨v,l,rfl,hv,E⟩:=K
  clear E;rcases hv with rfl |⟨T,x,rfl⟩
  ·go_wp2_with fail
   go_ret2
   exact⟨Z.o,_,rfl,.inl rfl⟩
  ·go_wp2_with fail
   go_ret2
   exact⟨Z.o,_,rfl,.inr ⟨T,x,rfl⟩⟩
 | some Pl =>
  obtain⟨P,l⟩:=Pl
  obtain⟨T,x,rfl,hP,E⟩:=K
  have HZ:=Hd hP;clear hP E;go_wp2_with fail
  go_ret2
  exact⟨Z.o,T,x,rfl,HZ.o.mono (fun z hz=>⟨bK HE.o.size hz.1,hz.2⟩)⟩
theorem jn0(w:vW){S:vT}{f:Nat}{m:vL}(h:jar f m)(hn:m≠[])(hS:32<=(jab (f+1) m).text.size->HasS S (jab (f+1) m).text):gRef S (refB (jab (f+1) m).text)=some (jan (jab f) m):=by
 have e:=(good f m h).2.1 hn;unfold gRef
 by_cases hz:(jab (f+1) m).text.size < 32
 ·have q:=e.may.2 hz
  rw[jdE (inlP (f+1)) q,jn8 w q]
 ·rw[jgx hz,jd6 (jbg _)]
  obtain⟨x,o,A⟩:=hS vO
  have o:atL S (shaB (jab (f+1) m).text).data.toList=some x:=o;show (atL S (shaB (jab (f+1) m).text).data.toList).map (fun x=>nodeOf x.2.2.text)=_;rw[o];show some (nodeOf x.2.2.text)=_;have z:jbi (jab (f+1) m).text (jan (jab f) m):=⟨e.text,f,e.good⟩;rw[A,jd9 w (jdd z) z]
theorem jpR(w:vW)(S:vT):∀ (g:Nat) (l:vL),jar g l->(∀ x∈jaz (jaq (jab g) l),32<=x.size->HasS S x)->∀ (f left:Nat),cntT g l<=left->left<=f->jbQ (gRef S) f (jan (jab g) l) left=some (jaW (g+1) l,left - cntT g l):=by
 intro g;have q:∀ (g:Nat) (l:vL),l.length<=1->cntT g l=1->∀ (f left:Nat),cntT g l<=left->left<=f->jbQ (gRef S) f (jan (jab g) l) left=some (jaW (g+1) l,left - cntT g l):=by
  intro g l hl hc f left K h2;rw[hc]at K ⊢;cases f with
  | zero=>omega
  | succ f =>
   rw[jei,if_neg vO]
   by_cases h0:l.length=0
   ·have e:jan (jab g) l=jaV:=by unfold jan;rw[if_pos h0]
    rw[e,jbR _ h0];rfl
   ·have a1:l.length=1:=vO
    have e:jan (jab g) l=⟨1,(l.getD 0 pd).1,(l.getD 0 pd).2,jat 16⟩:=by unfold jan;rw[if_neg h0,if_pos a1]
    rw[e,jbZ _ a1];rfl
 induction g with
 | zero =>
  intro l h hS f left K h2;exact q 0 l (jbA h) rfl f left K h2
 | succ g ih =>
  intro l h hS f left K h2
  by_cases hl:l.length<=1
  ·exact q (g+1) l hl (by unfold cntT;rw[if_pos hl]) f left K h2
  have O:2<=l.length:=vO
  have A:∀ m,jar g m->m≠[]->(∀ x∈jaz (jbt (jab (g+1) m)),x∈jaz (jaq (jab (g+1)) l))->(32<=(jab (g+1) m).text.size->HasS S (jab (g+1) m).text)/\∀ x∈jaz (jaq (jab g) m),32<=x.size->HasS S x:=by
   intro m hm a4 E
   refine⟨fun hz=>hS _ (E _ ?_) hz,fun x Q hz=>?_⟩
   ·rw[jgl vO];exact jbS _
   ·by_cases hs:(jab (g+1) m).text.size < 32
    ·have a5:=(good g m hm).2.1 a4
     have e:(jab (g+1) m).kids=[]:=a5.small hs;have e:jaq (jab g) m=[]:=e;rw[e]at Q;cases Q
    ·refine hS x (E x ?_) hz
     rw[jgl hs];exact bC _ Q
  cases f with
  | zero =>
   exfalso
   have:1<=cntT (g+1) l:=by unfold cntT;omega
   omega
  | succ f =>
   by_cases hk:0 < comK l
   ·obtain⟨H,X,_,_⟩:=jdW h O hk
    have eB:jaq (jab (g+1)) l=jbt (jab (g+1) (jag (comK l) l)):=by unfold jaq;rw[if_neg vO,if_pos hk]
    have eN:jan (jab (g+1)) l=⟨2,(l.getD 0 pd).1.extract 0 (comK l),⟨#[]⟩,refB (jab (g+1) (jag (comK l) l)).text :: jat 15⟩:=by unfold jan;rw[if_neg vO,if_neg vO,if_pos hk]
    have eC:cntT (g+1) l=1+cntT g (jag (comK l) l):=by
     show 1+(if l.length<=1 then 0 else if 0 < comK l then cntT g (jag (comK l) l)else _)=_;rw[if_neg vO,if_pos hk]
    obtain⟨s1,s2⟩:=A _ H X (fun x Q=>by rw[eB];exact Q)
    rw[eC]at K ⊢;rw[jei,if_neg vO,eN,jdq _ O hk];show ((gRef S (refB (jab (g+1) (jag (comK l) l)).text)).bind fun m=>(jbQ (gRef S) f m (left - 1)).map fun x=>(PA.ext ((l.getD 0 pd).1.extract 0 (comK l)) x.1,x.2))=_;rw[jn0 w H X s1];show (jbQ (gRef S) f (jan (jab g) (jag (comK l) l)) (left - 1)).map _=_;rw[ih _ H s2 f (left - 1) vO vO];show some (_,left - 1 - cntT g (jag (comK l) l))=some (_,left - (1+cntT g (jag (comK l) l)))
    congr 2
    omega
   ·have eB:jaq (jab (g+1)) l=(List.range 16).flatMap fun i=>if (cutL i l).length=0 then []else jbt (jab (g+1) (jag 1 (cutL i l))):=by unfold jaq;rw[if_neg vO,if_neg hk]
    obtain⟨Z,a2⟩:=vE ((List.range 16).map fun i=>if (cutL i l).length=0 then (⟨#[]⟩:vB)else refB (jab (g+1) (jag 1 (cutL i l))).text)
    have eN:jan (jab (g+1)) l=⟨3,⟨#[]⟩,if (l.getD 0 pd).1.size=0 then (l.getD 0 pd).2 else ⟨#[]⟩,Z⟩:=by rw[a2];unfold jan;rw[if_neg vO,if_neg vO,if_neg hk]
    obtain⟨c,hc⟩:∃ c:Nat->Nat,c=fun i=>if (cutL i l).length=0 then 0 else cntT g (jag 1 (cutL i l)):=⟨_,rfl⟩
    have eC:cntT (g+1) l=1+sumF c 16:=by
     rw[hc];show 1+(if l.length<=1 then 0 else if 0 < comK l then _ else _)=_;rw[if_neg vO,if_neg hk]
    obtain⟨o,z⟩:∃ o:Nat->PA,o=fun i=>if (cutL i l).length=0 then PA.nil else jaW (g+1) (jag 1 (cutL i l)):=⟨_,rfl⟩
    rw[eC]at K ⊢;have a0:∀ k,k<=16->je7 (jbQ (gRef S) f) (gRef S) Z k (left - 1)=some (fun i=>if i < k then o i else .nil,left - 1 - sumF c k):=by
     intro k;induction k with
     | zero=>intro _;simp[je7,sumF]
     | succ k ihk =>
      intro a6;rw[jfv,ihk vO];have a3:Z.getD k ⟨#[]⟩=if (cutL k l).length=0 then (⟨#[]⟩:vB)else refB (jab (g+1) (jag 1 (cutL k l))).text:=by rw[a2,jfq _ vO]
      show (if (Z.getD k ⟨#[]⟩).size=0 then some (_,left - 1 - sumF c k)else (gRef S (Z.getD k ⟨#[]⟩)).bind fun m=>(jbQ (gRef S) f m (left - 1 - sumF c k)).map fun y=>(setK (fun i=>if i < k then o i else .nil) k y.1,y.2))=_;have J:sumF c (k+1)=sumF c k+c k:=rfl
      by_cases hc0:(cutL k l).length=0
      ·rw[a3,if_pos hc0,if_pos (show (⟨#[]⟩:vB).size=0 from rfl),J]
       have e1:c k=0:=by rw[hc];exact if_pos hc0
       have e2:o k=.nil:=by rw[z];exact if_pos hc0
       rw[e1,gU]
       congr 2
       funext i
       by_cases hi:i < k
       ·rw[if_pos hi,if_pos vO]
       ·rw[if_neg hi]
        by_cases he:i=k
        ·rw[he,if_pos vO,e2]
        ·rw[if_neg vO]
      ·obtain⟨H,X⟩:=jeL h hc0
       obtain⟨s1,s2⟩:=A _ H X (fun x Q=>by
        rw[eB,jgX];exact cO.2 ⟨k,dJ.2 vO,by rw[if_neg hc0];exact Q⟩)
       have e1:c k=cntT g (jag 1 (cutL k l)):=by rw[hc];exact if_neg hc0
       have e2:o k=jaW (g+1) (jag 1 (cutL k l)):=by rw[z];exact if_neg hc0
       have a7:sumF c (k+1)<=sumF c 16:=by
        have:=jek c (k+1) (15 - k)
        rwa [show k+1+(15 - k)=16 by omega]at this
       rw[a3,if_neg hc0,if_neg (jkD H X),jn0 w H X s1];show (jbQ (gRef S) f (jan (jab g) (jag 1 (cutL k l))) (left - 1 - sumF c k)).map _=_;rw[ih _ H s2 f _ vO vO, <-e1, <-e2,J];show some (setK _ k (o k),_)=some (_,_)
       congr 2
       ·funext i
        unfold setK
        by_cases he:i=k
        ·rw[if_pos he,he,if_pos vO]
        ·rw[if_neg he]
         show (if i < k then o i else PA.nil)=_
         by_cases hi:i < k
         ·rw[if_pos hi,if_pos vO]
         ·rw[if_neg hi,if_neg vO]
       ·omega
    rw[jei,if_neg vO,eN,jeD _ O hk];show (je7 (jbQ (gRef S) f) (gRef S) Z 16 (left - 1)).map (fun x=>(PA.br (if (l.getD 0 pd).1.size=0 then (l.getD 0 pd).2 else ⟨#[]⟩) x.1,x.2))=_;rw[a0 16 (bM _), <-z];show some (PA.br _ (fun i=>if i < 16 then o i else .nil),left - 1 - sumF c 16)=some (PA.br _ o,left - (1+sumF c 16));have e3:(fun i=>if i < 16 then o i else .nil)=o:=by
     funext i
     by_cases hi:i < 16
     ·rw[if_pos hi]
     ·rw[if_neg hi,z]
      show PA.nil=if (cutL i l).length=0 then PA.nil else _
      rw[if_pos (by
       cases hz:(cutL i l).length with
       | zero=>rfl
       | succ n=>exact absurd (jxr h (i:=i) vO) hi)]
    rw[e3]
    congr 2
    omega
theorem jjX:∀ (g:Nat) (l:vL),jar g l->cntP (jaW (g+1) l)=cntT g l:=by
 intro g;have e:∀ (g:Nat) (l:vL),l.length<=1->cntP (jaW (g+1) l)=1:=by
  intro g l q
  by_cases h0:l.length=0
  ·rw[jbR _ h0];rfl
  ·rw[jbZ _ vO];rfl
 induction g with
 | zero=>intro l h;exact e 0 l (jbA h)
 | succ g ih =>
  intro l h
  by_cases q:l.length<=1
  ·rw[e _ l q]
   show 1=1+(if l.length<=1 then 0 else _);rw[if_pos q]
  have o:2<=l.length:=vO
  show _=1+(if l.length<=1 then 0 else if 0 < comK l then cntT g (jag (comK l) l)else sumF (fun i=>if (cutL i l).length=0 then 0 else cntT g (jag 1 (cutL i l))) 16);rw[if_neg q]
  by_cases hk:0 < comK l
  ·rw[if_pos hk,jdq _ o hk]
   show 1+cntP (jaW (g+1) (jag (comK l) l))=_;rw[ih _ (jdW h o hk).1]
  ·rw[if_neg hk,jeD _ o hk]
   show 1+sumF (fun i=>cntP (if (cutL i l).length=0 then PA.nil else jaW (g+1) (jag 1 (cutL i l)))) 16=_
   congr 2
   funext i
   by_cases hc:(cutL i l).length=0
   ·rw[if_pos hc,if_pos hc];rfl
   ·rw[if_neg hc,if_neg hc,ih _ (jeL h hc).1]
theorem jjW{l:vL}(h:jsV l):cntT 12 (jaP l)<=118:=by
 have e:=jbm h
 by_cases hn:jaP l=[]
 ·rw[hn];decide
 ·have o:=(juT 12 _ e hn).all
  have q:=h.len;have z:(jaP l).length=l.length:=by unfold jaP;rw[cC]
  omega
theorem jsf(w:vW){S:vT}{l:vL}(h:HasM S l):∃ k,readR S (shaB (jav l).text)=some (jaW 13 (jaP l),k):=by
 have o:=jbm (jau h.ok)
 obtain⟨x,e,z⟩:=h.has _ (jbS _)
 have e:atL S (shaB (jav l).text).data.toList=some x:=e;have q:jbi (jav l).text (jan (jab 12) (jaP l)):=⟨rfl,12,(good 12 _ o).1⟩;unfold readR gHash;rw[e];show ∃ k,jbQ (gRef S) 160 (nodeOf x.2.2.text) 160=_;rw[z,jd9 w (jdd q) q];have E:=jjW (jau h.ok)
 exact⟨_,jpR w S 12 _ o (fun y A _=>h.has y (bC _ A)) 160 160 vO (bM _)⟩
end
end Go.Proofs.YtmobgkphhbmhbaaGreatDoor
