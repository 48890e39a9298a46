/- Lemmas; each is under no condition but those that it states. -/
import Derived.Test.YtepbencaoiompaaGreatDoorPa34
import Derived.Test.YtepbencaoiompaaGreatDoorPa36
namespace Go.Proofs.YtepbencaoiompaaGreatDoor
set_option linter.unusedSimpArgs false
set_option linter.unusedVariables false
set_option maxRecDepth 100000
set_option maxHeartbeats 16000000
open Go Go.RowKit
section
attribute [local go_sem] Oper.semAt_some
theorem Tryz.infoPlc:(Tryz.prog.info? 132).map (fun i=>(i.zero,i.size,i.bytes))=some (some (.agg #[.string ⟨#[]⟩,.string ⟨#[]⟩]),2,32):=vY
theorem Tryz.uPlcs:Tryz.prog.underlying 91=some (.slice 132):=vY
theorem Tryz.sPlcs:jeN Tryz.prog 91 132 2 32:=jeN.mk' Tryz.uPlcs Tryz.infoPlc rfl vI
abbrev LRow(w0 w:vW)(v:vV)(n:Nat)(xs:List Pl):Prop:=ORow 132 2 w0 w v n (jcl xs)
theorem Tryz.allocPlc(w:vW):(Instr.alloc 132 true (.tuple #[])).run Tryz.prog w=.ok (.pointer (some ⟨w.heap.size,0,none⟩)) (w.alloc (.cells [Value.string ⟨#[]⟩,.string ⟨#[]⟩].toArray 132)):=vY
theorem Tryz.szPlc:(Tryz.prog.info? 132).map (·.size)=some 2:=vY
theorem Tryz.isPlc:jgI (Tryz.prog.underlying 132)=true:=vY
theorem jcY(W:vW)(b:Nat)(x y:vB)(hB:Blk W b (.cells [Value.string x,.string y].toArray 132)):(Instr.loadAt 132 (.pointer (some ⟨b,0,none⟩))).run Tryz.prog W=.ok (.agg [Value.string x,.string y].toArray) W:=by
 obtain⟨q,e⟩:=jfY Tryz.isPlc
 exact jel e Tryz.szPlc (fun j v o=>by rw[jhX];exact hB.cellL o)
def plc1(n:jad)(p:vB)(i:Nat):List Pl:=if (n.refs.getD i ⟨#[]⟩).size=0 then []else [((p++n.path)++(if n.kind=3 then nib1 i else ⟨#[]⟩),n.refs.getD i ⟨#[]⟩)]
def belJ(n:jad)(p:vB)(j:Nat):List Pl:=(revJ j).flatMap (plc1 n p)
theorem jgu(n:jad)(p:vB){j:Nat}(h:j < 16):belJ n p (j+1)=belJ n p j++plc1 n p (15 - j):=by
 unfold belJ;rw[jtZ h,dS];simp
theorem jwt(n:jad)(p:vB)(i:Nat):(plc1 n p i).reverse=plc1 n p i:=by unfold plc1;split <;> rfl
theorem jfH(n:jad)(p:vB):belJ n p 16=(jcE n p).reverse:=by
 have:=jpS (plc1 n p) (jwt n p) (List.range 16)
 exact List.reverse_eq_iff.1 this
theorem jc0(n:jad)(p:vB):∀ j,(belJ n p j).length<=j
 | 0=>bL _
 | j+1=>by
  by_cases h:j < 16
  ·have:=jc0 n p j
   rw[jgu n p h,bF]
   have:(plc1 n p (15 - j)).length<=1:=by unfold plc1;split <;> simp
   omega
  ·have e:=jc0 n p j
   have:belJ n p (j+1)=belJ n p j:=by unfold belJ revJ;rw[cD (by simp;omega),cD (by simp;omega)]
   rw[this];omega
theorem jua{w:vW}(m b:Nat)(hB:Blk w b (.cells #[.int .u8 (m:Int)] 5))(hm:m < 16):(convert 42 9 (.slice (some ⟨b,0,none⟩) 1 1)).run Tryz.prog w=.ok (.string (nib1 m)) w:=by
 have e:(m:Int)=((UInt8.ofNat m).toNat:Int):=by rw[joD m vO]
 have o:w.ownsRow 0 5 1 (.slice (some ⟨b,0,none⟩) 1 1) 1 (jaN [UInt8.ofNat m]):=
  ⟨rfl,.inr ⟨_,1,_,rfl,bY _,hB,bL _,by unfold maxLen;omega,rfl,by rw[e];rfl⟩⟩
 exact jbj w Tryz.uBytes Tryz.uU8 Tryz.uStr o
theorem jnw{ops:Array Oper}{rest:List Oper}{d:Option Tmp}{ty:TypeId}{pos:String}{af:Array Edge}{x:Operand}{a:Act}{w:vW}{Q:Exit->Act->vW->Prop}(m b:Nat)(hx:a.eval x=.slice (some ⟨b,0,none⟩) 1 1)(hB:Blk w b (.cells #[.int .u8 (m:Int)] 5))(hm:m < 16)
  (h:wpList Tryz.prog ops Q rest (a.put d (.string (nib1 m))) w):wpList Tryz.prog ops Q (⟨d,.convert 42 9 x,ty,pos,af,none⟩ :: rest) a w:=by
 refine wpList_plain rfl fun K e=>jcD (v:=.string (nib1 m)) (w':=w) ?_ (e _ _ h);simp only[execOp,hx,bS,jua m b hB hm,Result.andThen,cJ]
def jzt(W1:vW)(n:jad)(p:vB)(lv iv:vV)(wr:vW):Prop:=∃ j:Nat,j<=16/\iv=.int .i64 (15 - (j:Int))/\LRow W1 wr lv (belJ n p j).length (belJ n p j)
theorem jx0(W:vW)(n:jad)(hr:n.refs.length=16)(c1:n.path.size<=100)(p:vB)(hp:p.size<=100000) :
  vQ 67 #[n.V,.string p] W fun e w'=>∃ v,e=.returned v/\LRow W w' v (jcE n p).length (jcE n p).reverse:=by
 obtain⟨k,q,E,A⟩:=n
 have hr:A.length=16:=hr;have c1:q.size<=100:=c1;have hl:(jad.cells ⟨k,q,E,A⟩).length=19:=jad.cells_len _ hr;have HL:=Hd hl;have HR:=Hd hr;clear hl hr;unfold jad.V;have e0:(jad.cells ⟨k,q,E,A⟩)[0]?=some (.int .i64 k):=rfl;have e1:(jad.cells ⟨k,q,E,A⟩)[1]?=some (.string q):=rfl;rw[<-fS, <-jfH];go_enter Tryz.func67,Tryz.ntmps67;go_wp2_with fail
 have hE:Ext W (W.alloc (.cells (jad.cells ⟨k,q,E,A⟩).toArray 99)):=(ExtR W).alloc _;have hB:=Blk.new W (.cells (jad.cells ⟨k,q,E,A⟩).toArray 99)
 obtain⟨W1,c2⟩:=vE (W.alloc (.cells (jad.cells ⟨k,q,E,A⟩).toArray 99))
 rw[<-c2]at hE hB ⊢;have HE:=Hd hE;have HB:=Hd hB;clear c2 hE hB;go_loopw [5,6] (fun lv iv wr=>jzt W1 ⟨k,q,E,A⟩ p lv iv wr) (fun _ iv _=>(intOf iv+1).toNat)
 case atStart=>exact⟨0,by omega,rfl,ORow.nil _ _ (ExtR W1)⟩
 case round =>
  obtain⟨j,hj,rfl,hR⟩:=hrel
  by_cases hlt:j < 16
  ·obtain⟨m,hm⟩:=vE (15 - j)
   have a5:(15:Int) - (j:Int)=(m:Int):=vO
   have a0:m < 16:=vO
   rw[a5];have b1:(0:Int)<=(m:Int):=vO
   have b2:¬(m:Int) < 0:=vO
   have b3:(m:Int) < 16:=vO
   have b4:(m:Int).toNat=m:=vO
   have X:=Hd (bB hm a5)
   obtain⟨r,c3⟩:∃ r,A[m]?=some r:=⟨_,bA (by rw[HR.o];exact a0)⟩
   have Z:=Hd c3;have a2:=Hd (HB.o.keeps hR.ext (fun h=>h));have q3:=a2.o.cellL (i:=3+m) (v:=.string r) (by
    show (_ :: _ :: _ :: A.map Value.string)[3+m]?=_;rw[show 3+m=m+1+1+1 by omega];simp[Z.o])
   have H:=Hd hR;clear hm a5 c3 hR
   by_cases hz:r.size=0
   ·obtain rfl:r=⟨#[]⟩:=ja1 hz
    go_wp2_with fail
    go_roundw
    case rel =>
     refine⟨j+1,by omega,by have:=X.o.1;have:=X.o.2;simp;omega,?_⟩
     have e:belJ ⟨k,q,E,A⟩ p (j+1)=belJ ⟨k,q,E,A⟩ p j:=by
      rw[jgu _ p hlt, <-X.o.1];unfold plc1;rw[if_pos (by show (A.getD m ⟨#[]⟩).size=0;rw[bE,Z.o];rfl),bU]
     rw[e];exact H.o
    case measure=>simp[intOf]
   ·have d3:r.toList.isEmpty=false:=by
     rw[bN];cases hd:r.data.toList with
     | nil=>exact absurd (congrArg List.length hd) hz
     | cons x l=>rfl
    have q1:=a2.o.cellL (i:=1) (v:=.string q) e1;have b5:¬(9223372036854775807 < p.size+q.size):=vO
    have a3:=Hd hlt;have HZ:=Hd hz;have HW:Hid (W.heap.size < wr.heap.size):=Hd a2.o.lt;have HX:=Hd (show ¬ wr.heap.size<=W.heap.size by have:=HW.o;omega);have Q1:=Hd q1;have Q3:=Hd q3;clear q1 hlt hz;go_wp2_with fail
    clear q3;refine ja5 [0,1,2,3,4,5,6,7,8,9,10] [9,10] Ext (jag (fun z=>wr.heap.size<=z)) ExtR ExtT (fun x y z h k=>jag.trans h k) (fun x y h=>h.mono (fun _ _ h=>h.elim)) vY vY vY ?_;iterate 2 refine vD ?_
    refine qDL ⟨W.heap.size,1,none⟩ _ rfl (fun w2 h2=>jac Tryz.uStr rfl (jaF (jaa Q1.o (jaq _)) h2 HX.o)) ?_;refine vS ?_;iterate 4 refine vD ?_
    refine qDL ⟨W.heap.size,3+m,none⟩ _ rfl (fun w2 h2=>jac Tryz.uStr rfl (jaF (jaa Q3.o (jaq _)) h2 HX.o)) ?_;refine vS ?_
    refine vD ?_
    refine qDH _ rfl (fun w2 Q K hK=>?_);have a4:=Hd (show Ext wr w2 from(jaq _).trans Q);clear Q;go_simp;refine hK _ _ ((jag.refl _ w2).alloc _) ?_;clear hK K;refine qDH _ rfl (fun w3 Q K hK=>?_);have c4:=(Blk.new w2 (.cells [Value.string ⟨#[]⟩,.string ⟨#[]⟩].toArray 132)).keeps Q (fun h=>h);refine jjn (vs:=[Value.string (p++q),.string r]) rfl rfl rfl c4 rfl Tryz.szPlc (jeq _ _) (fun W4 c5 a6=>?_);refine hK _ _ (a6.mono (fun z _ e=>by have e:z=w2.heap.size:=e;have:=a4.o.size;omega)) ?_;have c6:=Hd (show Ext wr W4 from((a4.o.alloc _).trans Q).trans' a6 (fun z hz e=>by have e:z=w2.heap.size:=e;have:=a4.o.size;omega));have c7:=Hd c5;clear hK K Q c4 c5 a6;refine vS ?_;refine jcA vY (fun w5 Q=>?_);have a7:=Hd (c6.o.trans Q);have J:=Hd (c7.o.keeps Q (fun h=>h));clear Q c6 c7
    obtain⟨pb,c8⟩:=vE w2.heap.size
    have c9:=Hd (show wr.heap.size<=pb by have:=a4.o.size;omega);rw[<-c8]at J ⊢;clear c8;have q0:=jaa (a2.o.cellL (i:=0) e0) a7.o;have a1:=Hd (ORow.mono H.o a7.o)
    by_cases hk:k=3
    ·subst hk
     have q5:=J.o.cell (i:=0) (v:=.string (p++q)) vF;have b7:¬(9223372036854775807 < p.size+q.size+(nib1 m).size):=by show ¬(_ < _+1);omega
     have O:belJ ⟨3,q,E,A⟩ p (j+1)=belJ ⟨3,q,E,A⟩ p j++[((p++q)++nib1 m,r)]:=by
      rw[jgu _ p a3.o, <-X.o.1];unfold plc1;have e:(jad.mk 3 q E A).refs.getD m ⟨#[]⟩=r:=by show A.getD m ⟨#[]⟩=r;rw[bE,Z.o];rfl
      rw[e,if_neg HZ.o,if_pos rfl]
     have a8:=Hd O;have a9:(belJ ⟨3,q,E,A⟩ p j).length+1<=maxLen:=by have:=jc0 ⟨3,q,E,A⟩ p j;unfold maxLen;omega
     have b0:((belJ ⟨3,q,E,A⟩ p j).length+1) * 32<=140737488355328:=by have:=jc0 ⟨3,q,E,A⟩ p j;omega
     have B6:=(J.o.keeps ((ExtR w5).alloc (.cells #[.int .u8 (m:Int)] 5)) (fun h=>h));have q7:=B6.cell (i:=0) (v:=.string (p++q)) vF;have f7:=B6.frozen (i:=0);have d0:=Hd B6;clear O B6;go_wp2_with (first
      |(refine jnw m w5.heap.size rfl (Blk.new w5 _) a0 ?_)
      |(refine jlO rfl pb 0 (.string ((p++q)++nib1 m)) rfl rfl rfl rfl vY q7 f7 ?_
        intro W8 b8;have b9:Blk W8 pb (.cells [Value.string ((p++q)++nib1 m),.string r].toArray 132):=by rw[b8];exact d0.o.set_same _
        have c0:Ext wr W8:=(a7.o.alloc _).trans' (by rw[b8];exact jag.oneSet _ _ _) (fun z hz e=>by have e:z=pb:=e;have:=c9.o;omega);clear b8;have q8:=b9.cell (i:=0) (v:=.string ((p++q)++nib1 m)) vF;have q9:=b9.cell (i:=1) (v:=.string r) vF;have d4:=Hd c0;have d1:=Hd (ORow.mono H.o c0);clear c0 b9)
      |(at_builtin;(refine jba Tryz.sPlcs (ORow.mono d1.o ((ExtR W8).alloc _)) (.tmp 37) (.tmp 39) rfl rfl rfl (ja3 (Blk.new W8 _)) (news:=[.string ((p++q)++nib1 m),.string r]) (jeq _ _) rfl rfl a9 b0 ?_;intro d2 w' r1 r2 r3)))
     go_roundw
     case rel=>exact⟨j+1,by have:=a3.o;omega,by have:=X.o.1;have:=X.o.2;simp;omega,by rw[a8.o,bF];unfold LRow;rw[jbk];exact r1⟩
     case measure=>simp[intOf]
    ·have b6:((k:Int) == 3)=false:=by simpa using (by omega:¬(k:Int)=3)
     have q5:=J.o.cell (i:=0) (v:=.string (p++q)) vF;have q6:=J.o.cell (i:=1) (v:=.string r) vF;have O:belJ ⟨k,q,E,A⟩ p (j+1)=belJ ⟨k,q,E,A⟩ p j++[(p++q,r)]:=by
      rw[jgu _ p a3.o, <-X.o.1];unfold plc1;have e:(jad.mk k q E A).refs.getD m ⟨#[]⟩=r:=by show A.getD m ⟨#[]⟩=r;rw[bE,Z.o];rfl
      rw[e,if_neg HZ.o,if_neg hk,jfG]
     have a8:=Hd O;have a9:(belJ ⟨k,q,E,A⟩ p j).length+1<=maxLen:=by have:=jc0 ⟨k,q,E,A⟩ p j;unfold maxLen;omega
     have b0:((belJ ⟨k,q,E,A⟩ p j).length+1) * 32<=140737488355328:=by have:=jc0 ⟨k,q,E,A⟩ p j;omega
     clear O;go_wp2_with (at_builtin;(refine jba Tryz.sPlcs (ORow.mono a1.o ((ExtR w5).alloc _)) (.tmp 37) (.tmp 39) rfl rfl rfl (ja3 (Blk.new w5 _)) (news:=[.string (p++q),.string r]) (jeq _ _) rfl rfl a9 b0 ?_;intro d2 w' r1 r2 r3))
     go_roundw
     case rel=>exact⟨j+1,by have:=a3.o;omega,by have:=X.o.1;have:=X.o.2;simp;omega,by rw[a8.o,bF];unfold LRow;rw[jbk];exact r1⟩
     case measure=>simp[intOf]
  ·obtain rfl:j=16:=vO
   have b1:(15:Int) - ((16:Nat):Int) = -1:=vO
   rw[b1];have H:=Hd hR;clear hR;go_wp2_with fail
   go_ret
   exact⟨_,rfl,⟨H.o.sl,H.o.own,HE.o.trans H.o.ext,fun b hb=>bH HE.o.size (H.o.new b hb)⟩⟩
theorem jB1(W:vW)(r:vB)(hr:r.size<=100000):vR 65 #[.string r] W (.agg #[.string ⟨#[]⟩,.string (jaz r)]):=by
 go_enter Tryz.func65,Tryz.ntmps65;go_wp2_with (refine jah Tryz.allocPlc rfl rfl ?_;intro O q z)
 refine vC (jcv O r vO) fun X A=>?_;have E:=q.keeps A (fun h=>h);have H:=Hd (z.trans A);clear A q z;go_wp2_with (refine jae (vs:=[Value.string ⟨#[]⟩,.string (jaz r)]) rfl rfl rfl rfl E rfl Tryz.szPlc (jeq _ _) ?_;intro W8 J K)
 have Q:(loadVar 132 ⟨W.heap.size,0,none⟩).run Tryz.prog W8=.ok (.agg [Value.string ⟨#[]⟩,.string (jaz r)].toArray) W8:=by
  have:=jcY W8 _ _ _ J
  simpa [Instr.loadAt,Instr.sureAddr,bS,Result.andThen]using this
 refine bodyPost_ret (jcX rfl rfl Q) rfl ?_
 exact⟨rfl,H.o.trans' K (fun x Z e=>by have e:x=W.heap.size:=e;omega)⟩
theorem jjm{t T:TypeId}{by':Nat}(I:jeN Tryz.prog t T 2 by'){ops:Array Oper}{rest:List Oper}{d:Option Tmp}{ty:TypeId}{pos:String}{af:Array Edge}{a:Act}{w1 w0 w:vW}{Q:Exit->Act->vW->Prop}{s x:Operand}{v pv:vV}{n m N:Nat}{xs:List vV}{ys:vL}
  (hR:ORow T 2 w0 w v n xs) (hP:ORow T 2 w1 w pv m (jcl ys)) (hN:n+m=N) (hs:a.eval s=v) (hx:a.eval x=pv) (h63:N<=1000000) (hb:by'<=1000)
  (h:∀ v' w',ORow T 2 w0 w' v' N (xs++jcl ys)->jag (fun b=>v.ownBlock=some b) w w'->(v'.ownBlock=v.ownBlock\/∀ b,v'.ownBlock=some b->w.heap.size<=b)->wpList Tryz.prog ops Q rest (a.put d v') w') :
  wpList Tryz.prog ops Q (⟨d,.call { callee:=.builtin .append,args:=#[s,x],argTypes:=#[t,t] },ty,pos,af,none⟩ :: rest) a w:=by
 subst hN
 obtain⟨E,⟨rfl,H⟩ |⟨g,o,q,rfl,H,X,Z,h6,h7⟩⟩:=hP.own
 ·subst H
  have z:ys=[]:=by
   rw[jdQ]at E;exact bG vO
  subst z
  obtain⟨ad,c,rfl⟩:=hR.sl
  have A:n<=c:=by
   obtain⟨_,⟨e,e2⟩ |⟨g,o,q,e,_,_,k5,_⟩⟩:=hR.own
   ·omega
   ·obtain⟨_,_,e⟩:=fY e;omega
  refine jjl I hs hx A (h _ _ ?_ (jag.refl _ _) (.inl rfl));simpa [jcl]using hR
 ·exact jba I hR s x rfl hs hx (fun j u J=>hP.own.cells (g:=g) rfl j u J) (fun u K=>by
   obtain⟨y,_,O⟩:=cP.1 K
   exact jeq _ _ u O) (by rw[jdQ]at E ⊢;omega) rfl (by unfold maxLen;omega) (bH (Nat.mul_le_mul_left _ hb) vO) h
def lenV:vV->Nat
 | .slice _ n _=>n
 | _=>0
structure WkR(S:vT)(out Mall:List Pl)(Rall:vL)(W1:World)(mv lv tv:Value)(wr:World)(M0:List Pl)(L0:vL)(ts:List Pl)(k:Nat)(M:List Pl)(R:vL):Prop where
 met:LRow W1 wr mv M0.length M0
 ent:ERow W1 wr lv L0.length L0
 tod:LRow W1 wr tv ts.length ts.reverse
 ap1:∀ b,tv.ownBlock=some b->mv.ownBlock≠some b/\lv.ownBlock≠some b
 ap2:∀ b,mv.ownBlock=some b->lv.ownBlock≠some b
 cnt:k+M0.length=400
 wx:jcq S out k ts M R
 e1:M0++M=Mall
 e2:L0++R=Rall
 tsl:ts.length<=1+16 * M0.length
 lle:L0.length<=M0.length
def jxU(S:vT)(out Mall:List Pl)(Rall:vL)(W1:vW)(mv lv tv:vV)(wr:vW):Prop:=∃ M0 L0 ts k M R,WkR S out Mall Rall W1 mv lv tv wr M0 L0 ts k M R
def jzG(w:vW)(t:Pl)(out:List Pl)(iv:vV)(wr:vW):Prop:=∃ i:Nat,i<=out.length/\iv=.int .i64 i/\Ext w wr/\∀ q∈out.take i,q≠t
theorem jwX{S:vT}{out:List Pl}{k:Nat}{ts M:List Pl}{R:vL}(h:jcq S out k ts M R)(h0:k=0\/ts=[]):M=[]/\R=[]:=by
 cases h with
 | nil=>exact⟨rfl,rfl⟩
 | full=>exact⟨rfl,rfl⟩
 | skip=>rcases h0 with h0 | h0 <;> cases h0
 | no=>rcases h0 with h0 | h0 <;> cases h0
 | go=>rcases h0 with h0 | h0 <;> cases h0
theorem jnR(xs:vL)(n:Nat):(jcl xs).take (n * 2)=jcl (xs.take n):=by
 induction xs generalizing n with
 | nil=>simp[jcl]
 | cons x r ih =>
  cases n with
  | zero=>simp[jcl]
  | succ n =>
   have:=ih n
   unfold jcl at *;rw[dW,cG,cG, <-this,show (n+1) * 2=n * 2+1+1 by omega];rfl
theorem jlx{T:TypeId}{sz:Nat}{w0 w:vW}{a:Option Addr}{n c:Nat}{xs:List vV}(h:ORow T sz w0 w (.slice a n c) n xs):n<=c:=by
 obtain⟨_,⟨e,z⟩ |⟨g,o,q,e,_,_,A,_⟩⟩:=h.own
 ·omega
 ·obtain⟨_,_,e⟩:=fY e;omega
theorem LRow.pop{W1 wr:vW}{g c:Nat}{t:Pl}{ts:List Pl}(h:LRow W1 wr (.slice (some ⟨g,0,none⟩) (t :: ts).length c) (t :: ts).length (t :: ts).reverse):LRow W1 wr (.slice (some ⟨g,0,none⟩) ts.length c) ts.length ts.reverse:=by
 have e:=jpH (m:=ts.length) h.own (by simp);rw[jnR,gI,fX (by simp),cD (by simp)]at e
 exact⟨⟨_,_,rfl⟩,e,h.ext,fun b hb=>h.new b hb⟩
theorem LRow.last{W1 wr:vW}{g c:Nat}{t:Pl}{ts:List Pl}(h:LRow W1 wr (.slice (some ⟨g,0,none⟩) (t :: ts).length c) (t :: ts).length (t :: ts).reverse):wr.cell? ⟨g,ts.length * 2,none⟩=some (.string t.1)/\wr.cell? ⟨g,ts.length * 2+1,none⟩=some (.string t.2):=by
 have e:(t :: ts).reverse[ts.length]?=some t:=by rw[gI,dA (by simp)];simp
 obtain⟨o,q⟩:=jdP _ _ _ e
 exact⟨by rw[h.own.cellAt (ts.length * 2) (by simp only[bO];omega),o],by rw[h.own.cellAt (ts.length * 2+1) (by simp only[bO];omega),q]⟩
theorem jfW{T:TypeId}{sz:Nat}{w0 w:vW}{a:Option Addr}{n c:Nat}{xs:List vV}(h:ORow T sz w0 w (.slice a n c) n xs)(hn:n≠0):∃ g,a=some ⟨g,0,none⟩:=by
 obtain⟨_,⟨e,o⟩ |⟨g,q,z,e,_,_,A,_⟩⟩:=h.own
 ·exact absurd o hn
 ·obtain⟨e,_,_⟩:=fY e;exact⟨g,e⟩
theorem WkR.go{S:vT}{out Mall:List Pl}{Rall:vL}{W1:vW}{mv lv tv mv' lv' tv':vV}{w3 wr:vW}{M0:List Pl}{L0:vL}{t:Pl}{ts:List Pl}{k:Nat}{M M2:List Pl}{R R2:vL}{n:jad}
  (h:WkR S out Mall Rall W1 mv lv tv w3 M0 L0 (t :: ts) (k+1) M R) (e1:M=t :: M2) (e2:R=entN n t.1++R2) (hx:jcq S out k (jcE n t.1++ts) M2 R2)
  (met:LRow W1 wr mv' (M0.length+1) (M0++[t])) {m:Nat} (hm:m=(L0++entN n t.1).length) (ent:ERow W1 wr lv' m (L0++entN n t.1)) {q:Nat} (hq:q=ts.length) (tod:LRow W1 wr tv' (q+(jcE n t.1).length) (ts.reverse++(jcE n t.1).reverse))
  (a1:∀ b,tv'.ownBlock=some b->mv'.ownBlock≠some b) (a2:∀ b,tv'.ownBlock=some b->lv'.ownBlock≠some b) (a3:∀ b,mv'.ownBlock=some b->lv'.ownBlock≠some b):jxU S out Mall Rall W1 mv' lv' tv' wr:=by
 subst hm hq;have hb:(jcE n t.1).length<=16:=by rw[<-fS, <-jfH];exact jc0 n t.1 16
 have o:(entN n t.1).length<=1:=by
  unfold entN keyR;split
  ·exact bY _
  ·split <;> simp
 have e:=h.tsl;have z:=h.cnt;have A:=h.lle;simp only[bO]at e
 refine⟨M0++[t],L0++entN n t.1,jcE n t.1++ts,k,M2,R2,by rw[bF];exact met,ent,?_,fun b hb=>⟨a1 b hb,a2 b hb⟩,a3,by rw[bF];simp;omega,hx,?_,?_,?_,?_⟩
 ·rw[bF,List.reverse_append,gO];exact tod
 ·rw[<-h.e1,e1];simp
 ·rw[<-h.e2,e2];simp
 ·rw[bF,bF];simp;omega
 ·rw[bF,bF];simp;omega
theorem juy{S:vT}{out:List Pl}{k:Nat}{t:Pl}{ts M:List Pl}{R:vL}(h:jcq S out (k+1) (t :: ts) M R)(ht:t∈out):jcq S out (k+1) ts M R:=by
 cases h with
 | skip _ _ _ _ _ _ h=>exact h
 | no _ _ _ _ _ h1=>exact absurd ht h1
 | go _ _ _ _ _ _ h1=>exact absurd ht h1
theorem jzl{S:vT}{out:List Pl}{k:Nat}{t:Pl}{ts M:List Pl}{R:vL}(h:jcq S out (k+1) (t :: ts) M R)(ht:t ∉ out) :
  (jgs S t.2 none/\jcq S out (k+1) ts M R)\/∃ n M' R',M=t :: M'/\R=entN n t.1++R'/\t.1.size<=10000/\jgs S t.2 (some n)/\jcq S out k (jcE n t.1++ts) M' R':=by
 cases h with
 | skip _ _ _ _ _ h1 h=>exact absurd h1 ht
 | no _ _ _ _ _ h1 h2 h=>exact .inl ⟨h2,h⟩
 | go _ _ _ n M' R' h1 h2 h3 h=>exact .inr ⟨n,M',R',rfl,rfl,h2,h3,h⟩
theorem jeu{u v v':vV}{w:vW}(h:∀ b,u.ownBlock=some b->b < w.heap.size)(ha:∀ b,u.ownBlock=some b->v.ownBlock≠some b)(r3:v'.ownBlock=v.ownBlock\/∀ b,v'.ownBlock=some b->w.heap.size<=b):∀ b,u.ownBlock=some b->v'.ownBlock≠some b:=fun b hb e=>by
 rcases r3 with r3 | r3
 ·exact ha b hb (r3 ▸ e)
 ·have:=r3 b e;have:=h b hb;omega
theorem jhC{T:TypeId}{sz:Nat}{w0 w w':vW}{u v:vV}{n:Nat}{xs:List vV}(h:ORow T sz w0 w v n xs)(k:jag (fun b=>u.ownBlock=some b) w w')(ha:∀ b,v.ownBlock=some b->u.ownBlock≠some b)(hn:∀ b,u.ownBlock=some b->w0.heap.size<=b):ORow T sz w0 w' v n xs:=
 h.keeps k (fun b hb e=>ha b hb e) (fun b hb e=>by have:=hn b e;omega)
theorem WkR.pop{S:vT}{out Mall:List Pl}{Rall:vL}{W1:vW}{mv lv:vV}{g c n:Nat}{wr wr':vW}{M0:List Pl}{L0:vL}{t:Pl}{ts:List Pl}{k:Nat}{M:List Pl}{R:vL}
  (h:WkR S out Mall Rall W1 mv lv (.slice (some ⟨g,0,none⟩) (t :: ts).length c) wr M0 L0 (t :: ts) (k+1) M R) (hn:n=ts.length) (hx:jcq S out (k+1) ts M R) (e:Ext wr wr'):jxU S out Mall Rall W1 mv lv (.slice (some ⟨g,0,none⟩) n c) wr':=by
 subst hn;have o:=LRow.pop h.tod
 refine⟨M0,L0,ts,k+1,M,R,ORow.mono h.met e,ORow.mono h.ent e,ORow.mono o e,fun b hb=>h.ap1 b hb,h.ap2,h.cnt,hx,h.e1,h.e2,?_,h.lle⟩
 have:=h.tsl
 simp only[bO]at this;omega
theorem Tryz.plcFields:jhl (Tryz.prog.underlying 132) [(false,9,0),(false,9,1)]=true:=vY
theorem Tryz.plcHeld:Tryz.prog.stoodInHeld 132=false:=vY
theorem jxx(x y x' y':vB)(w:vW):(binOp .eql 132 (.agg #[.string x,.string y]) (.agg #[.string x',.string y'])).run Tryz.prog w=.ok (.bool (x == x' && y == y')) w:=by
 obtain⟨f,g,O,z,A,E,H,J,K⟩:=jyk Tryz.plcFields
 have e:∀ (u v:vV) w,(part 9 #[u,v] 0).run Tryz.prog w=.ok u w:=fun u v w=>by
  simp[part,bS,Tryz.strAgg,Result.andThen,cJ]
 have o:∀ (u v:vV) w,(part 9 #[u,v] 1).run Tryz.prog w=.ok v w:=fun u v w=>by
  simp[part,bS,Tryz.strAgg,Result.andThen,cJ]
 have Q:∀ d,(Op.equalIn (d+2) 132 (.agg #[.string x,.string y]) (.agg #[.string x',.string y'])).run Tryz.prog w=.ok (x == x' && y == y') w:=fun d=>by
  rw[Op.equalIn];simp only[bS,run_underlying O,Result.andThen];simp[bS,Result.andThen,Sem.run,Tryz.plcHeld,z,A,E,H,J,K,e,o,jyi];cases (x == x')with
  | false=>simp[cJ]
  | true =>
   simp[bS,Result.andThen,Sem.run,Tryz.plcHeld,z,A,E,H,J,K,e,o,jyi];cases (y == y') <;> simp[cJ]
 have q:(Op.equal 132 (.agg #[.string x,.string y]) (.agg #[.string x',.string y'])).run Tryz.prog w=.ok (x == x' && y == y') w:=Q 9998;simp only[binOp,bS,q,Result.andThen,cJ]
def jBw(W:vW)(M:List Pl)(R:vL)(e:Ending)(w':vW):Prop:=∃ u v,e=.returned (.tuple #[u,v])/\LRow W w' u M.length M/\ERow W w' v R.length R
theorem jqm(W:vW)(s bm:Nat)(room:Int)(S:vT)(hs:jax W s bm room S)(r:vB)(hr:r.size<=100000)(ov:vV)(out:List Pl)(ho:RdP W ov out)(hol:out.length<=100000){M:List Pl}{R:vL}(hW:jcq S out 400 [(⟨#[]⟩,jaz r)] M R) :
  vQ 39 #[.pointer (some ⟨s,0,none⟩),.string r,ov] W (jBw W M R):=by
 have HS:=Hd hs;have HO:=Hd ho;have HW:=Hd hW
 obtain⟨oa,oc,k5⟩:=ho.sl
 have k6:=Hd hol;subst k5;clear hs ho hW hol;go_enter Tryz.func39,Tryz.ntmps39;go_wp2_with fail
 go_step3;go_wp2_with fail
 refine vH (jB1 W r hr) fun w1 HE=>?_;go_wp2_with fail
 obtain⟨w2,d6⟩:=vE (w1.alloc (.cells #[.string ⟨#[]⟩,.string (jaz r)] 132))
 have h4:=Hd (show Ext W w2 by rw[d6];exact HE.o.alloc _);have h5:LRow W w2 (.slice (some ⟨w1.heap.size,0,none⟩) 1 1) 1 [(⟨#[]⟩,jaz r)]:=by rw[d6];exact ORow.lit #[.string ⟨#[]⟩,.string (jaz r)] HE.o vI rfl
 rw[<-d6];clear d6;have k7:=Hd h5;clear h5;go_step3;go_wp2_with fail
 go_loopw [8,9,10] (fun mv lv tv wr=>jxU S out M R W mv lv tv wr) (fun mv _ tv _=>(400 - lenV mv) * 18+lenV tv)
 case atStart =>
  exact⟨[],[],[(⟨#[]⟩,jaz r)],400,M,R,ORow.nil _ _ h4.o,ORow.nil _ _ h4.o,k7.o,(by intro b hb;constructor <;> intro e <;> cases e),(by intro b hb;cases hb),rfl,HW.o,rfl,rfl,by simp,bL _⟩
 case round =>
  obtain⟨w3,k8⟩:=vE wr
  subst k8
  obtain⟨Z,L0,ts,k,M',R',hK⟩:=hrel
  obtain⟨ma,mc,rfl⟩:=hK.met.sl
  obtain⟨la,lc,rfl⟩:=hK.ent.sl
  obtain⟨ta,c,rfl⟩:=hK.tod.sl
  have A:=Hd hK;have m5:=hK.cnt;clear hK
  by_cases hend:k=0\/ts=[]
  ·have hz:=jwX A.o.wx hend
   have hM:Z=M:=by have:=A.o.e1;rw[hz.1,bU]at this;exact this
   have hR:L0=R:=by have:=A.o.e2;rw[hz.2,bU]at this;exact this
   have HF:=Hd (show LRow W w3 (.slice ma Z.length mc) M.length M/\ERow W w3 (.slice la L0.length lc) R.length R by rw[<-hM, <-hR];exact⟨A.o.met,A.o.ent⟩);clear hz hM hR
   by_cases hts:ts.length=0
   ·rw[hts]
    go_wp2_with fail
    go_ret2
    exact⟨_,_,rfl,HF.o.1,HF.o.2⟩
   ·have c1:(0:Int) < (ts.length:Int):=vO
    have c2:¬(Z.length:Int) < 400:=by
     rcases hend with h | h
     ·omega
     ·rw[h]at hts;exact absurd rfl hts
    go_wp2_with fail
    go_ret2
    exact⟨_,_,rfl,HF.o.1,HF.o.2⟩
  ·obtain⟨k,rfl⟩:∃ k',k=k'+1:=⟨k - 1,by omega⟩
   obtain⟨t,ts,rfl⟩:∃ t ts',ts=t :: ts':=by
    cases ts with
    | nil=>exact absurd (.inr rfl) hend
    | cons t ts=>exact⟨t,ts,rfl⟩
   obtain⟨g,rfl⟩:=jfW A.o.tod (by simp)
   clear hend
   obtain⟨n,hn⟩:=vE ts.length
   have HN:=Hd hn;have hl:(t :: ts).length=n+1:=by rw[hn];rfl
   rw[hl];have c1:(0:Int) < (n:Int)+1:=vO
   have c2:(Z.length:Int) < 400:=vO
   have m7:n<=10000:=by have:=A.o.tsl;rw[hl]at this;omega
   have H:=A.o.tod;rw[hl]at H;have k4:=Hd H;clear hn hl
   obtain⟨p,x⟩:=t
   have hq:=by
    have h:=H;rw[HN.o]at h;exact LRow.last (t:=(p,x)) h
   rw[<-HN.o]at hq
   obtain⟨q1,q2⟩:=hq
   have c3:(n:Int)<=(c:Int):=by have:=jlx H;omega
   clear H;go_wp2_with (refine jah Tryz.allocPlc rfl rfl ?_;intro W5 h6 h7;refine jae (vs:=[Value.string p,.string x]) rfl rfl rfl rfl h6 rfl Tryz.szPlc (jeq _ _) ?_;intro W6 h8 h9)
   have d9:Hid (Ext w3 W6):=(h7.trans' h9 (fun z hz e=>by have e:z=w3.heap.size:=e;omega));have i0:=Hd h8;have e0:=Hd (bL w3.heap.size);clear h6 h7 h8 h9 q1 q2
   obtain⟨pb,i1⟩:=vE w3.heap.size
   rw[<-i1]at i0 ⊢;have e0:=Hd (show w3.heap.size<=pb by omega);clear i1;go_loopw [42] (fun iv w7=>jzG W6 (p,x) out iv w7) (fun iv _=>out.length - (intOf iv).toNat)
   case atStart=>exact⟨0,bY _,rfl,ExtR W6,by simp⟩
   case round =>
    obtain⟨w7,k9⟩:=vE wr
    subst k9
    obtain⟨i,hi,rfl,e3,b8⟩:=hrel
    have b5:=Hd e3;have a8:=Hd b8;have b6:=Hd (i0.o.keeps e3 (fun h=>h));clear e3 b8
    by_cases hlt:i < out.length
    ·have d1:(i:Int) < (out.length:Int):=vO
     obtain⟨q,hq⟩:∃ q,out[i]?=some q:=⟨_,bA hlt⟩
     have m8:i<=100000:=by have:=k6.o;omega
     rcases HO.o with⟨_,_,_,h0⟩ |⟨b,o,c',hh,hb,hc,hcell⟩
     ·rw[h0]at hlt;cases hlt
     cases hh
     obtain⟨q1,q2⟩:=hcell i q hq
     have e4:=(A.o.met.ext.trans d9.o).trans b5.o;have q1:=jaa q1 e4;have q2:=jaa q2 e4;have HQ:=Hd hq;clear hcell hb hc e4 hq
     obtain⟨qa,qb⟩:=q
     have i2:=Hd hlt;clear hlt
     by_cases he:qa=p/\qb=x
     ·obtain⟨rfl,rfl⟩:=he
      have e5:∀ w,(binOp .eql 132 (.agg #[.string qa,.string qb]) (.agg #[.string qa,.string qb])).run Tryz.prog w=.ok (.bool true) w:=fun w=>by rw[jxx,jhN,jhN];simp
      go_wp2_with (first
       |(refine jah Tryz.allocPlc rfl rfl ?_;intro W8 e6 e7;refine jae (vs:=[Value.string qa,.string qb]) rfl rfl rfl rfl e6 rfl Tryz.szPlc (jeq _ _) ?_;intro W9 O Q;have a7:Ext w7 W9:=e7.trans' Q (fun z hz e=>by have e:z=w7.heap.size:=e;omega);have a9:=Hd (b6.o.keeps a7 (fun h=>h)))
       |(refine jaf 132 (.tmp 11) rfl rfl _ _ rfl (jcY W9 pb qa qb a9.o) ?_)
       |(refine jaf 132 (.tmp 13) rfl rfl _ _ rfl (jcY W9 _ qa qb O) ?_)
       |(refine jhS (.tmp 46) (.tmp 47) rfl rfl _ _ _ rfl rfl vY (e5 _) ?_))
      refine vS ?_;have e8:=Hd ((d9.o.trans b5.o).trans a7);clear a7;go_roundw
      case rel=>exact WkR.pop A.o HN.o (juy A.o.wx (bJ HQ.o)) e8.o
      case measure=>simp[lenV]
     ·have e5:∀ w,(binOp .eql 132 (.agg #[.string p,.string x]) (.agg #[.string qa,.string qb])).run Tryz.prog w=.ok (.bool false) w:=fun w=>by
       rw[jxx,jhN,jhN]
       have:(decide (p=qa) && decide (x=qb))=false:=by
        rw[Bool.and_eq_false_iff]
        by_cases h1:p=qa
        ·right;exact decide_eq_false fun h2=>he ⟨h1.symm,h2.symm⟩
        ·left;exact decide_eq_false h1
       rw[this]
      have l0:=Hd he;clear he;go_wp2_with (first
       |(refine jah Tryz.allocPlc rfl rfl ?_;intro W8 e6 e7;refine jae (vs:=[Value.string qa,.string qb]) rfl rfl rfl rfl e6 rfl Tryz.szPlc (jeq _ _) ?_;intro W9 O Q;have a7:Ext w7 W9:=e7.trans' Q (fun z hz e=>by have e:z=w7.heap.size:=e;omega);have a9:=Hd (b6.o.keeps a7 (fun h=>h)))
       |(refine jaf 132 (.tmp 11) rfl rfl _ _ rfl (jcY W9 pb p x a9.o) ?_)
       |(refine jaf 132 (.tmp 13) rfl rfl _ _ rfl (jcY W9 _ qa qb O) ?_)
       |(refine jhS (.tmp 46) (.tmp 47) rfl rfl _ _ _ rfl rfl vY (e5 _) ?_))
      have e8:=Hd (b5.o.trans a7);clear a7;go_roundw
      case rel=>exact⟨i+1,by have:=i2.o;omega,by go_num,e8.o,by
       rw[cE,HQ.o];intro y hy;rcases bT.1 hy with hy | hy
       ·exact a8.o y hy
       ·simp at hy;rw[hy];exact fun e=>l0.o ⟨congrArg Prod.fst e,congrArg Prod.snd e⟩⟩
      case measure=>have:=i2.o;simp[intOf];omega
    ·obtain rfl:i=out.length:=vO
     have d1:¬(out.length:Int) < (out.length:Int):=vO
     have c0:(p,x) ∉ out:=fun hm=>a8.o (p,x) (by rw[cF];exact hm) rfl;have g0:=Hd c0;have e9:=Hd (d9.o.trans b5.o);have i3:=Hd (HS.o.ext (A.o.met.ext.trans e9.o));have q4:=b6.o.cell (i:=1) (v:=.string x) vF;clear c0 hi a8 b5;rcases jzl A.o.wx g0.o with⟨hR,hx⟩ |⟨nd,M2,R2,e1,e2,i4,hR,hx⟩
     ·have HR:=Hd hR
      have b7:=Hd hx;clear hR hx;go_wp2_with fail
      refine vH (jmf w7 s bm room S i3.o HR.o) fun W8 hE=>?_;have d7:=Hd (e9.o.trans hE);unfold jad.V;go_wp2_with (refine jah Tryz.allocNode rfl rfl ?_;intro W9 O Q;refine jae (vs:=jak.cells) rfl rfl rfl rfl O rfl Tryz.szNode jak.one ?_;intro J a3 a0)
      have a1:=Hd (d7.o.trans (Q.trans' a0 (fun z hz e=>by have e:z=W8.heap.size:=e;omega)));clear O Q a3 a0;refine (jfP J).mono ?_;rintro e l1 ⟨rfl,rfl⟩;go_wp2_with fail
      go_roundw
      case rel=>exact WkR.pop A.o HN.o b7.o a1.o
      case measure=>simp[lenV]
     ·obtain⟨dg,hg⟩:=hR.good
      have b0:=hg.one (inlP dg);have m9:=b0.path;have f0:=b0.refs;have i4:p.size<=10000:=i4;have i5:=Hd f0;have c4:=Hd (nd.cells_len f0);have HR:=Hd hR;have b7:=Hd hx;have f8:=Hd e1;have b1:=Hd e2;clear hR hx e1 e2 hg b0 f0;go_wp2_with fail
      refine vC (jo6 w7 s bm room S i3.o HR.o) fun W8 hE=>?_;have d7:=Hd (e9.o.trans hE);have i6:=Hd (b6.o.keeps hE (fun h=>h));clear hE q4;unfold jad.V;go_wp2_with (refine jah Tryz.allocNode rfl rfl ?_;intro W9 O Q;refine jae (vs:=nd.cells) rfl rfl rfl rfl O (by rw[c4.o];rfl) (by rw[c4.o];exact Tryz.szNode) nd.one ?_;intro J a3 a0)
      have b2:Ext W8 J:=Q.trans' a0 (fun z hz e=>by have e:z=W8.heap.size:=e;omega);have a1:=Hd (d7.o.trans b2);have c5:=Hd (i6.o.keeps b2 (fun h=>h));have c6:=Hd a3;clear O Q a3 a0 b2 i6 b6
      obtain⟨nb,i7⟩:=vE W8.heap.size
      have c7:=Hd (show w3.heap.size<=nb by have:=d7.o.size;omega);rw[<-i7]at c6 ⊢;clear i7;refine (jfq J).mono ?_;rintro e l1 ⟨rfl,rfl⟩
      -- met
      have l2:Z.length+1<=maxLen:=by unfold maxLen;omega
      have l3:(Z.length+1) * 32<=140737488355328:=vO
      have l4:=Hd (ORow.mono A.o.met a1.o);have i8:=Hd (ORow.mono A.o.ent a1.o);have i9:LRow W w3 (.slice (some ⟨g,0,none⟩) n c) n ts.reverse:=by have:=LRow.pop A.o.tod;rw[<-HN.o]at this;exact this
      have j0:=Hd (ORow.mono i9 a1.o);clear i9;have j1:Hid (∀ z,w3.heap.size<=z->¬(Value.slice ma Z.length mc).ownBlock=some z):=(fun z hz e=>by have:=A.o.met.lt z e;omega);go_wp2_with (first
       |(refine jaf 132 (.tmp 11) rfl rfl _ _ rfl (jcY J pb p x c5.o) ?_)
       |(at_builtin;(refine jba Tryz.sPlcs (ORow.mono l4.o ((ExtR J).alloc _)) (.tmp 60) (.tmp 62) rfl rfl rfl (ja3 (Blk.new J _)) (news:=[.string p,.string x]) (jeq _ _) rfl rfl l2 l3 ?_;intro n0 j2 r1 X r3;have c8:=Hd ((c6.o.alloc _).keeps X (j1.o _ c7.o));have c9:=Hd ((c5.o.alloc _).keeps X (j1.o _ e0.o));have g2:=Hd (jhC (ORow.mono j0.o ((ExtR J).alloc _)) X (fun b hb=>(A.o.ap1 b hb).1) A.o.met.new);have g4:=Hd (jhC (ORow.mono i8.o ((ExtR J).alloc _)) X (fun b hb e=>A.o.ap2 b e hb) A.o.met.new);have j3:=Hd (jeu (ORow.mono j0.o ((ExtR J).alloc _)).lt (fun b hb=>(A.o.ap1 b hb).1) r3);have d8:=Hd (jeu (ORow.mono i8.o ((ExtR J).alloc _)).lt (fun b hb e=>A.o.ap2 b e hb) r3);have g5:=Hd r1;have l5:=c9.o.cell (i:=0) (v:=.string p) vF;obtain⟨j4,j5,rfl⟩:=r1.sl;clear r1 X r3))
       |(refine jaf 99 (.tmp 14) rfl rfl _ _ rfl (jas j2 nb nd i5.o c8.o) ?_))
      refine (jx0 j2 nd i5.o vO p vO).mono ?_;rintro e j6 ⟨bv,rfl,a4⟩;have l6:(jcE nd p).length<=16:=by rw[<-fS, <-jfH];exact jc0 nd p 16
      obtain⟨q,hq⟩:=vE (n+(jcE nd p).length)
      have HQ:=Hd hq;have m6:=Hd a4.ext;have j7:=Hd a4;have j8:q<=1000000:=vO
      have j9:Hid (∀ z,w3.heap.size<=z->¬(Value.slice (some ⟨g,0,none⟩) n c).ownBlock=some z):=(fun z hz e=>by have:=A.o.tod.lt z e;omega);have d0:=Hd (ORow.mono g5.o a4.ext);have d2:=Hd (ORow.mono g4.o a4.ext);have d3:=Hd (ORow.mono g2.o a4.ext);have g6:=Hd (c8.o.keeps a4.ext (fun h=>h));have g7:=Hd (c9.o.keeps a4.ext (fun h=>h));clear a4 hq l6 l5;have d4:∀ (K:vV) (E:vW),ORow 132 2 W E K q (jcl ts.reverse++jcl (jcE nd p).reverse)->jag (fun b=>(Value.slice (some ⟨g,0,none⟩) n c).ownBlock=some b) j6 E->(K.ownBlock=(Value.slice (some ⟨g,0,none⟩) n c).ownBlock\/∀ b,K.ownBlock=some b->j6.heap.size<=b) ->
        LRow W E (.slice j4 (Z.length+1) j5) (Z.length+1) (Z++[(p,x)])/\ERow W E (.slice la L0.length lc) L0.length L0/\LRow W E K q (ts.reverse++(jcE nd p).reverse)/\(∀ b,K.ownBlock=some b->(Value.slice j4 (Z.length+1) j5).ownBlock≠some b)/\(∀ b,K.ownBlock=some b->(Value.slice la L0.length lc).ownBlock≠some b)/\Blk E nb (.cells nd.cells.toArray 99)/\Blk E pb (.cells [Value.string p,.string x].toArray 132):=fun K E r1 X r3=>by
       refine⟨?_,jhC d2.o X (fun b hb e=>(A.o.ap1 b e).2 hb) A.o.tod.new,?_,?_,?_,g6.o.keeps X (j9.o _ c7.o),g7.o.keeps X (j9.o _ e0.o)⟩
       ·have:=jhC d0.o X (fun b hb e=>j3.o b e hb) A.o.tod.new
        unfold LRow;rw[jbk];exact this
       ·unfold LRow;rw[jbk];exact r1
       ·exact fun b hb e=>jeu d0.o.lt (fun b hb e=>j3.o b e hb) r3 b e hb
       ·exact fun b hb e=>jeu d2.o.lt (fun b hb e=>(A.o.ap1 b e).2 hb) r3 b e hb
      have d5:=Hd d4;clear d4
      by_cases hv:nd.value.size=0
      ·have l7:nd.value.toList.isEmpty=true:=by
        rw[bN]
        have:nd.value.data.toList=[]:=bG hv
        rw[this];rfl
       have a5:entN nd p=[]:=by unfold entN;rw[if_pos hv]
       have a6:=Hd a5;clear a5 hv;go_wp2_with (refine jjm Tryz.sPlcs d3.o j7.o HQ.o.symm rfl rfl j8 vI ?_;intro K E r1 X r3;obtain⟨f1,f2,f3,f4,f5,f6,f7⟩:=d5.o K E r1 X r3;have k0:=f6.cellL (i:=2) (v:=.string nd.value) rfl;have HF:=Hd (bB f1 (bB f2 (bB f3 (bB f4 f5))));obtain⟨l8,l9,rfl⟩:=r1.sl;clear r1 X r3 f1 f2 f3 f4 f5 f6 f7)
       go_roundw
       case rel =>
        obtain⟨f1,f2,f3,f4,f5⟩:=HF.o
        exact WkR.go A.o f8.o b1.o b7.o f1 (show L0.length=(L0++entN nd p).length by rw[a6.o,bU]) (by rw[a6.o,bU];exact f2) HN.o (by rw[<-HQ.o];exact f3) f4 f5 (fun b hb e=>d8.o b e hb)
       case measure =>
        have:=HQ.o
        have:(jcE nd p).length<=16:=by rw[<-fS, <-jfH];exact jc0 nd p 16
        show (400 - (Z.length+1)) * 18+q < (400 - Z.length) * 18+(n+1);omega
      ·have l7:nd.value.toList.isEmpty=false:=by
        rw[bN];cases hd:nd.value.data.toList with
        | nil=>exact absurd (congrArg List.length hd) hv
        | cons x l=>rfl
       have b9:¬(9223372036854775807 < p.size+nd.path.size):=vO
       have g8:(p++nd.path).size<=1000000:=by rw[cC];omega
       have HV:=Hd hv;clear hv;go_wp2_with (refine jjm Tryz.sPlcs d3.o j7.o HQ.o.symm rfl rfl j8 vI ?_;intro K E r1 X r3;obtain⟨f1,f2,f3,f4,f5,f6,f7⟩:=d5.o K E r1 X r3;have k0:=f6.cellL (i:=2) (v:=.string nd.value) rfl;have m0:=f6.cellL (i:=1) (v:=.string nd.path) rfl;have m1:=f7.cell (i:=0) (v:=.string p) vF;have HF:=Hd (bB f1 (bB f2 (bB f3 (bB f4 f5))));have g9:=Hd f6;obtain⟨l8,l9,rfl⟩:=r1.sl;clear r1 X r3 f1 f2 f3 f4 f5 f6 f7)
       refine vC (js0 E (p++nd.path) g8) fun f9 b3=>?_;unfold keyV;have a2:=Hd b3;have n1:=(g9.o.keeps b3 (fun h=>h)).cellL (i:=2) (v:=.string nd.value) rfl;clear b3 k0 m0 m1;cases hko:jdt (p++nd.path)with
       | false =>
        have a5:entN nd p=[]:=by unfold entN keyR;rw[if_neg HV.o,if_neg (by rw[hko];exact Bool.false_ne_true)]
        have a6:=Hd a5;clear a5 hko;go_wp2_with fail
        go_roundw
        case rel =>
         obtain⟨f1,f2,f3,f4,f5⟩:=HF.o
         exact WkR.go A.o f8.o b1.o b7.o (ORow.mono f1 a2.o) (show L0.length=(L0++entN nd p).length by rw[a6.o,bU]) (by rw[a6.o,bU];exact ORow.mono f2 a2.o) HN.o (by rw[<-HQ.o];exact ORow.mono f3 a2.o) f4 f5 (fun b hb e=>d8.o b e hb)
        case measure =>
         have:=HQ.o
         have:(jcE nd p).length<=16:=by rw[<-fS, <-jfH];exact jc0 nd p 16
         show (400 - (Z.length+1)) * 18+q < (400 - Z.length) * 18+(n+1);omega
       | true =>
        have a5:entN nd p=[(jbC (p++nd.path),nd.value)]:=by unfold entN keyR;rw[if_neg HV.o,if_pos hko]
        have a6:=Hd a5;clear a5 hko
        obtain⟨k1,b4⟩:=vE (jbC (p++nd.path))
        have h3:=Hd b4;have n2:L0.length<=400:=by have:=A.o.lle;omega
        have m2:L0.length+1<=maxLen:=by unfold maxLen;omega
        have m3:(L0.length+1) * 32<=140737488355328:=vO
        rw[if_pos rfl, <-b4];clear b4;go_wp2_with (at_builtin;(refine jba Tryz.sEnts (ORow.mono (ORow.mono HF.o.2.1 a2.o) ((ExtR f9).alloc _)) (.tmp 83) (.tmp 88) rfl rfl rfl (ja3 (Blk.new f9 _)) (news:=[.string k1,.string nd.value]) (jeq _ _) rfl rfl m2 m3 ?_;intro n3 n4 r1 X r3))
        have m4:=Hd r1;have k2:=Hd X;have k3:=Hd r3
        obtain⟨n5,n6,rfl⟩:=r1.sl
        clear r1 X r3;go_roundw
        case rel =>
         obtain⟨f1,f2,f3,f4,f5⟩:=HF.o
         have hx:=a2.o.trans ((ExtR f9).alloc (.cells #[.string k1,.string nd.value] 53));have g1:=jhC (ORow.mono f1 hx) k2.o (fun b hb e=>d8.o b e hb) f2.new;have g3:=jhC (ORow.mono f3 hx) k2.o (fun b hb e=>f5 b hb e) f2.new;refine WkR.go A.o f8.o b1.o b7.o g1 (m:=L0.length+1) (by rw[a6.o,bF];rfl) (by rw[a6.o];unfold ERow;rw[jbk, <-h3.o];exact m4.o) HN.o (by rw[<-HQ.o];exact g3) f4 ?_ ?_
         ·exact jeu (ORow.mono f3 hx).lt f5 k3.o
         ·exact jeu (ORow.mono f1 hx).lt (fun b hb e=>d8.o b e hb) k3.o
        case measure =>
         have:=HQ.o
         have:(jcE nd p).length<=16:=by rw[<-fS, <-jfH];exact jc0 nd p 16
         show (400 - (Z.length+1)) * 18+q < (400 - Z.length) * 18+(n+1);omega
end
def rowE(e:Pair):Pair:=(jaM e.1,e.2)
theorem jod(e:Pair):keyE (rowE e)=e:=by unfold keyE rowE;rw[jfR]
theorem jnC(l:vL):absP ⟨#[]⟩ l=l:=by
 unfold absP
 conv=>rhs;rw[<-List.map_id l]
 exact dF fun q _=>by rw[jpC];rfl
theorem jyT(x:vB):preB ⟨#[]⟩ x=true:=(jdg _ _).2 ⟨x.data.toList,rfl⟩
theorem jt8{e:Pair}{l:vL}:rowE e∈jaO l↔e∈l:=by
 constructor
 ·intro h
  obtain⟨p,o,h⟩:=bI.1 h
  have:=congrArg keyE h
  rw[show ((jaM p.1,p.2):Pair)=rowE p from rfl,jod,jod]at this;rw[<-this];exact o
 ·exact fun h=>bI.2 ⟨e,h,rfl⟩
theorem jp9{l:vL}(h:jaD l=0)(out:List Pl):jnm out l=l.filter fun e => !je0 (metT [] l) out (jaM e.1):=by
 have z:=jbt (jaE h);have q:metT [] l=topP l ::(jcr ⟨#[]⟩ (jaO l)).flatMap fun k=>metF [] 12 k.1 k.2:=by unfold metT;rw[if_neg (cH)]
 unfold jnm
 by_cases ho:topP l∈out
 ·rw[if_pos ho,eq_comm,gX]
  intro e A;rw[q,jf0,show (topP l).1=⟨#[]⟩from rfl,jyT];simp[ho]
 ·rw[if_neg ho,jmR (f:=11) out ⟨#[]⟩ z (joB out 11),jnC]
  have o:∀ P:Pair->Bool,(((jaO l).filter P).map keyE)=l.filter fun e=>P (rowE e):=fun P=>by
   show (((l.map rowE).filter P).map keyE)=_;rw[List.filter_map,dL];rw[dF (f:=keyE ∘ rowE) (g:=id) fun e _=>jod e,List.map_id];rfl
  rw[o];refine List.filter_congr fun e A=>?_;rw[q,jf0,decide_eq_false ho];rfl
theorem jtk{l:vL}(h:jaD l=0){q:Pl}(e:q∈metT [] l):q=topP l\/(0 < q.1.size/\∃ m,jkt 12 ⟨#[]⟩ (jaO l) q m):=by
 have z:=jbt (jaE h);unfold metT at e;rw[if_neg (cH)]at e;rcases bM.1 e with e | e
 ·exact .inl e
 ·obtain⟨k,A,e⟩:=cP.1 e
  have o:=jgl (f:=11) z k A
  obtain⟨m,E⟩:=jws 11 _ _ o.rows o.ne q e
  refine .inr ⟨?_,m,jmC (f:=11) z A e E⟩;have H:=jlm (jk7 11 _ _ o.rows q e);have J:=o.more;have K:(⟨#[]⟩:vB).size=0:=rfl;omega
theorem jqX{f g:Nat}{l m:vL}(q:jav f l)(hm:jav g m){U:vM}(hU:InjL U)(h1:∀ x∈jau (jab (f+1) l),32<=x.size->x∈U)(h2:∀ x∈jau (jab (g+1) m),32<=x.size->x∈U) :
  jjz (jaH (jbG (jab (f+1) l))) (jaH (jbG (jab (g+1) m))):=by
 have o:∀ {f:Nat} {l:vL},jav f l->(∀ x∈jau (jab (f+1) l),32<=x.size->x∈U)->∀ x∈jaH (jbG (jab (f+1) l)),x∈U:=fun {f l} q h x e=>by
  by_cases hz:(jab (f+1) l).text.size < 32
  ·unfold jbG at e
   rw[if_pos hz]at e;cases e
  ·rw[jgH hz]at e
   refine h x e ?_;rcases jvz q e with rfl | h
   ·omega
   ·exact h
 exact fun x e y z=>hU x (o q h1 x e) y (o hm h2 y z)
theorem jwz(w:vW){l m:vL}(hl:jav 12 l)(hm:jav 12 m)(nl:l≠[])(nm:m≠[]){U:vM}(hU:InjL U)(h1:∀ x∈jau (jab 13 l),32<=x.size->x∈U)(h2:∀ x∈jau (jab 13 m),32<=x.size->x∈U)(h:refT l=refT m):l=m:=by
 obtain⟨e,o⟩:=jjd ((good 12 l hl).2.1 nl) ((good 12 m hm).2.1 nm) h (jqX hl hm hU h1 h2)
 exact jmU w 12 l m hl hm o e
theorem jqn(w:vW){a b:vL}(ha:jaD a=0)(hb:jaD b=0){U:vM}(hU:InjL U)(h1:∀ x∈jau (jay a),x∈U)(h2:∀ x∈jau (jay b),x∈U){e:Pair}(h:je0 (metT [] a) (metT [] b) (jaM e.1)=true)(he:e∈a):e∈b:=by
 obtain⟨q,H,h⟩:=fQ.1 h
 obtain⟨A,J⟩:q∈metT [] b/\preB q.1 (jaM e.1)=true:=by
  have:=iH.1 h
  exact⟨of_decide_eq_true this.1,this.2⟩
 rcases jtk ha H with e1 |⟨e1,m,hm⟩ <;> rcases jtk hb A with e2 |⟨e2,n,hn⟩
 ·have K:(topP a).2=(topP b).2:=by rw[<-e1, <-e2]
  have O:shaB (jay a).text=shaB (jay b).text:=jkq (jbb _) (jbb _) K
  have:=hU _ (h1 _ (jbE _)) _ (h2 _ (jbE _)) O
  rw[<-jwO w ha hb (fun x z y Q=>hU x (h1 x z) y (h2 y Q)) this];exact he
 ·rw[e1]at e2;exact absurd e2 (iO 0)
 ·rw[e2]at e1;exact absurd e1 (iO 0)
 ·have:m=n:=jwz w hm.rows hn.rows hm.ne hn.ne hU (fun x z o=>h1 x (hm.text x z o)) (fun x z o=>h2 x (hn.text x z o)) (hm.ref.symm.trans hn.ref)
  subst this;have X:=hm.down (rowE e) (by rw[jnC];exact jt8.2 he) J;have E:=hn.up _ X;rw[jnC]at E;exact jt8.1 E
theorem jqo(A B:List Pl)(e:vB):je0 A B e=je0 B A e:=by
 unfold je0;rw[iU,fQ,fQ];constructor <;>
 ·rintro⟨q,o,h⟩
  have:=iH.1 h
  exact⟨q,of_decide_eq_true this.1,by rw[iH];exact⟨decide_eq_true o,this.2⟩⟩
theorem jvY(x:vB):jb0 x x=false:=cU.2 fun h=>lt_irrefl _ ((jbS _ _).1 h)
theorem js7(x y:vB)(h:jb0 x y=true):jb0 y x=false:=cU.2 fun k=>jmL _ _ ((jbS _ _).1 h) ((jbS _ _).1 k)
theorem jq4(x y z:vB)(h:jb0 x y=true)(k:jb0 y z=true):jb0 x z=true:=(jbS _ _).2 (jd5 _ _ _ ((jbS _ _).1 h) ((jbS _ _).1 k))
theorem jyC(x y:vB)(h:jb0 x y=false)(k:jb0 y x=false):x=y:=by
 rcases jj5 x.data.toList y.data.toList with h1 | h1 | h1
 ·rw[(jbS _ _).2 h1]at h;cases h
 ·exact jck h1
 ·rw[(jbS _ _).2 h1]at k;cases k
theorem jnh{l:vL}(h:jaD l=0):jlT l:=(jaE h).rise.imp fun {p q} h=>(jbS _ _).2 h
theorem jee{l:vL}(h:jaD l=0)(P:Pair->Bool):jaD (l.filter P)=0:=
 jpG (fun p e=>jok h p (cN.1 e).1) ((jaE h).rise.filter _) (bH (fE _ _) (jaE h).len)
theorem jwe(w:vW){a b:vL}(ha:jaD a=0)(hb:jaD b=0){U:vM}(hU:InjL U)(h1:∀ x∈jau (jay a),x∈U)(h2:∀ x∈jau (jay b),x∈U) :
  jaD (jnm (metT [] b) a)=0/\jaD (jnm (metT [] a) b)=0/\jdz (jnm (metT [] b) a) (jnm (metT [] a) b)=jdz a b:=by
 rw[jp9 ha,jp9 hb]
 refine⟨jee ha _,jee hb _,?_⟩
 unfold jdz;rw[if_pos ⟨jee ha _,jee hb _⟩,if_pos ⟨ha,hb⟩];rw[show (fun e:Pair => !je0 (metT [] b) (metT [] a) (jaM e.1))=fun e:Pair => !je0 (metT [] a) (metT [] b) (jaM e.1) by funext e;rw[jqo]];exact jsu jvY js7 jq4 jyC (fun e=>je0 (metT [] a) (metT [] b) (jaM e.1)) a b (jnh ha) (jnh hb) fun e o =>
  ⟨jqn w ha hb hU h1 h2 o,jqn w hb ha hU h2 h1 (by rw[jqo];exact o)⟩
inductive jci (S:vT) (out:vM):vM->vM->vM->Prop
 | nil (L:vM):jci S out L [] L
 | seen (L:vM) (h:vB) (hs R:vM):(h∈L\/h∈out)->jci S out L hs R->jci S out L (h :: hs) R
 | no (L:vM) (h:vB) (hs R:vM):h ∉ L->h ∉ out->h.size=32->atL S h.data.toList=none->jci S out L hs R->jci S out L (h :: hs) R
 | go (L:vM) (h:vB) (hs:vM) (y:Nd5) (n:jad) (R:vM):h ∉ L->h ∉ out->h.size=32->L.length+1<=S.length->atL S h.data.toList=some y->jbc y.2.2.text n->jci S out (L++[h]) ((jaK n).reverse++hs) R->jci S out L (h :: hs) R
theorem jsS{d:Nat}{n:jad}(hg:jbd (InlD d) n):∀ h∈jaK n,h.size=32:=by
 intro h o
 obtain⟨r,q,e⟩:=List.mem_filterMap.1 o
 by_cases hz:r.size=0
 ·rw[ja1 hz,jfn]at e;cases e
 rcases jkV hg r q hz with⟨k,h1,h2⟩ |⟨m,hm⟩
 ·rw[h2,jdc h1]at e
  rw[<-bQ e];exact h1
 ·rw[jc4 (inlP d) hm]at e;cases e
theorem js6{α:Type}[DecidableEq α]:∀ {a b:List α},a.Nodup->(∀ x∈a,x∈b)->a.length<=b.length
 | [],b,_,_=>bY _
 | x :: a,b,hn,h=>by
  rw[fA]at hn
  have:=js6 (b:=b.erase x) hn.2 fun y o=>(List.mem_erase_of_ne (fun e=>by subst e;exact hn.1 o)).2 (h y (bC _ o))
  rw[List.length_erase_of_mem (h x bD)]at this
  have:=List.length_pos_of_mem (h x bD)
  simp only[bO];omega
structure jhM(S:vT)(L:vM):Prop where
 nodup:L.Nodup
 there:∀ h∈L,h.data.toList∈S.map (·.1)
theorem jhM.len{S:vT}{L:vM}(h:jhM S L):L.length<=S.length:=by
 have:=js6 (a:=L.map fun x:vB=>x.data.toList) (b:=S.map (·.1)) ?_ fun x q=>?_
 ·simpa using this
 ·have:∀ {L:vM},L.Nodup->(L.map fun x:vB=>x.data.toList).Nodup:=fun {L} h=>by
   induction L with
   | nil=>exact .nil
   | cons x L ih =>
    rw[fA]at h;rw[bV,fA]
    refine⟨fun z=>?_,ih h.2⟩
    obtain⟨y,o,e⟩:=bI.1 z
    rw[jck e]at o;exact h.1 o
  exact this h.nodup
 ·obtain⟨y,o,rfl⟩:=bI.1 q
  exact h.there y o
theorem jhM.add{S:vT}{L:vM}(h:jhM S L){k:vB}(hk:k ∉ L){y:Nd5}(hy:atL S k.data.toList=some y):jhM S (L++[k]):=by
 refine⟨fF.2 ⟨h.nodup,by simp,fun a q b hb=>?_⟩,fun x o=>?_⟩
 ·rw[bP.1 hb]
  exact fun e=>hk (e ▸ q)
 ·rcases bT.1 o with o | o
  ·exact h.there x o
  ·rw[bP.1 o]
   obtain⟨z,A⟩:=jaU hy
   exact bI.2 ⟨y,z,A⟩
theorem jlr{S:vT}(hN:AllN S)(out:vM):∀ (m:Nat) (L q:vM),jhM S L->S.length<=L.length+m->(∀ h∈q,h.size=32)->∃ R,jci S out L q R:=by
 intro m;induction m with
 | zero =>
  intro L q H O;induction q with
  | nil=>exact fun _=>⟨L,.nil L⟩
  | cons h q ih =>
   intro o
   obtain⟨R,A⟩:=ih fun x z=>o x (bC _ z)
   by_cases h1:h∈L\/h∈out
   ·exact⟨R,.seen L h q R h1 A⟩
   ·cases hy:atL S h.data.toList with
    | none=>exact⟨R,.no L h q R (fun e=>h1 (.inl e)) (fun e=>h1 (.inr e)) (o h bD) hy A⟩
    | some y =>
     have:=(H.add (fun e=>h1 (.inl e)) hy).len
     rw[bF]at this;simp at this;omega
 | succ m ihm =>
  intro L q H O;induction q with
  | nil=>exact fun _=>⟨L,.nil L⟩
  | cons h q ih =>
   intro o
   by_cases h1:h∈L\/h∈out
   ·obtain⟨R,A⟩:=ih fun x z=>o x (bC _ z)
    exact⟨R,.seen L h q R h1 A⟩
   ·cases hy:atL S h.data.toList with
    | none =>
     obtain⟨R,A⟩:=ih fun x z=>o x (bC _ z)
     exact⟨R,.no L h q R (fun e=>h1 (.inl e)) (fun e=>h1 (.inr e)) (o h bD) hy A⟩
    | some y =>
     obtain⟨n,J⟩:=hN y (jaU hy).1
     have E:=H.add (fun e=>h1 (.inl e)) hy;have K:=E.len;rw[bF]at K
     obtain⟨R,A⟩:=ihm (L++[h]) ((jaK n).reverse++q) E (by rw[bF];simp;omega) fun x z=>by
      rcases bT.1 z with z | z
      ·obtain⟨_,g,Q⟩:=J
       exact jsS Q x (List.mem_reverse.1 z)
      ·exact o x (bC _ z)
     exact⟨R,.go L h q y n R (fun e=>h1 (.inl e)) (fun e=>h1 (.inr e)) (o h bD) (by simpa using K) hy J A⟩
theorem jkf{S:vT}{out L hs R:vM}(h:jci S out L hs R):∀ x∈L,x∈R:=by
 induction h with
 | nil L=>exact fun x e=>e
 | seen L h hs R _ _ ih=>exact ih
 | no L h hs R _ _ _ _ _ ih=>exact ih
 | go L h hs y n R _ _ _ _ _ _ _ ih=>exact fun x e=>ih x (iF _ e)
theorem ji3{S:vT}{out L hs R:vM}(h:jci S out L hs R):L.Nodup->R.Nodup:=by
 induction h with
 | nil L=>exact id
 | seen L h hs R _ _ ih=>exact ih
 | no L h hs R _ _ _ _ _ ih=>exact ih
 | go L h hs y n R h1 _ _ _ _ _ _ ih =>
  exact fun o=>ih (fF.2 ⟨o,by simp,fun a q b hb=>by rw[bP.1 hb];exact fun e=>h1 (e ▸ q)⟩)
theorem jm6{S:vT}{out L hs R:vM}(h:jci S out L hs R)(Q:vB->Prop)(hQ:∀ (k:vB) (y:Nd5) (n:jad),Q k->atL S k.data.toList=some y->jbc y.2.2.text n->∀ x∈jaK n,Q x) :
  (∀ x∈hs,Q x)->∀ x∈R,x∈L\/(Q x/\x ∉ out/\x.data.toList∈S.map (·.1)):=by
 induction h with
 | nil L=>exact fun _ x e=>.inl e
 | seen L h hs R _ _ ih=>exact fun o=>ih fun x e=>o x (bC _ e)
 | no L h hs R _ _ _ _ _ ih=>exact fun o=>ih fun x e=>o x (bC _ e)
 | go L h hs y n R h1 h2 h3 _ h4 h5 _ ih =>
  intro o x e;have q:=o h bD;rcases ih (fun z A=>by
   rcases bT.1 A with A | A
   ·exact hQ h y n q h4 h5 z (List.mem_reverse.1 A)
   ·exact o z (bC _ A)) x e with h6 | h6
  ·rcases bT.1 h6 with h6 | h6
   ·exact .inl h6
   ·rw[bP.1 h6]
    obtain⟨E,H⟩:=jaU h4
    exact .inr ⟨q,h2,bI.2 ⟨y,E,H⟩⟩
  ·exact .inr h6
theorem jrd{S:vT}{out L hs R:vM}(h:jci S out L hs R)(hL:∀ k∈L,∀ y n,atL S k.data.toList=some y->jbc y.2.2.text n->∀ x∈jaK n,x∈L\/x∈hs\/x∈out\/atL S x.data.toList=none)(w:vW) :
  (∀ x∈hs,x∈R\/x∈out\/atL S x.data.toList=none)/\∀ k∈R,∀ y n,atL S k.data.toList=some y->jbc y.2.2.text n->∀ x∈jaK n,x∈R\/x∈out\/atL S x.data.toList=none:=by
 induction h with
 | nil L =>
  refine⟨fun x e=>(cH e).elim,fun k o y n z J x e=>?_⟩
  rcases hL k o y n z J x e with h | h | h
  ·exact .inl h
  ·exact (cH h).elim
  ·exact .inr h
 | seen L h hs R z hR ih =>
  obtain⟨E,H⟩:=ih fun k o y n q A x e=>by
   rcases hL k o y n q A x e with h | h | h
   ·exact .inl h
   ·rcases bM.1 h with rfl | h
    ·exact z.elim .inl fun h=>.inr (.inr (.inl h))
    ·exact .inr (.inl h)
   ·exact .inr (.inr h)
  refine⟨fun x e=>?_,H⟩
  rcases bM.1 e with rfl | e
  ·exact z.elim (fun h=>.inl (jkf hR _ h)) fun h=>.inr (.inl h)
  ·exact E x e
 | no L h hs R z J h3 h4 hR ih =>
  obtain⟨E,H⟩:=ih fun k o y n q A x e=>by
   rcases hL k o y n q A x e with h | h | h
   ·exact .inl h
   ·rcases bM.1 h with rfl | h
    ·exact .inr (.inr (.inr h4))
    ·exact .inr (.inl h)
   ·exact .inr (.inr h)
  refine⟨fun x e=>?_,H⟩
  rcases bM.1 e with rfl | e
  ·exact .inr (.inr h4)
  ·exact E x e
 | go L h hs y n R z J h3 _ h4 h5 hR ih =>
  obtain⟨E,H⟩:=ih fun k o O K q A x e=>by
   rcases bT.1 o with o | o
   ·rcases hL k o O K q A x e with h | h | h
    ·exact .inl (iF _ h)
    ·rcases bM.1 h with rfl | h
     ·exact .inl (by simp)
     ·exact .inr (.inl (List.mem_append_right _ h))
    ·exact .inr (.inr h)
   ·obtain rfl:=bP.1 o
    rw[h4]at q;obtain rfl:=bQ q
    obtain⟨Q,g1,X⟩:=h5
    obtain⟨Z,g2,b2⟩:=A
    obtain rfl:n=K:=jdu w X b2 (Q.symm.trans Z);exact .inr (.inl (iF _ (List.mem_reverse.2 e)))
  refine⟨fun x e=>?_,H⟩
  rcases bM.1 e with rfl | e
  ·exact .inl (jkf hR _ (by simp))
  ·exact E x (List.mem_append_right _ e)
theorem jvp(G:vB->Prop):∀ (f:Nat) (l:vL),jav f l->(∀ t∈jau (jab (f+1) l),∀ n,jbc t n->G (shaB t)->∀ h∈jaK n,G h)->G (shaB (jab (f+1) l).text)->∀ t∈jau (jab (f+1) l),G (shaB t):=by
 intro f;induction f with
 | zero =>
  intro l h _ z t o;have J:jat (jab 0) l=[]:=by have:=jbD h;unfold jat;rw[if_pos vO]
  have A:jau (jab (0+1) l)=(jab (0+1) l).text :: jaH (jat (jab 0) l):=by
   show jau (.mk (jaR (jao (jab 0) l)) (jat (jab 0) l))=_;rw[jau];rfl
  rw[A,J]at o;simp[jaH]at o;rw[o];exact z
 | succ f ih =>
  intro l h H z t o;have A:jau (jab (f+1+1) l)=(jab (f+1+1) l).text :: jaH (jat (jab (f+1)) l):=by
   show jau (.mk (jaR (jao (jab (f+1)) l)) (jat (jab (f+1)) l))=_;rw[jau];rfl
  have q:=H _ (jbE _) (jao (jab (f+1)) l) ⟨rfl,f+1,(good (f+1) l h).1⟩ z;rw[jeh (f+1) l h]at q;rw[A]at o;rcases bM.1 o with rfl | o
  ·exact z
  ·obtain⟨K,E,o⟩:=jbB.1 o
   have O:=q _ (bI.2 ⟨K,E,rfl⟩)
   obtain⟨g,m,e,rfl,Q,_⟩:=jim h E
   obtain rfl:f=g:=vO
   exact ih m Q (fun x X=>H x (by rw[A];exact bC _ (jbB.2 ⟨_,E,X⟩))) O t o
theorem jm7(w:vW){S:vT}{b:vL}(h:HasM S b){out R:vM}(hR:jci S out [] [shaB (jay b).text] R)(ho:∀ t∈jau (jay b),shaB t∈out->∀ n,jbc t n->∀ x∈jaK n,x∈out) :
  ∀ k,k∈R↔(∃ t∈jau (jay b),k=shaB t)/\k ∉ out:=by
 have hr:=jbt (jaE h.ok);have hT:=(jjg h.ok).node;have o:∀ t∈jau (jay b),∃ y,atL S (shaB t).data.toList=some y/\y.2.2.text=t:=fun t z=>h.has t z;have h1:=jm6 hR (fun k=>∃ t∈jau (jay b),k=shaB t) (fun k y n ⟨t,z,q⟩ hy A x E=>by
  subst q
  obtain⟨y',K,O⟩:=o t z
  rw[K]at hy;obtain rfl:=bQ hy;rw[O]at A
  obtain⟨Q,H,X⟩:=hT t ((jaQ _ _).2 z)
  obtain⟨Z,g1,a2⟩:=A
  obtain⟨b1,g2,b2⟩:=H
  obtain rfl:n=Q:=jdu w a2 b2 (Z.symm.trans b1)
  obtain⟨t',J,e⟩:=X x E
  exact⟨t',(jaQ _ _).1 J,e⟩) (fun x E=>by rw[bP.1 E];exact⟨_,jbE _,rfl⟩)
 obtain⟨h2,h3⟩:=jrd hR (fun k q=>(cH q).elim) w
 have h4:∀ t∈jau (jay b),shaB t∈R\/shaB t∈out:=jvp (fun k=>k∈R\/k∈out) 12 (jaO b) hr (fun t z n A q x E=>by
   obtain⟨y,K,O⟩:=o t z
   rcases q with q | q
   ·rcases h3 _ q y n K (by rw[O];exact A) x E with h | h | h
    ·exact .inl h
    ·exact .inr h
    ·obtain⟨Q,H,X⟩:=hT t ((jaQ _ _).2 z)
     obtain⟨Z,g1,a2⟩:=A
     obtain⟨b1,g2,b2⟩:=H
     obtain rfl:n=Q:=jdu w a2 b2 (Z.symm.trans b1)
     obtain⟨t',J,e⟩:=X x E
     obtain⟨y',e3,_⟩:=o t' ((jaQ _ _).1 J)
     rw[e,e3]at h;cases h
   ·exact .inr (ho t z q n A x E)) (by
  rcases h2 _ bD with h | h | h
  ·exact .inl h
  ·exact .inr h
  ·obtain⟨y,K,_⟩:=o _ (jbE (jay b))
   rw[K]at h;cases h)
 refine fun k=>⟨fun q=>?_,fun ⟨⟨t,z,e⟩,A⟩=>?_⟩
 ·rcases h1 k q with h |⟨h,h',_⟩
  ·exact (cH h).elim
  ·exact⟨h,h'⟩
 ·subst e
  exact (h4 t z).resolve_right A
theorem jwh(w:vW){a b:vL}(ha:jaD a=0){U:vM}(hU:InjL U)(h1:∀ x∈jau (jay a),x∈U)(h2:∀ x∈jau (jay b),x∈U){A:vM}(hA:∀ k,k∈A↔∃ t∈jau (jay a),k=shaB t) :
  ∀ t∈jau (jay b),shaB t∈A->∀ n,jbc t n->∀ x∈jaK n,x∈A:=by
 intro t E H n J x K
 obtain⟨z,o,e⟩:=(hA _).1 H
 obtain rfl:=hU t (h2 t E) z (h1 z o) e
 obtain⟨O,q,Q⟩:=(jjg ha).node t ((jaQ _ _).2 o)
 obtain⟨X,g1,Z⟩:=J
 obtain⟨b1,g2,b2⟩:=q
 obtain rfl:n=O:=jdu w Z b2 (X.symm.trans b1)
 obtain⟨t2,h3,e⟩:=Q x K
 exact (hA x).2 ⟨t2,(jaQ _ _).1 h3,e⟩
section
attribute [local go_sem] Oper.semAt_some
theorem jfZ{S:vT}{out:List Pl}{k:Nat}{ts M:List Pl}{R:vL}(h:jcq S out k ts M R):M.length<=k/\R.length<=M.length/\∀ p∈R,p.1.size<=9223372036854775807/\p.2.size<=9223372036854775807:=by
 induction h with
 | nil=>exact⟨bY _,bL _,fun p e=>(cH e).elim⟩
 | full=>exact⟨bY _,bL _,fun p e=>(cH e).elim⟩
 | skip _ _ _ _ _ _ _ ih=>exact ih
 | no _ _ _ _ _ _ _ _ ih=>exact ih
 | go k t ts n M R h1 h2 h3 h4 ih =>
  obtain⟨E,H,z⟩:=ih
  obtain⟨d,q⟩:=h3.good
  have e:=(q.one (inlP d)).path;have J:=(q.one (inlP d)).value;have A:(entN n t.1).length<=1/\∀ p∈entN n t.1,p.1.size<=9223372036854775807/\p.2.size<=9223372036854775807:=by
   unfold entN keyR;split
   ·exact⟨bY _,fun p e=>(cH e).elim⟩
   ·split
    ·refine⟨bL _,fun p o=>?_⟩
     rw[bP.1 o]
     have:(jbC (t.1++n.path)).size=(t.1++n.path).size / 2:=jeD _
     rw[cC]at this
     exact⟨by show (jbC _).size<=_;omega,by show n.value.size<=_;omega⟩
    ·exact⟨bY _,fun p e=>(cH e).elim⟩
  refine⟨by rw[bO];omega,by rw[bF,bO];omega,fun p e=>?_⟩
  rcases bT.1 e with e | e
  ·exact A.2 p e
  ·exact z p e
theorem LRow.rd{w0 w:vW}{v:vV}{n:Nat}{xs:List Pl}(h:LRow w0 w v n xs):RdP w v xs:=by
 have q:xs.length=n:=by have:=h.len;rw[jdQ]at this;omega
 obtain⟨_,⟨rfl,K⟩ |⟨g,e,z,rfl,O,A,E,Q,X⟩⟩:=h.own
 ·exact .inl ⟨none,0,rfl,bG vO⟩
 ·subst q
  refine .inr ⟨g,0,e,rfl,(dK.1 A).1,E,fun j x o=>?_⟩;have Z:=(bW.1 o).1
  obtain⟨H,J⟩:=jdP xs j x o
  exact⟨by rw[cR,h.own.cellAt (j * 2) vO,H],by rw[cR,h.own.cellAt (j * 2+1) vO,J]⟩
theorem jAK(W:vW)(s bm:Nat)(room:Int)(S:vT)(hs:jax W s bm room S)(a b:vB)(h:(jbA S a && jbA S b)=false) :
  vR 16 #[.pointer (some ⟨s,0,none⟩),.string a,.string b] W (.tuple #[.slice none 0 0,.int .i64 4]):=by
 have q:([a,b].all (jbA S))=false:=by simpa using h
 have z:=Hd (fun(v:vV) (W1:vW) (e:Ext W W1) (hv:RdS W1 v [a,b])=>jen W1 s bm room S (hs.ext e) v [a,b] hv (show (2:Nat)<=1000 by decide));rw[q]at z;clear hs h q;go_enter Tryz.func16,Tryz.ntmps16;go_wp2_with fail
 refine vH (z.o _ _ ((ExtR W).alloc _) (jbK W [a,b] _)) fun A E=>?_;have H:=Hd (((ExtR W).alloc (.cells ([a,b].map Value.string).toArray 9)).trans E);go_wp2_with fail
 refine (jfP A).mono ?_;rintro e J ⟨rfl,rfl⟩;go_wp2_with fail
 go_ret2
 exact⟨rfl,H.o⟩
def OfP(W:vW)(l m:vL)(e:Ending)(w':vW):Prop:=∃ v,e=.returned (.tuple #[v,.int .i64 0])/\CRow W w' v (jdz l m).length (jdz l m)
theorem jxv(W:vW)(s bm:Nat)(room:Int)(S:vT)(hs:jax W s bm room S)(a b:vB)(h:(jbA S a && jbA S b)=true)(ha:a.size<=100000)(hb:b.size<=100000){MA MB M1 M2:List Pl}{R1 R2 R3 R4:vL}
  (h1:jcq S [] 400 [(⟨#[]⟩,jaz a)] MA R3) (h2:jcq S MA 400 [(⟨#[]⟩,jaz b)] M2 R2) (h3:jcq S [] 400 [(⟨#[]⟩,jaz b)] MB R4) (h4:jcq S MB 400 [(⟨#[]⟩,jaz a)] M1 R1) :
  vQ 16 #[.pointer (some ⟨s,0,none⟩),.string a,.string b] W (OfP W R1 R2):=by
 have hk:([a,b].all (jbA S))=true:=by simpa using h
 have HC:=Hd (fun(v:vV) (W1:vW) (e:Ext W W1) (hv:RdS W1 v [a,b])=>jen W1 s bm room S (hs.ext e) v [a,b] hv (show (2:Nat)<=1000 by decide));rw[hk]at HC;have H:=jfZ h1;have J:=jfZ h2;have K:=jfZ h3;have O:=jfZ h4;have HZ:=Hd (bB (bB H J) (bB K O));have HA:=Hd (fun(W1:vW) (e:Ext W W1)=>jqm W1 s bm room S (hs.ext e) a ha (.slice none 0 0) [] (.inl ⟨_,_,rfl,rfl⟩) (bY _) h1);have HB:=Hd (fun(W1:vW) (e:Ext W W1) (v:vV) (hv:RdP W1 v MA)=>jqm W1 s bm room S (hs.ext e) b hb v MA hv (by have:=H.1;omega) h2);have a6:=Hd (fun(W1:vW) (e:Ext W W1)=>jqm W1 s bm room S (hs.ext e) b hb (.slice none 0 0) [] (.inl ⟨_,_,rfl,rfl⟩) (bY _) h3);have a7:=Hd (fun(W1:vW) (e:Ext W W1) (v:vV) (hv:RdP W1 v MB)=>jqm W1 s bm room S (hs.ext e) a ha v MB hv (by have:=K.1;omega) h4);clear hs h hk h1 h2 h3 h4 H J K O;go_enter Tryz.func16,Tryz.ntmps16;go_wp2_with fail
 refine vH (HC.o _ _ ((ExtR W).alloc _) (jbK W [a,b] _)) fun W2 hE=>?_;have HE:=Hd (((ExtR W).alloc (.cells ([a,b].map Value.string).toArray 9)).trans hE);go_wp2_with fail
 refine (jfq W2).mono ?_;rintro e W3 ⟨rfl,rfl⟩;go_wp2_with fail
 refine (HA.o W2 HE.o).mono ?_;rintro e W4 ⟨u1,v1,rfl,A,a8⟩;have a9:=Hd A;have Q:=Hd (HE.o.trans A.ext);clear A a8;go_wp2_with fail
 refine (HB.o W4 Q.o u1 a9.o.rd).mono ?_;rintro e W5 ⟨u2,v2,rfl,X,Z⟩;have b0:=Hd Z;have a2:=Hd (Q.o.trans X.ext);clear X Z;go_wp2_with fail
 refine (a6.o W5 a2.o).mono ?_;rintro e W6 ⟨u3,v3,rfl,q,b1⟩;have b2:=Hd q;have a3:=Hd (a2.o.trans q.ext);have a0:=Hd (ORow.mono b0.o q.ext);clear q b1;go_wp2_with fail
 refine (a7.o W6 a3.o u3 b2.o.rd).mono ?_;rintro e W7 ⟨u4,v4,rfl,E,a4⟩;have b3:=Hd a4;have a5:=Hd (a3.o.trans E.ext);have a1:=Hd (ORow.mono a0.o E.ext);clear E a4;go_wp2_with fail
 obtain⟨⟨H,J⟩,K,O⟩:=HZ.o
 refine (jmj W7 v4 v2 R1 R2 (ERow.rd b3.o) (ERow.rd a1.o) vO vO O.2.2 J.2.2).mono ?_;rintro e W8 ⟨u,rfl,hC⟩;have z:=Hd hC;clear hC H J K O;go_wp2_with fail
 go_ret2
 exact⟨_,rfl,z.o.sl,z.o.own,a5.o.trans z.o.ext,fun b hb=>bH a5.o.size (z.o.new b hb)⟩
theorem jxu(W:vW)(s bm:Nat)(room:Int)(S:vT)(hs:jax W s bm room S){a b:vL}(ha:HasM S a)(hb:HasM S b){U:vM}(hU:InjL U)(h1:∀ x∈jau (jay a),x∈U)(h2:∀ x∈jau (jay b),x∈U) :
  vQ 16 #[.pointer (some ⟨s,0,none⟩),.string (rootM a),.string (rootM b)] W (OfP W a b):=by
 have o:∀ {l:vL},HasM S l->jbA S (rootM l)=true:=fun {l} h=>by
  obtain⟨y,e,_⟩:=h.has _ (jbE _)
  unfold jbA rootM;rw[show (shaB (jay l).text).data.toList=ky (jay l).text from rfl,e];rfl
 have q:∀ l,(rootM l).size<=100000:=fun l=>by unfold rootM;rw[jbb];omega
 have:=jxv W s bm room S hs (rootM a) (rootM b) (by rw[o ha,o hb];rfl) (q a) (q b) (jii (out:=[]) ha) (jii (out:=metT [] a) hb) (jii (out:=[]) hb) (jii (out:=metT [] b) ha)
 obtain⟨_,_,e⟩:=jwe W ha.ok hb.ok hU h1 h2
 refine this.mono fun z w' h=>?_;unfold OfP at h ⊢;rw[e]at h;exact h
end
end Go.Proofs.YtepbencaoiompaaGreatDoor
