/- Lemmas; each is under no condition but those that it states. -/
import Derived.Test.YtmobgkphhbmhbaaGreatDoorPe27
namespace Go.Proofs.YtmobgkphhbmhbaaGreatDoor
set_option linter.unusedSimpArgs false
set_option linter.unusedVariables false
set_option maxRecDepth 100000
set_option maxHeartbeats 16000000
section
open Go Go.RowKit
attribute [local go_sem] Oper.semAt_some
theorem Tryz.infoPlc:(Tryz.prog.info? 154).map (fun i=>(i.zero,i.size,i.bytes))=some (some (.agg #[.string ⟨#[]⟩,.string ⟨#[]⟩]),2,32):=vY
theorem Tryz.uPlcs:Tryz.prog.underlying 108=some (.slice 154):=vY
theorem Tryz.sPlcs:jep Tryz.prog 108 154 2 32:=jep.mk' Tryz.uPlcs Tryz.infoPlc rfl vI
abbrev LRow(w0 w:vW)(v:vV)(n:Nat)(xs:List Pl):Prop:=ORow 154 2 w0 w v n (jb2 xs)
theorem Tryz.allocPlc(w:vW):(Instr.alloc 154 true (.tuple #[])).run Tryz.prog w=.ok (.pointer (some ⟨w.heap.size,0,none⟩)) (w.alloc (.cells [Value.string ⟨#[]⟩,.string ⟨#[]⟩].toArray 154)):=vY
theorem Tryz.szPlc:(Tryz.prog.info? 154).map (·.size)=some 2:=vY
theorem Tryz.isPlc:jgo (Tryz.prog.underlying 154)=true:=vY
theorem jcF(W:vW)(b:Nat)(x y:vB)(hB:Blk W b (.cells [Value.string x,.string y].toArray 154)):(Instr.loadAt 154 (.pointer (some ⟨b,0,none⟩))).run Tryz.prog W=.ok (.agg [Value.string x,.string y].toArray) W:=by
 obtain⟨q,e⟩:=jfC Tryz.isPlc
 exact jdX e Tryz.szPlc (fun j v o=>by rw[jhu];exact hB.cellL o)
def plc1(n:jae)(p:vB)(i:Nat):List Pl:=if (n.refs.getD i ⟨#[]⟩).size=0 then []else [((p++n.path)++(if n.kind=3 then nib1 i else ⟨#[]⟩),n.refs.getD i ⟨#[]⟩)]
def belJ(n:jae)(p:vB)(j:Nat):List Pl:=(revJ j).flatMap (plc1 n p)
theorem jgc(n:jae)(p:vB){j:Nat}(h:j < 16):belJ n p (j+1)=belJ n p j++plc1 n p (15 - j):=by
 unfold belJ;rw[jsq h,dK];simp
theorem juu(n:jae)(p:vB)(i:Nat):(plc1 n p i).reverse=plc1 n p i:=by unfold plc1;split <;> rfl
theorem jfi(n:jae)(p:vB):belJ n p 16=(jct n p).reverse:=by
 have:=joy (plc1 n p) (juu n p) (List.range 16)
 exact List.reverse_eq_iff.1 this
theorem jcJ(n:jae)(p:vB):∀ j,(belJ n p j).length<=j
 | 0=>bM _
 | j+1=>by
  by_cases h:j < 16
  ·have:=jcJ n p j
   rw[jgc n p h,bG]
   have:(plc1 n p (15 - j)).length<=1:=by unfold plc1;split <;> simp
   omega
  ·have e:=jcJ n p j
   have:belJ n p (j+1)=belJ n p j:=by unfold belJ revJ;rw[cD (by simp;omega),cD (by simp;omega)]
   rw[this];omega
theorem jsC{w:vW}(m b:Nat)(hB:Blk w b (.cells #[.int .u8 (m:Int)] 5))(hm:m < 16):(convert 56 9 (.slice (some ⟨b,0,none⟩) 1 1)).run Tryz.prog w=.ok (.string (nib1 m)) w:=by
 have e:(m:Int)=((UInt8.ofNat m).toNat:Int):=by rw[jnk m vO]
 have o:w.ownsRow 0 5 1 (.slice (some ⟨b,0,none⟩) 1 1) 1 (jaI [UInt8.ofNat m]):=
  ⟨rfl,.inr ⟨_,1,_,rfl,cC _,hB,bM _,by unfold maxLen;omega,rfl,by rw[e];rfl⟩⟩
 exact jbC w Tryz.uBytes Tryz.uU8 Tryz.uStr o
theorem jmi{ops:Array Oper}{rest:List Oper}{d:Option Tmp}{ty:TypeId}{pos:String}{af:Array Edge}{x:Operand}{a:Act}{w:vW}{Q:Exit->Act->vW->Prop}(m b:Nat)(hx:a.eval x=.slice (some ⟨b,0,none⟩) 1 1)(hB:Blk w b (.cells #[.int .u8 (m:Int)] 5))(hm:m < 16)
  (h:wpList Tryz.prog ops Q rest (a.put d (.string (nib1 m))) w):wpList Tryz.prog ops Q (⟨d,.convert 56 9 x,ty,pos,af,none⟩ :: rest) a w:=by
 refine wpList_plain rfl fun K e=>jco (v:=.string (nib1 m)) (w':=w) ?_ (e _ _ h);simp only[execOp,hx,bT,jsC m b hB hm,Result.andThen,cJ]
def jw9(W1:vW)(n:jae)(p:vB)(lv iv:vV)(wr:vW):Prop:=∃ j:Nat,j<=16/\iv=.int .i64 (15 - (j:Int))/\LRow W1 wr lv (belJ n p j).length (belJ n p j)
theorem jvL(W:vW)(n:jae)(hr:n.refs.length=16)(c2:n.path.size<=100)(p:vB)(hp:p.size<=100000) :
  vQ 95 #[n.V,.string p] W fun e w'=>∃ v,e=.returned v/\LRow W w' v (jct n p).length (jct n p).reverse:=by
 obtain⟨k,q,H,E⟩:=n
 have hr:E.length=16:=hr;have c2:q.size<=100:=c2;have hl:(jae.cells ⟨k,q,H,E⟩).length=19:=jae.cells_len _ hr;have HL:=Hd hl;have HR:=Hd hr;clear hl hr;unfold jae.V;have e0:(jae.cells ⟨k,q,H,E⟩)[0]?=some (.int .i64 k):=rfl;have e1:(jae.cells ⟨k,q,H,E⟩)[1]?=some (.string q):=rfl;rw[<-fQ, <-jfi];go_enter Tryz.func95,Tryz.ntmps95;go_wp2_with fail
 have hE:Ext W (W.alloc (.cells (jae.cells ⟨k,q,H,E⟩).toArray 132)):=(ExtR W).alloc _;have hB:=Blk.new W (.cells (jae.cells ⟨k,q,H,E⟩).toArray 132)
 obtain⟨W1,c3⟩:=vE (W.alloc (.cells (jae.cells ⟨k,q,H,E⟩).toArray 132))
 rw[<-c3]at hE hB ⊢;have HE:=Hd hE;have HB:=Hd hB;clear c3 hE hB;go_loopw [5,6] (fun lv iv wr=>jw9 W1 ⟨k,q,H,E⟩ p lv iv wr) (fun _ iv _=>(intOf iv+1).toNat)
 case atStart=>exact⟨0,by omega,rfl,ORow.nil _ _ (ExtR W1)⟩
 case round =>
  obtain⟨j,hj,rfl,hR⟩:=hrel
  by_cases hlt:j < 16
  ·obtain⟨m,hm⟩:=vE (15 - j)
   have a6:(15:Int) - (j:Int)=(m:Int):=vO
   have a0:m < 16:=vO
   rw[a6];have b1:(0:Int)<=(m:Int):=vO
   have b2:¬(m:Int) < 0:=vO
   have b3:(m:Int) < 16:=vO
   have b4:(m:Int).toNat=m:=vO
   have Z:=Hd (bB hm a6)
   obtain⟨r,c4⟩:∃ r,E[m]?=some r:=⟨_,bA (by rw[HR.o];exact a0)⟩
   have a2:=Hd c4;have a3:=Hd (HB.o.keeps hR.ext (fun h=>h));have q3:=a3.o.cellL (i:=3+m) (v:=.string r) (by
    show (_ :: _ :: _ :: E.map Value.string)[3+m]?=_;rw[show 3+m=m+1+1+1 by omega];simp[a2.o])
   have J:=Hd hR;clear hm a6 c4 hR
   by_cases hz:r.size=0
   ·obtain rfl:r=⟨#[]⟩:=jbo hz
    go_wp2_with fail
    go_roundw
    case rel =>
     refine⟨j+1,by omega,by have:=Z.o.1;have:=Z.o.2;simp;omega,?_⟩
     have e:belJ ⟨k,q,H,E⟩ p (j+1)=belJ ⟨k,q,H,E⟩ p j:=by
      rw[jgc _ p hlt, <-Z.o.1];unfold plc1;rw[if_pos (by show (E.getD m ⟨#[]⟩).size=0;rw[bH,a2.o];rfl),bR]
     rw[e];exact J.o
    case measure=>simp[intOf]
   ·have d4:r.toList.isEmpty=false:=by
     rw[bW];cases hd:r.data.toList with
     | nil=>exact absurd (congrArg List.length hd) hz
     | cons x l=>rfl
    have q1:=a3.o.cellL (i:=1) (v:=.string q) e1;have b5:¬(9223372036854775807 < p.size+q.size):=vO
    have a4:=Hd hlt;have HZ:=Hd hz;have HW:Hid (W.heap.size < wr.heap.size):=Hd a3.o.lt;have HX:=Hd (show ¬ wr.heap.size<=W.heap.size by have:=HW.o;omega);have Q1:=Hd q1;have Q3:=Hd q3;clear q1 hlt hz;go_wp2_with fail
    clear q3;refine ja4 [0,1,2,3,4,5,6,7,8,9,10] [9,10] Ext (jad (fun z=>wr.heap.size<=z)) ExtR ExtT (fun x y z h k=>jad.trans h k) (fun x y h=>h.mono (fun _ _ h=>h.elim)) vY vY vY ?_;iterate 2 refine vD ?_
    refine qDL ⟨W.heap.size,1,none⟩ _ rfl (fun w2 h2=>jac Tryz.uStr rfl (jaD (jaa Q1.o (jaj _)) h2 HX.o)) ?_;refine vS ?_;iterate 4 refine vD ?_
    refine qDL ⟨W.heap.size,3+m,none⟩ _ rfl (fun w2 h2=>jac Tryz.uStr rfl (jaD (jaa Q3.o (jaj _)) h2 HX.o)) ?_;refine vS ?_
    refine vD ?_
    refine qDH _ rfl (fun w2 X K hK=>?_);have a5:=Hd (show Ext wr w2 from(jaj _).trans X);clear X;go_simp;refine hK _ _ ((jad.refl _ w2).alloc _) ?_;clear hK K;refine qDH _ rfl (fun w3 X K hK=>?_);have c5:=(Blk.new w2 (.cells [Value.string ⟨#[]⟩,.string ⟨#[]⟩].toArray 154)).keeps X (fun h=>h);refine jkJ (vs:=[Value.string (p++q),.string r]) rfl rfl rfl c5 rfl Tryz.szPlc (jd2 _ _) (fun W4 c6 a7=>?_);refine hK _ _ (a7.mono (fun z _ e=>by have e:z=w2.heap.size:=e;have:=a5.o.size;omega)) ?_;have c7:=Hd (show Ext wr W4 from((a5.o.alloc _).trans X).trans' a7 (fun z hz e=>by have e:z=w2.heap.size:=e;have:=a5.o.size;omega));have c8:=Hd c6;clear hK K X c5 c6 a7;refine vS ?_;refine jck vY (fun w5 X=>?_);have a8:=Hd (c7.o.trans X);have O:=Hd (c8.o.keeps X (fun h=>h));clear X c7 c8
    obtain⟨pb,c9⟩:=vE w2.heap.size
    have d0:=Hd (show wr.heap.size<=pb by have:=a5.o.size;omega);rw[<-c9]at O ⊢;clear c9;have q0:=jaa (a3.o.cellL (i:=0) e0) a8.o;have a1:=Hd (ORow.mono J.o a8.o)
    by_cases hk:k=3
    ·subst hk
     have q5:=O.o.cell (i:=0) (v:=.string (p++q)) vF;have b7:¬(9223372036854775807 < p.size+q.size+(nib1 m).size):=by show ¬(_ < _+1);omega
     have Q:belJ ⟨3,q,H,E⟩ p (j+1)=belJ ⟨3,q,H,E⟩ p j++[((p++q)++nib1 m,r)]:=by
      rw[jgc _ p a4.o, <-Z.o.1];unfold plc1;have e:(jae.mk 3 q H E).refs.getD m ⟨#[]⟩=r:=by show E.getD m ⟨#[]⟩=r;rw[bH,a2.o];rfl
      rw[e,if_neg HZ.o,if_pos rfl]
     have a9:=Hd Q;have b0:(belJ ⟨3,q,H,E⟩ p j).length+1<=maxLen:=by have:=jcJ ⟨3,q,H,E⟩ p j;unfold maxLen;omega
     have b8:((belJ ⟨3,q,H,E⟩ p j).length+1) * 32<=140737488355328:=by have:=jcJ ⟨3,q,H,E⟩ p j;omega
     have B6:=(O.o.keeps ((ExtR w5).alloc (.cells #[.int .u8 (m:Int)] 5)) (fun h=>h));have q7:=B6.cell (i:=0) (v:=.string (p++q)) vF;have f7:=B6.frozen (i:=0);have d1:=Hd B6;clear Q B6;go_wp2_with (first
      |(refine jmi m w5.heap.size rfl (Blk.new w5 _) a0 ?_)
      |(refine jkI rfl pb 0 (.string ((p++q)++nib1 m)) rfl rfl rfl rfl vY q7 f7 ?_
        intro W8 b9;have c0:Blk W8 pb (.cells [Value.string ((p++q)++nib1 m),.string r].toArray 154):=by rw[b9];exact d1.o.set_same _
        have c1:Ext wr W8:=(a8.o.alloc _).trans' (by rw[b9];exact jad.oneSet _ _ _) (fun z hz e=>by have e:z=pb:=e;have:=d0.o;omega);clear b9;have q8:=c0.cell (i:=0) (v:=.string ((p++q)++nib1 m)) vF;have q9:=c0.cell (i:=1) (v:=.string r) vF;have d5:=Hd c1;have d2:=Hd (ORow.mono J.o c1);clear c1 c0)
      |(at_builtin;(refine ja5 Tryz.sPlcs (ORow.mono d2.o ((ExtR W8).alloc _)) (.tmp 37) (.tmp 39) rfl rfl rfl (ja3 (Blk.new W8 _)) (news:=[.string ((p++q)++nib1 m),.string r]) (jd2 _ _) rfl rfl b0 b8 ?_;intro d3 w' r1 r2 r3)))
     go_roundw
     case rel=>exact⟨j+1,by have:=a4.o;omega,by have:=Z.o.1;have:=Z.o.2;simp;omega,by rw[a9.o,bG];unfold LRow;rw[jbg];exact r1⟩
     case measure=>simp[intOf]
    ·have b6:((k:Int) == 3)=false:=by simpa using (by omega:¬(k:Int)=3)
     have q5:=O.o.cell (i:=0) (v:=.string (p++q)) vF;have q6:=O.o.cell (i:=1) (v:=.string r) vF;have Q:belJ ⟨k,q,H,E⟩ p (j+1)=belJ ⟨k,q,H,E⟩ p j++[(p++q,r)]:=by
      rw[jgc _ p a4.o, <-Z.o.1];unfold plc1;have e:(jae.mk k q H E).refs.getD m ⟨#[]⟩=r:=by show E.getD m ⟨#[]⟩=r;rw[bH,a2.o];rfl
      rw[e,if_neg HZ.o,if_neg hk,jfh]
     have a9:=Hd Q;have b0:(belJ ⟨k,q,H,E⟩ p j).length+1<=maxLen:=by have:=jcJ ⟨k,q,H,E⟩ p j;unfold maxLen;omega
     have b8:((belJ ⟨k,q,H,E⟩ p j).length+1) * 32<=140737488355328:=by have:=jcJ ⟨k,q,H,E⟩ p j;omega
     clear Q;go_wp2_with (at_builtin;(refine ja5 Tryz.sPlcs (ORow.mono a1.o ((ExtR w5).alloc _)) (.tmp 37) (.tmp 39) rfl rfl rfl (ja3 (Blk.new w5 _)) (news:=[.string (p++q),.string r]) (jd2 _ _) rfl rfl b0 b8 ?_;intro d3 w' r1 r2 r3))
     go_roundw
     case rel=>exact⟨j+1,by have:=a4.o;omega,by have:=Z.o.1;have:=Z.o.2;simp;omega,by rw[a9.o,bG];unfold LRow;rw[jbg];exact r1⟩
     case measure=>simp[intOf]
  ·obtain rfl:j=16:=vO
   have b1:(15:Int) - ((16:Nat):Int) = -1:=vO
   rw[b1];have J:=Hd hR;clear hR;go_wp2_with fail
   go_ret
   exact⟨_,rfl,⟨J.o.sl,J.o.own,HE.o.trans J.o.ext,fun b hb=>bL HE.o.size (J.o.new b hb)⟩⟩
theorem jzz(W:vW)(r:vB)(hr:r.size<=100000):vR 93 #[.string r] W (.agg #[.string ⟨#[]⟩,.string (jaC r)]):=by
 go_enter Tryz.func93,Tryz.ntmps93;go_wp2_with (refine jal Tryz.allocPlc rfl rfl ?_;intro Q q z)
 refine vC (jdY Q r vO) fun Z E=>?_;have H:=q.keeps E (fun h=>h);have J:=Hd (z.trans E);clear E q z;go_wp2_with (refine jah (vs:=[Value.string ⟨#[]⟩,.string (jaC r)]) rfl rfl rfl rfl H rfl Tryz.szPlc (jd2 _ _) ?_;intro W8 K O)
 have X:(loadVar 154 ⟨W.heap.size,0,none⟩).run Tryz.prog W8=.ok (.agg [Value.string ⟨#[]⟩,.string (jaC r)].toArray) W8:=by
  have:=jcF W8 _ _ _ K
  simpa [Instr.loadAt,Instr.sureAddr,bT,Result.andThen]using this
 refine bodyPost_ret (jcE rfl rfl X) rfl ?_
 exact⟨rfl,J.o.trans' O (fun x hx e=>by have e:x=W.heap.size:=e;omega)⟩
theorem jiM{t T:TypeId}{by':Nat}(I:jep Tryz.prog t T 2 by'){ops:Array Oper}{rest:List Oper}{d:Option Tmp}{ty:TypeId}{pos:String}{af:Array Edge}{a:Act}{w1 w0 w:vW}{Q:Exit->Act->vW->Prop}{s x:Operand}{v pv:vV}{n m N:Nat}{xs:List vV}{ys:vL}
  (hR:ORow T 2 w0 w v n xs) (hP:ORow T 2 w1 w pv m (jb2 ys)) (hN:n+m=N) (hs:a.eval s=v) (hx:a.eval x=pv) (h63:N<=1000000) (hb:by'<=1000)
  (h:∀ v' w',ORow T 2 w0 w' v' N (xs++jb2 ys)->jad (fun b=>v.ownBlock=some b) w w'->(v'.ownBlock=v.ownBlock\/∀ b,v'.ownBlock=some b->w.heap.size<=b)->wpList Tryz.prog ops Q rest (a.put d v') w') :
  wpList Tryz.prog ops Q (⟨d,.call { callee:=.builtin .append,args:=#[s,x],argTypes:=#[t,t] },ty,pos,af,none⟩ :: rest) a w:=by
 subst hN
 obtain⟨H,⟨rfl,J⟩ |⟨g,o,q,rfl,J,Z,h5,h6,h7⟩⟩:=hP.own
 ·subst J
  have z:ys=[]:=by
   rw[jdx]at H;exact bE vO
  subst z
  obtain⟨ad,c,rfl⟩:=hR.sl
  have E:n<=c:=by
   obtain⟨_,⟨e,e2⟩ |⟨g,o,q,e,_,_,k5,_⟩⟩:=hR.own
   ·omega
   ·obtain⟨_,_,e⟩:=dY e;omega
  refine jf6 I hs hx E (h _ _ ?_ (jad.refl _ _) (.inl rfl));simpa [jb2]using hR
 ·exact ja5 I hR s x rfl hs hx (fun j u K=>hP.own.cells (g:=g) rfl j u K) (fun u O=>by
   obtain⟨y,_,X⟩:=cI.1 O
   exact jd2 _ _ u X) (by rw[jdx]at H ⊢;omega) rfl (by unfold maxLen;omega) (bL (Nat.mul_le_mul_left _ hb) vO) h
def lenV:vV->Nat
 | .slice _ n _=>n
 | _=>0
structure WkR(S:vT)(out Mall:List Pl)(Rall:vL)(W1:World)(mv lv tv:Value)(wr:World)(M0:List Pl)(L0:vL)(ts:List Pl)(k:Nat)(M:List Pl)(R:vL):Prop where
 met:LRow W1 wr mv M0.length M0
 ent:ERow W1 wr lv L0.length L0
 tod:LRow W1 wr tv ts.length ts.reverse
 ap1:∀ b,tv.ownBlock=some b->mv.ownBlock≠some b/\lv.ownBlock≠some b
 ap2:∀ b,mv.ownBlock=some b->lv.ownBlock≠some b
 cnt:k+M0.length=400
 wx:jcq S out k ts M R
 e1:M0++M=Mall
 e2:L0++R=Rall
 tsl:ts.length<=1+16 * M0.length
 lle:L0.length<=M0.length
def jvH(S:vT)(out Mall:List Pl)(Rall:vL)(W1:vW)(mv lv tv:vV)(wr:vW):Prop:=∃ M0 L0 ts k M R,WkR S out Mall Rall W1 mv lv tv wr M0 L0 ts k M R
def jxq(w:vW)(t:Pl)(out:List Pl)(iv:vV)(wr:vW):Prop:=∃ i:Nat,i<=out.length/\iv=.int .i64 i/\Ext w wr/\∀ q∈out.take i,q≠t
theorem juY{S:vT}{out:List Pl}{k:Nat}{ts M:List Pl}{R:vL}(h:jcq S out k ts M R)(h0:k=0\/ts=[]):M=[]/\R=[]:=by
 cases h with
 | nil=>exact⟨rfl,rfl⟩
 | full=>exact⟨rfl,rfl⟩
 | skip=>rcases h0 with h0 | h0 <;> cases h0
 | no=>rcases h0 with h0 | h0 <;> cases h0
 | go=>rcases h0 with h0 | h0 <;> cases h0
theorem jmD(xs:vL)(n:Nat):(jb2 xs).take (n * 2)=jb2 (xs.take n):=by
 induction xs generalizing n with
 | nil=>simp[jb2]
 | cons x r ih =>
  cases n with
  | zero=>simp[jb2]
  | succ n =>
   have:=ih n
   unfold jb2 at *;rw[fF,cE,cE, <-this,show (n+1) * 2=n * 2+1+1 by omega];rfl
theorem jkv{T:TypeId}{sz:Nat}{w0 w:vW}{a:Option Addr}{n c:Nat}{xs:List vV}(h:ORow T sz w0 w (.slice a n c) n xs):n<=c:=by
 obtain⟨_,⟨e,z⟩ |⟨g,o,q,e,_,_,E,_⟩⟩:=h.own
 ·omega
 ·obtain⟨_,_,e⟩:=dY e;omega
theorem LRow.pop{W1 wr:vW}{g c:Nat}{t:Pl}{ts:List Pl}(h:LRow W1 wr (.slice (some ⟨g,0,none⟩) (t :: ts).length c) (t :: ts).length (t :: ts).reverse):LRow W1 wr (.slice (some ⟨g,0,none⟩) ts.length c) ts.length ts.reverse:=by
 have e:=jom (m:=ts.length) h.own (by simp);rw[jmD,gK,gG (by simp),cD (by simp)]at e
 exact⟨⟨_,_,rfl⟩,e,h.ext,fun b hb=>h.new b hb⟩
theorem LRow.last{W1 wr:vW}{g c:Nat}{t:Pl}{ts:List Pl}(h:LRow W1 wr (.slice (some ⟨g,0,none⟩) (t :: ts).length c) (t :: ts).length (t :: ts).reverse):wr.cell? ⟨g,ts.length * 2,none⟩=some (.string t.1)/\wr.cell? ⟨g,ts.length * 2+1,none⟩=some (.string t.2):=by
 have e:(t :: ts).reverse[ts.length]?=some t:=by rw[gK,cV (by simp)];simp
 obtain⟨o,q⟩:=jdw _ _ _ e
 exact⟨by rw[h.own.cellAt (ts.length * 2) (by simp only[bQ];omega),o],by rw[h.own.cellAt (ts.length * 2+1) (by simp only[bQ];omega),q]⟩
theorem jeD{T:TypeId}{sz:Nat}{w0 w:vW}{a:Option Addr}{n c:Nat}{xs:List vV}(h:ORow T sz w0 w (.slice a n c) n xs)(hn:n≠0):∃ g,a=some ⟨g,0,none⟩:=by
 obtain⟨_,⟨e,o⟩ |⟨g,q,z,e,_,_,E,_⟩⟩:=h.own
 ·exact absurd o hn
 ·obtain⟨e,_,_⟩:=dY e;exact⟨g,e⟩
theorem WkR.go{S:vT}{out Mall:List Pl}{Rall:vL}{W1:vW}{mv lv tv mv' lv' tv':vV}{w3 wr:vW}{M0:List Pl}{L0:vL}{t:Pl}{ts:List Pl}{k:Nat}{M M2:List Pl}{R R2:vL}{n:jae}
  (h:WkR S out Mall Rall W1 mv lv tv w3 M0 L0 (t :: ts) (k+1) M R) (e1:M=t :: M2) (e2:R=entN n t.1++R2) (hx:jcq S out k (jct n t.1++ts) M2 R2)
  (met:LRow W1 wr mv' (M0.length+1) (M0++[t])) {m:Nat} (hm:m=(L0++entN n t.1).length) (ent:ERow W1 wr lv' m (L0++entN n t.1)) {q:Nat} (hq:q=ts.length) (tod:LRow W1 wr tv' (q+(jct n t.1).length) (ts.reverse++(jct n t.1).reverse))
  (a1:∀ b,tv'.ownBlock=some b->mv'.ownBlock≠some b) (a2:∀ b,tv'.ownBlock=some b->lv'.ownBlock≠some b) (a3:∀ b,mv'.ownBlock=some b->lv'.ownBlock≠some b):jvH S out Mall Rall W1 mv' lv' tv' wr:=by
 subst hm hq;have hb:(jct n t.1).length<=16:=by rw[<-fQ, <-jfi];exact jcJ n t.1 16
 have o:(entN n t.1).length<=1:=by
  unfold entN keyR;split
  ·exact cC _
  ·split <;> simp
 have e:=h.tsl;have z:=h.cnt;have E:=h.lle;simp only[bQ]at e
 refine⟨M0++[t],L0++entN n t.1,jct n t.1++ts,k,M2,R2,by rw[bG];exact met,ent,?_,fun b hb=>⟨a1 b hb,a2 b hb⟩,a3,by rw[bG];simp;omega,hx,?_,?_,?_,?_⟩
 ·rw[bG,List.reverse_append,gR];exact tod
 ·rw[<-h.e1,e1];simp
 ·rw[<-h.e2,e2];simp
 ·rw[bG,bG];simp;omega
 ·rw[bG,bG];simp;omega
theorem jsU{S:vT}{out:List Pl}{k:Nat}{t:Pl}{ts M:List Pl}{R:vL}(h:jcq S out (k+1) (t :: ts) M R)(ht:t∈out):jcq S out (k+1) ts M R:=by
 cases h with
 | skip _ _ _ _ _ _ h=>exact h
 | no _ _ _ _ _ h1=>exact absurd ht h1
 | go _ _ _ _ _ _ h1=>exact absurd ht h1
theorem jw2{S:vT}{out:List Pl}{k:Nat}{t:Pl}{ts M:List Pl}{R:vL}(h:jcq S out (k+1) (t :: ts) M R)(ht:t ∉ out) :
  (jgH S t.2 none/\jcq S out (k+1) ts M R)\/∃ n M' R',M=t :: M'/\R=entN n t.1++R'/\t.1.size<=10000/\jgH S t.2 (some n)/\jcq S out k (jct n t.1++ts) M' R':=by
 cases h with
 | skip _ _ _ _ _ h1 h=>exact absurd h1 ht
 | no _ _ _ _ _ h1 h2 h=>exact .inl ⟨h2,h⟩
 | go _ _ _ n M' R' h1 h2 h3 h=>exact .inr ⟨n,M',R',rfl,rfl,h2,h3,h⟩
theorem jd6{u v v':vV}{w:vW}(h:∀ b,u.ownBlock=some b->b < w.heap.size)(ha:∀ b,u.ownBlock=some b->v.ownBlock≠some b)(r3:v'.ownBlock=v.ownBlock\/∀ b,v'.ownBlock=some b->w.heap.size<=b):∀ b,u.ownBlock=some b->v'.ownBlock≠some b:=fun b hb e=>by
 rcases r3 with r3 | r3
 ·exact ha b hb (r3 ▸ e)
 ·have:=r3 b e;have:=h b hb;omega
theorem jha{T:TypeId}{sz:Nat}{w0 w w':vW}{u v:vV}{n:Nat}{xs:List vV}(h:ORow T sz w0 w v n xs)(k:jad (fun b=>u.ownBlock=some b) w w')(ha:∀ b,v.ownBlock=some b->u.ownBlock≠some b)(hn:∀ b,u.ownBlock=some b->w0.heap.size<=b):ORow T sz w0 w' v n xs:=
 h.keeps k (fun b hb e=>ha b hb e) (fun b hb e=>by have:=hn b e;omega)
theorem WkR.pop{S:vT}{out Mall:List Pl}{Rall:vL}{W1:vW}{mv lv:vV}{g c n:Nat}{wr wr':vW}{M0:List Pl}{L0:vL}{t:Pl}{ts:List Pl}{k:Nat}{M:List Pl}{R:vL}
  (h:WkR S out Mall Rall W1 mv lv (.slice (some ⟨g,0,none⟩) (t :: ts).length c) wr M0 L0 (t :: ts) (k+1) M R) (hn:n=ts.length) (hx:jcq S out (k+1) ts M R) (e:Ext wr wr'):jvH S out Mall Rall W1 mv lv (.slice (some ⟨g,0,none⟩) n c) wr':=by
 subst hn;have o:=LRow.pop h.tod
 refine⟨M0,L0,ts,k+1,M,R,ORow.mono h.met e,ORow.mono h.ent e,ORow.mono o e,fun b hb=>h.ap1 b hb,h.ap2,h.cnt,hx,h.e1,h.e2,?_,h.lle⟩
 have:=h.tsl
 simp only[bQ]at this;omega
theorem Tryz.plcFields:jgS (Tryz.prog.underlying 154) [(false,9,0),(false,9,1)]=true:=vY
theorem Tryz.plcHeld:Tryz.prog.stoodInHeld 154=false:=vY
theorem jvk(x y x' y':vB)(w:vW):(binOp .eql 154 (.agg #[.string x,.string y]) (.agg #[.string x',.string y'])).run Tryz.prog w=.ok (.bool (x == x' && y == y')) w:=by
 obtain⟨f,g,Q,z,E,H,J,K,O⟩:=jv7 Tryz.plcFields
 have e:∀ (u v:vV) w,(part 9 #[u,v] 0).run Tryz.prog w=.ok u w:=fun u v w=>by
  simp[part,bT,Tryz.strAgg,Result.andThen,cJ]
 have o:∀ (u v:vV) w,(part 9 #[u,v] 1).run Tryz.prog w=.ok v w:=fun u v w=>by
  simp[part,bT,Tryz.strAgg,Result.andThen,cJ]
 have X:∀ d,(Op.equalIn (d+2) 154 (.agg #[.string x,.string y]) (.agg #[.string x',.string y'])).run Tryz.prog w=.ok (x == x' && y == y') w:=fun d=>by
  rw[Op.equalIn];simp only[bT,run_underlying Q,Result.andThen];simp[bT,Result.andThen,Sem.run,Tryz.plcHeld,z,E,H,J,K,O,e,o,jv6];cases (x == x')with
  | false=>simp[cJ]
  | true =>
   simp[bT,Result.andThen,Sem.run,Tryz.plcHeld,z,E,H,J,K,O,e,o,jv6];cases (y == y') <;> simp[cJ]
 have q:(Op.equal 154 (.agg #[.string x,.string y]) (.agg #[.string x',.string y'])).run Tryz.prog w=.ok (x == x' && y == y') w:=X 9998;simp only[binOp,bT,q,Result.andThen,cJ]
def jy1(W:vW)(M:List Pl)(R:vL)(e:Ending)(w':vW):Prop:=∃ u v,e=.returned (.tuple #[u,v])/\LRow W w' u M.length M/\ERow W w' v R.length R
theorem joS(W:vW)(s bm:Nat)(room:Int)(S:vT)(hs:jaz W s bm room S)(r:vB)(hr:r.size<=100000)(ov:vV)(out:List Pl)(ho:RdP W ov out)(hol:out.length<=100000){M:List Pl}{R:vL}(hW:jcq S out 400 [(⟨#[]⟩,jaC r)] M R) :
  vQ 58 #[.pointer (some ⟨s,0,none⟩),.string r,ov] W (jy1 W M R):=by
 have HS:=Hd hs;have HO:=Hd ho;have HW:=Hd hW
 obtain⟨oa,oc,k5⟩:=ho.sl
 have k6:=Hd hol;subst k5;clear hs ho hW hol;go_enter Tryz.func58,Tryz.ntmps58;go_wp2_with fail
 go_step3;go_wp2_with fail
 refine vH (jzz W r hr) fun w1 HE=>?_;go_wp2_with fail
 obtain⟨w2,d6⟩:=vE (w1.alloc (.cells #[.string ⟨#[]⟩,.string (jaC r)] 154))
 have h4:=Hd (show Ext W w2 by rw[d6];exact HE.o.alloc _);have h5:LRow W w2 (.slice (some ⟨w1.heap.size,0,none⟩) 1 1) 1 [(⟨#[]⟩,jaC r)]:=by rw[d6];exact ORow.lit #[.string ⟨#[]⟩,.string (jaC r)] HE.o vI rfl
 rw[<-d6];clear d6;have k7:=Hd h5;clear h5;go_step3;go_wp2_with fail
 go_loopw [8,9,10] (fun mv lv tv wr=>jvH S out M R W mv lv tv wr) (fun mv _ tv _=>(400 - lenV mv) * 18+lenV tv)
 case atStart =>
  exact⟨[],[],[(⟨#[]⟩,jaC r)],400,M,R,ORow.nil _ _ h4.o,ORow.nil _ _ h4.o,k7.o,(by intro b hb;constructor <;> intro e <;> cases e),(by intro b hb;cases hb),rfl,HW.o,rfl,rfl,by simp,bM _⟩
 case round =>
  obtain⟨w3,k8⟩:=vE wr
  subst k8
  obtain⟨M0,L0,ts,k,M',R',hK⟩:=hrel
  obtain⟨ma,mc,rfl⟩:=hK.met.sl
  obtain⟨la,lc,rfl⟩:=hK.ent.sl
  obtain⟨ta,c,rfl⟩:=hK.tod.sl
  have E:=Hd hK;have m5:=hK.cnt;clear hK
  by_cases hend:k=0\/ts=[]
  ·have hz:=juY E.o.wx hend
   have hM:M0=M:=by have:=E.o.e1;rw[hz.1,bR]at this;exact this
   have hR:L0=R:=by have:=E.o.e2;rw[hz.2,bR]at this;exact this
   have HF:=Hd (show LRow W w3 (.slice ma M0.length mc) M.length M/\ERow W w3 (.slice la L0.length lc) R.length R by rw[<-hM, <-hR];exact⟨E.o.met,E.o.ent⟩);clear hz hM hR
   by_cases hts:ts.length=0
   ·rw[hts]
    go_wp2_with fail
    go_ret2
    exact⟨_,_,rfl,HF.o.1,HF.o.2⟩
   ·have c1:(0:Int) < (ts.length:Int):=vO
    have c2:¬(M0.length:Int) < 400:=by
     rcases hend with h | h
     ·omega
     ·rw[h]at hts;exact absurd rfl hts
    go_wp2_with fail
    go_ret2
    exact⟨_,_,rfl,HF.o.1,HF.o.2⟩
  ·obtain⟨k,rfl⟩:∃ k',k=k'+1:=⟨k - 1,by omega⟩
   obtain⟨t,ts,rfl⟩:∃ t ts',ts=t :: ts':=by
    cases ts with
    | nil=>exact absurd (.inr rfl) hend
    | cons t ts=>exact⟨t,ts,rfl⟩
   obtain⟨g,rfl⟩:=jeD E.o.tod (by simp)
   clear hend
   obtain⟨n,hn⟩:=vE ts.length
   have HN:=Hd hn;have hl:(t :: ts).length=n+1:=by rw[hn];rfl
   rw[hl];have c1:(0:Int) < (n:Int)+1:=vO
   have c2:(M0.length:Int) < 400:=vO
   have m7:n<=10000:=by have:=E.o.tsl;rw[hl]at this;omega
   have J:=E.o.tod;rw[hl]at J;have k4:=Hd J;clear hn hl
   obtain⟨p,x⟩:=t
   have hq:=by
    have h:=J;rw[HN.o]at h;exact LRow.last (t:=(p,x)) h
   rw[<-HN.o]at hq
   obtain⟨q1,q2⟩:=hq
   have c3:(n:Int)<=(c:Int):=by have:=jkv J;omega
   clear J;go_wp2_with (refine jal Tryz.allocPlc rfl rfl ?_;intro W5 h6 h7;refine jah (vs:=[Value.string p,.string x]) rfl rfl rfl rfl h6 rfl Tryz.szPlc (jd2 _ _) ?_;intro W6 h8 h9)
   have d9:Hid (Ext w3 W6):=(h7.trans' h9 (fun z hz e=>by have e:z=w3.heap.size:=e;omega));have i0:=Hd h8;have e0:=Hd (bM w3.heap.size);clear h6 h7 h8 h9 q1 q2
   obtain⟨pb,i1⟩:=vE w3.heap.size
   rw[<-i1]at i0 ⊢;have e0:=Hd (show w3.heap.size<=pb by omega);clear i1;go_loopw [42] (fun iv w7=>jxq W6 (p,x) out iv w7) (fun iv _=>out.length - (intOf iv).toNat)
   case atStart=>exact⟨0,cC _,rfl,ExtR W6,by simp⟩
   case round =>
    obtain⟨w7,k9⟩:=vE wr
    subst k9
    obtain⟨i,hi,rfl,e3,b8⟩:=hrel
    have b5:=Hd e3;have a8:=Hd b8;have b6:=Hd (i0.o.keeps e3 (fun h=>h));clear e3 b8
    by_cases hlt:i < out.length
    ·have d1:(i:Int) < (out.length:Int):=vO
     obtain⟨q,hq⟩:∃ q,out[i]?=some q:=⟨_,bA hlt⟩
     have m8:i<=100000:=by have:=k6.o;omega
     rcases HO.o with⟨_,_,_,h0⟩ |⟨b,o,c',hh,hb,hc,hcell⟩
     ·rw[h0]at hlt;cases hlt
     cases hh
     obtain⟨q1,q2⟩:=hcell i q hq
     have e4:=(E.o.met.ext.trans d9.o).trans b5.o;have q1:=jaa q1 e4;have q2:=jaa q2 e4;have HQ:=Hd hq;clear hcell hb hc e4 hq
     obtain⟨qa,qb⟩:=q
     have i2:=Hd hlt;clear hlt
     by_cases he:qa=p/\qb=x
     ·obtain⟨rfl,rfl⟩:=he
      have e5:∀ w,(binOp .eql 154 (.agg #[.string qa,.string qb]) (.agg #[.string qa,.string qb])).run Tryz.prog w=.ok (.bool true) w:=fun w=>by rw[jvk,jhN,jhN];simp
      go_wp2_with (first
       |(refine jal Tryz.allocPlc rfl rfl ?_;intro W8 e6 e7;refine jah (vs:=[Value.string qa,.string qb]) rfl rfl rfl rfl e6 rfl Tryz.szPlc (jd2 _ _) ?_;intro W9 Q X;have a7:Ext w7 W9:=e7.trans' X (fun z hz e=>by have e:z=w7.heap.size:=e;omega);have a9:=Hd (b6.o.keeps a7 (fun h=>h)))
       |(refine jaf 154 (.tmp 11) rfl rfl _ _ rfl (jcF W9 pb qa qb a9.o) ?_)
       |(refine jaf 154 (.tmp 13) rfl rfl _ _ rfl (jcF W9 _ qa qb Q) ?_)
       |(refine jhm (.tmp 46) (.tmp 47) rfl rfl _ _ _ rfl rfl vY (e5 _) ?_))
      refine vS ?_;have e8:=Hd ((d9.o.trans b5.o).trans a7);clear a7;go_roundw
      case rel=>exact WkR.pop E.o HN.o (jsU E.o.wx (bI HQ.o)) e8.o
      case measure=>simp[lenV]
     ·have e5:∀ w,(binOp .eql 154 (.agg #[.string p,.string x]) (.agg #[.string qa,.string qb])).run Tryz.prog w=.ok (.bool false) w:=fun w=>by
       rw[jvk,jhN,jhN]
       have:(decide (p=qa) && decide (x=qb))=false:=by
        rw[Bool.and_eq_false_iff]
        by_cases h1:p=qa
        ·right;exact decide_eq_false fun h2=>he ⟨h1.symm,h2.symm⟩
        ·left;exact decide_eq_false h1
       rw[this]
      have l0:=Hd he;clear he;go_wp2_with (first
       |(refine jal Tryz.allocPlc rfl rfl ?_;intro W8 e6 e7;refine jah (vs:=[Value.string qa,.string qb]) rfl rfl rfl rfl e6 rfl Tryz.szPlc (jd2 _ _) ?_;intro W9 Q X;have a7:Ext w7 W9:=e7.trans' X (fun z hz e=>by have e:z=w7.heap.size:=e;omega);have a9:=Hd (b6.o.keeps a7 (fun h=>h)))
       |(refine jaf 154 (.tmp 11) rfl rfl _ _ rfl (jcF W9 pb p x a9.o) ?_)
       |(refine jaf 154 (.tmp 13) rfl rfl _ _ rfl (jcF W9 _ qa qb Q) ?_)
       |(refine jhm (.tmp 46) (.tmp 47) rfl rfl _ _ _ rfl rfl vY (e5 _) ?_))
      have e8:=Hd (b5.o.trans a7);clear a7;go_roundw
      case rel=>exact⟨i+1,by have:=i2.o;omega,by go_num,e8.o,by
       rw[cB,HQ.o];intro y hy;rcases bO.1 hy with hy | hy
       ·exact a8.o y hy
       ·simp at hy;rw[hy];exact fun e=>l0.o ⟨congrArg Prod.fst e,congrArg Prod.snd e⟩⟩
      case measure=>have:=i2.o;simp[intOf];omega
    ·obtain rfl:i=out.length:=vO
     have d1:¬(out.length:Int) < (out.length:Int):=vO
     have c0:(p,x) ∉ out:=fun hm=>a8.o (p,x) (by rw[cF];exact hm) rfl;have g0:=Hd c0;have e9:=Hd (d9.o.trans b5.o);have i3:=Hd (HS.o.ext (E.o.met.ext.trans e9.o));have q4:=b6.o.cell (i:=1) (v:=.string x) vF;clear c0 hi a8 b5;rcases jw2 E.o.wx g0.o with⟨hR,hx⟩ |⟨nd,M2,R2,e1,e2,i4,hR,hx⟩
     ·have HR:=Hd hR
      have b7:=Hd hx;clear hR hx;go_wp2_with fail
      refine vH (jk9 w7 s bm room S i3.o HR.o) fun W8 hE=>?_;have d7:=Hd (e9.o.trans hE);unfold jae.V;go_wp2_with (refine jal Tryz.allocNode rfl rfl ?_;intro W9 Q X;refine jah (vs:=jaV.cells) rfl rfl rfl rfl Q rfl Tryz.szNode jaV.one ?_;intro K a3 a0)
      have a1:=Hd (d7.o.trans (X.trans' a0 (fun z hz e=>by have e:z=W8.heap.size:=e;omega)));clear Q X a3 a0;refine (jj5 K).mono ?_;rintro e l1 ⟨rfl,rfl⟩;go_wp2_with fail
      go_roundw
      case rel=>exact WkR.pop E.o HN.o b7.o a1.o
      case measure=>simp[lenV]
     ·obtain⟨dg,hg⟩:=hR.good
      have b0:=hg.one (inlP dg);have m9:=b0.path;have f0:=b0.refs;have i4:p.size<=10000:=i4;have i5:=Hd f0;have c4:=Hd (nd.cells_len f0);have HR:=Hd hR;have b7:=Hd hx;have f8:=Hd e1;have b1:=Hd e2;clear hR hx e1 e2 hg b0 f0;go_wp2_with fail
      refine vC (jnG w7 s bm room S i3.o HR.o) fun W8 hE=>?_;have d7:=Hd (e9.o.trans hE);have i6:=Hd (b6.o.keeps hE (fun h=>h));clear hE q4;unfold jae.V;go_wp2_with (refine jal Tryz.allocNode rfl rfl ?_;intro W9 Q X;refine jah (vs:=nd.cells) rfl rfl rfl rfl Q (by rw[c4.o];rfl) (by rw[c4.o];exact Tryz.szNode) nd.one ?_;intro K a3 a0)
      have b2:Ext W8 K:=X.trans' a0 (fun z hz e=>by have e:z=W8.heap.size:=e;omega);have a1:=Hd (d7.o.trans b2);have c5:=Hd (i6.o.keeps b2 (fun h=>h));have c6:=Hd a3;clear Q X a3 a0 b2 i6 b6
      obtain⟨nb,i7⟩:=vE W8.heap.size
      have c7:=Hd (show w3.heap.size<=nb by have:=d7.o.size;omega);rw[<-i7]at c6 ⊢;clear i7;refine (jg0 K).mono ?_;rintro e l1 ⟨rfl,rfl⟩
      -- met
      have l2:M0.length+1<=maxLen:=by unfold maxLen;omega
      have l3:(M0.length+1) * 32<=140737488355328:=vO
      have l4:=Hd (ORow.mono E.o.met a1.o);have i8:=Hd (ORow.mono E.o.ent a1.o);have i9:LRow W w3 (.slice (some ⟨g,0,none⟩) n c) n ts.reverse:=by have:=LRow.pop E.o.tod;rw[<-HN.o]at this;exact this
      have j0:=Hd (ORow.mono i9 a1.o);clear i9;have j1:Hid (∀ z,w3.heap.size<=z->¬(Value.slice ma M0.length mc).ownBlock=some z):=(fun z hz e=>by have:=E.o.met.lt z e;omega);go_wp2_with (first
       |(refine jaf 154 (.tmp 11) rfl rfl _ _ rfl (jcF K pb p x c5.o) ?_)
       |(at_builtin;(refine ja5 Tryz.sPlcs (ORow.mono l4.o ((ExtR K).alloc _)) (.tmp 60) (.tmp 62) rfl rfl rfl (ja3 (Blk.new K _)) (news:=[.string p,.string x]) (jd2 _ _) rfl rfl l2 l3 ?_;intro n0 j2 r1 Z r3;have c8:=Hd ((c6.o.alloc _).keeps Z (j1.o _ c7.o));have c9:=Hd ((c5.o.alloc _).keeps Z (j1.o _ e0.o));have g2:=Hd (jha (ORow.mono j0.o ((ExtR K).alloc _)) Z (fun b hb=>(E.o.ap1 b hb).1) E.o.met.new);have g4:=Hd (jha (ORow.mono i8.o ((ExtR K).alloc _)) Z (fun b hb e=>E.o.ap2 b e hb) E.o.met.new);have j3:=Hd (jd6 (ORow.mono j0.o ((ExtR K).alloc _)).lt (fun b hb=>(E.o.ap1 b hb).1) r3);have d8:=Hd (jd6 (ORow.mono i8.o ((ExtR K).alloc _)).lt (fun b hb e=>E.o.ap2 b e hb) r3);have g5:=Hd r1;have l5:=c9.o.cell (i:=0) (v:=.string p) vF;obtain⟨j4,j5,rfl⟩:=r1.sl;clear r1 Z r3))
       |(refine jaf 132 (.tmp 14) rfl rfl _ _ rfl (jax j2 nb nd i5.o c8.o) ?_))
      refine (jvL j2 nd i5.o vO p vO).mono ?_;rintro e j6 ⟨bv,rfl,a4⟩;have l6:(jct nd p).length<=16:=by rw[<-fQ, <-jfi];exact jcJ nd p 16
      obtain⟨q,hq⟩:=vE (n+(jct nd p).length)
      have HQ:=Hd hq;have m6:=Hd a4.ext;have j7:=Hd a4;have j8:q<=1000000:=vO
      have j9:Hid (∀ z,w3.heap.size<=z->¬(Value.slice (some ⟨g,0,none⟩) n c).ownBlock=some z):=(fun z hz e=>by have:=E.o.tod.lt z e;omega);have d0:=Hd (ORow.mono g5.o a4.ext);have d2:=Hd (ORow.mono g4.o a4.ext);have d3:=Hd (ORow.mono g2.o a4.ext);have g6:=Hd (c8.o.keeps a4.ext (fun h=>h));have g7:=Hd (c9.o.keeps a4.ext (fun h=>h));clear a4 hq l6 l5;have d4:∀ (O:vV) (H:vW),ORow 154 2 W H O q (jb2 ts.reverse++jb2 (jct nd p).reverse)->jad (fun b=>(Value.slice (some ⟨g,0,none⟩) n c).ownBlock=some b) j6 H->(O.ownBlock=(Value.slice (some ⟨g,0,none⟩) n c).ownBlock\/∀ b,O.ownBlock=some b->j6.heap.size<=b) ->
        LRow W H (.slice j4 (M0.length+1) j5) (M0.length+1) (M0++[(p,x)])/\ERow W H (.slice la L0.length lc) L0.length L0/\LRow W H O q (ts.reverse++(jct nd p).reverse)/\(∀ b,O.ownBlock=some b->(Value.slice j4 (M0.length+1) j5).ownBlock≠some b)/\(∀ b,O.ownBlock=some b->(Value.slice la L0.length lc).ownBlock≠some b)/\Blk H nb (.cells nd.cells.toArray 132)/\Blk H pb (.cells [Value.string p,.string x].toArray 154):=fun O H r1 Z r3=>by
       refine⟨?_,jha d2.o Z (fun b hb e=>(E.o.ap1 b e).2 hb) E.o.tod.new,?_,?_,?_,g6.o.keeps Z (j9.o _ c7.o),g7.o.keeps Z (j9.o _ e0.o)⟩
       ·have:=jha d0.o Z (fun b hb e=>j3.o b e hb) E.o.tod.new
        unfold LRow;rw[jbg];exact this
       ·unfold LRow;rw[jbg];exact r1
       ·exact fun b hb e=>jd6 d0.o.lt (fun b hb e=>j3.o b e hb) r3 b e hb
       ·exact fun b hb e=>jd6 d2.o.lt (fun b hb e=>(E.o.ap1 b e).2 hb) r3 b e hb
      have d5:=Hd d4;clear d4
      by_cases hv:nd.value.size=0
      ·have l7:nd.value.toList.isEmpty=true:=by
        rw[bW]
        have:nd.value.data.toList=[]:=bE hv
        rw[this];rfl
       have a5:entN nd p=[]:=by unfold entN;rw[if_pos hv]
       have a6:=Hd a5;clear a5 hv;go_wp2_with (refine jiM Tryz.sPlcs d3.o j7.o HQ.o.symm rfl rfl j8 vI ?_;intro O H r1 Z r3;obtain⟨f1,f2,f3,f4,f5,f6,f7⟩:=d5.o O H r1 Z r3;have k0:=f6.cellL (i:=2) (v:=.string nd.value) rfl;have HF:=Hd (bB f1 (bB f2 (bB f3 (bB f4 f5))));obtain⟨l8,l9,rfl⟩:=r1.sl;clear r1 Z r3 f1 f2 f3 f4 f5 f6 f7)
       go_roundw
       case rel =>
        obtain⟨f1,f2,f3,f4,f5⟩:=HF.o
        exact WkR.go E.o f8.o b1.o b7.o f1 (show L0.length=(L0++entN nd p).length by rw[a6.o,bR]) (by rw[a6.o,bR];exact f2) HN.o (by rw[<-HQ.o];exact f3) f4 f5 (fun b hb e=>d8.o b e hb)
       case measure =>
        have:=HQ.o
        have:(jct nd p).length<=16:=by rw[<-fQ, <-jfi];exact jcJ nd p 16
        show (400 - (M0.length+1)) * 18+q < (400 - M0.length) * 18+(n+1);omega
      ·have l7:nd.value.toList.isEmpty=false:=by
        rw[bW];cases hd:nd.value.data.toList with
        | nil=>exact absurd (congrArg List.length hd) hv
        | cons x l=>rfl
       have b9:¬(9223372036854775807 < p.size+nd.path.size):=vO
       have g8:(p++nd.path).size<=1000000:=by rw[cO];omega
       have HV:=Hd hv;clear hv;go_wp2_with (refine jiM Tryz.sPlcs d3.o j7.o HQ.o.symm rfl rfl j8 vI ?_;intro O H r1 Z r3;obtain⟨f1,f2,f3,f4,f5,f6,f7⟩:=d5.o O H r1 Z r3;have k0:=f6.cellL (i:=2) (v:=.string nd.value) rfl;have m0:=f6.cellL (i:=1) (v:=.string nd.path) rfl;have m1:=f7.cell (i:=0) (v:=.string p) vF;have HF:=Hd (bB f1 (bB f2 (bB f3 (bB f4 f5))));have g9:=Hd f6;obtain⟨l8,l9,rfl⟩:=r1.sl;clear r1 Z r3 f1 f2 f3 f4 f5 f6 f7)
       refine vC (jrr H (p++nd.path) g8) fun f9 b3=>?_;unfold keyV;have a2:=Hd b3;have n1:=(g9.o.keeps b3 (fun h=>h)).cellL (i:=2) (v:=.string nd.value) rfl;clear b3 k0 m0 m1;cases hko:jdc (p++nd.path)with
       | false =>
        have a5:entN nd p=[]:=by unfold entN keyR;rw[if_neg HV.o,if_neg (by rw[hko];exact Bool.false_ne_true)]
        have a6:=Hd a5;clear a5 hko;go_wp2_with fail
        go_roundw
        case rel =>
         obtain⟨f1,f2,f3,f4,f5⟩:=HF.o
         exact WkR.go E.o f8.o b1.o b7.o (ORow.mono f1 a2.o) (show L0.length=(L0++entN nd p).length by rw[a6.o,bR]) (by rw[a6.o,bR];exact ORow.mono f2 a2.o) HN.o (by rw[<-HQ.o];exact ORow.mono f3 a2.o) f4 f5 (fun b hb e=>d8.o b e hb)
        case measure =>
         have:=HQ.o
         have:(jct nd p).length<=16:=by rw[<-fQ, <-jfi];exact jcJ nd p 16
         show (400 - (M0.length+1)) * 18+q < (400 - M0.length) * 18+(n+1);omega
       | true =>
        have a5:entN nd p=[(jbz (p++nd.path),nd.value)]:=by unfold entN keyR;rw[if_neg HV.o,if_pos hko]
        have a6:=Hd a5;clear a5 hko
        obtain⟨k1,b4⟩:=vE (jbz (p++nd.path))
        have h3:=Hd b4;have n2:L0.length<=400:=by have:=E.o.lle;omega
        have m2:L0.length+1<=maxLen:=by unfold maxLen;omega
        have m3:(L0.length+1) * 32<=140737488355328:=vO
        rw[if_pos rfl, <-b4];clear b4;go_wp2_with (at_builtin;(refine ja5 Tryz.sEnts (ORow.mono (ORow.mono HF.o.2.1 a2.o) ((ExtR f9).alloc _)) (.tmp 83) (.tmp 88) rfl rfl rfl (ja3 (Blk.new f9 _)) (news:=[.string k1,.string nd.value]) (jd2 _ _) rfl rfl m2 m3 ?_;intro n3 n4 r1 Z r3))
        have m4:=Hd r1;have k2:=Hd Z;have k3:=Hd r3
        obtain⟨n5,n6,rfl⟩:=r1.sl
        clear r1 Z r3;go_roundw
        case rel =>
         obtain⟨f1,f2,f3,f4,f5⟩:=HF.o
         have hx:=a2.o.trans ((ExtR f9).alloc (.cells #[.string k1,.string nd.value] 71));have g1:=jha (ORow.mono f1 hx) k2.o (fun b hb e=>d8.o b e hb) f2.new;have g3:=jha (ORow.mono f3 hx) k2.o (fun b hb e=>f5 b hb e) f2.new;refine WkR.go E.o f8.o b1.o b7.o g1 (m:=L0.length+1) (by rw[a6.o,bG];rfl) (by rw[a6.o];unfold ERow;rw[jbg, <-h3.o];exact m4.o) HN.o (by rw[<-HQ.o];exact g3) f4 ?_ ?_
         ·exact jd6 (ORow.mono f3 hx).lt f5 k3.o
         ·exact jd6 (ORow.mono f1 hx).lt (fun b hb e=>d8.o b e hb) k3.o
        case measure =>
         have:=HQ.o
         have:(jct nd p).length<=16:=by rw[<-fQ, <-jfi];exact jcJ nd p 16
         show (400 - (M0.length+1)) * 18+q < (400 - M0.length) * 18+(n+1);omega
end
section
open Go Go.RowKit
def rowE(e:Pair):Pair:=(jbA e.1,e.2)
theorem jmU(e:Pair):keyE (rowE e)=e:=by unfold keyE rowE;rw[jfv]
theorem jmm(l:vL):absP ⟨#[]⟩ l=l:=by
 unfold absP
 conv=>rhs;rw[<-iK l]
 exact cS fun q _=>by rw[jog];rfl
theorem jwD(x:vB):preB ⟨#[]⟩ x=true:=(jdk _ _).2 ⟨x.data.toList,rfl⟩
theorem jsz{e:Pair}{l:vL}:rowE e∈jaR l↔e∈l:=by
 constructor
 ·intro h
  obtain⟨p,o,h⟩:=bC.1 h
  have:=congrArg keyE h
  rw[show ((jbA p.1,p.2):Pair)=rowE p from rfl,jmU,jmU]at this;rw[<-this];exact o
 ·exact fun h=>bC.2 ⟨e,h,rfl⟩
theorem joJ{l:vL}(h:jat l=0)(out:List Pl):jma out l=l.filter fun e => !jeA (metT [] l) out (jbA e.1):=by
 have z:=jbt (jaw h);have q:metT [] l=topP l ::(jb9 ⟨#[]⟩ (jaR l)).flatMap fun k=>metF [] 12 k.1 k.2:=by unfold metT;rw[if_neg (cM)]
 unfold jma
 by_cases ho:topP l∈out
 ·rw[if_pos ho,eq_comm,gZ]
  intro e E;rw[q,jfE,show (topP l).1=⟨#[]⟩from rfl,jwD];simp[ho]
 ·rw[if_neg ho,jlI (f:=11) out ⟨#[]⟩ z (jnj out 11),jmm]
  have o:∀ P:Pair->Bool,(((jaR l).filter P).map keyE)=l.filter fun e=>P (rowE e):=fun P=>by
   show (((l.map rowE).filter P).map keyE)=_;rw[iV,cT];rw[cS (f:=keyE ∘ rowE) (g:=id) fun e _=>jmU e,iK];rfl
  rw[o];refine List.filter_congr fun e E=>?_;rw[q,jfE,decide_eq_false ho];rfl
theorem jrL{l:vL}(h:jat l=0){q:Pl}(e:q∈metT [] l):q=topP l\/(0 < q.1.size/\∃ m,jjK 12 ⟨#[]⟩ (jaR l) q m):=by
 have z:=jbt (jaw h);unfold metT at e;rw[if_neg (cM)]at e;rcases bK.1 e with e | e
 ·exact .inl e
 ·obtain⟨k,E,e⟩:=cI.1 e
  have o:=jfX (f:=11) z k E
  obtain⟨m,H⟩:=jus 11 _ _ o.rows o.ne q e
  refine .inr ⟨?_,m,jls (f:=11) z E e H⟩;have J:=jko (jkb 11 _ _ o.rows q e);have K:=o.more;have O:(⟨#[]⟩:vB).size=0:=rfl;omega
theorem jpt{f g:Nat}{l m:vL}(q:jaq f l)(hm:jaq g m){U:vM}(hU:InjL U)(h1:∀ x∈jam (jab (f+1) l),32<=x.size->x∈U)(h2:∀ x∈jam (jab (g+1) m),32<=x.size->x∈U) :
  jiU (jay (jbw (jab (f+1) l))) (jay (jbw (jab (g+1) m))):=by
 have o:∀ {f:Nat} {l:vL},jaq f l->(∀ x∈jam (jab (f+1) l),32<=x.size->x∈U)->∀ x∈jay (jbw (jab (f+1) l)),x∈U:=fun {f l} q h x e=>by
  by_cases hz:(jab (f+1) l).text.size < 32
  ·unfold jbw at e
   rw[if_pos hz]at e;cases e
  ·rw[jgn hz]at e
   refine h x e ?_;rcases jtQ q e with rfl | h
   ·omega
   ·exact h
 exact fun x e y z=>hU x (o q h1 x e) y (o hm h2 y z)
theorem juA(w:vW){l m:vL}(hl:jaq 12 l)(hm:jaq 12 m)(nl:l≠[])(nm:m≠[]){U:vM}(hU:InjL U)(h1:∀ x∈jam (jab 13 l),32<=x.size->x∈U)(h2:∀ x∈jam (jab 13 m),32<=x.size->x∈U)(h:refT l=refT m):l=m:=by
 obtain⟨e,o⟩:=jiH ((good 12 l hl).2.1 nl) ((good 12 m hm).2.1 nm) h (jpt hl hm hU h1 h2)
 exact jiq w 12 l m hl hm o e
theorem joT(w:vW){a b:vL}(ha:jat a=0)(hb:jat b=0){U:vM}(hU:InjL U)(h1:∀ x∈jam (jau a),x∈U)(h2:∀ x∈jam (jau b),x∈U){e:Pair}(h:jeA (metT [] a) (metT [] b) (jbA e.1)=true)(he:e∈a):e∈b:=by
 obtain⟨q,J,h⟩:=fN.1 h
 obtain⟨E,K⟩:q∈metT [] b/\preB q.1 (jbA e.1)=true:=by
  have:=iE.1 h
  exact⟨of_decide_eq_true this.1,this.2⟩
 rcases jrL ha J with e1 |⟨e1,m,hm⟩ <;> rcases jrL hb E with e2 |⟨e2,n,hn⟩
 ·have O:(topP a).2=(topP b).2:=by rw[<-e1, <-e2]
  have Q:shaB (jau a).text=shaB (jau b).text:=jjH (jbi _) (jbi _) O
  have:=hU _ (h1 _ (jbB _)) _ (h2 _ (jbB _)) Q
  rw[<-joL w ha hb (fun x z y X=>hU x (h1 x z) y (h2 y X)) this];exact he
 ·rw[e1]at e2;exact absurd e2 (Nat.lt_irrefl 0)
 ·rw[e2]at e1;exact absurd e1 (Nat.lt_irrefl 0)
 ·have:m=n:=juA w hm.rows hn.rows hm.ne hn.ne hU (fun x z o=>h1 x (hm.text x z o)) (fun x z o=>h2 x (hn.text x z o)) (hm.ref.symm.trans hn.ref)
  subst this;have Z:=hm.down (rowE e) (by rw[jmm];exact jsz.2 he) K;have H:=hn.up _ Z;rw[jmm]at H;exact jsz.1 H
theorem joU(A B:List Pl)(e:vB):jeA A B e=jeA B A e:=by
 unfold jeA;rw[iW,fN,fN];constructor <;>
 ·rintro⟨q,o,h⟩
  have:=iE.1 h
  exact⟨q,of_decide_eq_true this.1,by rw[iE];exact⟨decide_eq_true o,this.2⟩⟩
theorem jua(x:vB):jbH x x=false:=gC.2 fun h=>lt_irrefl _ ((jbr _ _).1 h)
theorem jlz(x y:vB)(h:jbH x y=true):jbH y x=false:=gC.2 fun k=>jlC _ _ ((jbr _ _).1 h) ((jbr _ _).1 k)
theorem jpA(x y z:vB)(h:jbH x y=true)(k:jbH y z=true):jbH x z=true:=(jbr _ _).2 (jdK _ _ _ ((jbr _ _).1 h) ((jbr _ _).1 k))
theorem jrB(x y:vB)(h:jbH x y=false)(k:jbH y x=false):x=y:=by
 rcases jjo x.data.toList y.data.toList with h1 | h1 | h1
 ·rw[(jbr _ _).2 h1]at h;cases h
 ·exact jbK h1
 ·rw[(jbr _ _).2 h1]at k;cases k
theorem jl5{l:vL}(h:jat l=0):jkN l:=(jaw h).rise.imp fun {p q} h=>(jbr _ _).2 h
theorem jdS{l:vL}(h:jat l=0)(P:Pair->Bool):jat (l.filter P)=0:=
 jol (fun p e=>jmZ h p (cH.1 e).1) ((jaw h).rise.filter _) (bL (dX _ _) (jaw h).len)
theorem juk(w:vW){a b:vL}(ha:jat a=0)(hb:jat b=0){U:vM}(hU:InjL U)(h1:∀ x∈jam (jau a),x∈U)(h2:∀ x∈jam (jau b),x∈U) :
  jat (jma (metT [] b) a)=0/\jat (jma (metT [] a) b)=0/\jb3 (jma (metT [] b) a) (jma (metT [] a) b)=jb3 a b:=by
 rw[joJ ha,joJ hb]
 refine⟨jdS ha _,jdS hb _,?_⟩
 unfold jb3;rw[if_pos ⟨jdS ha _,jdS hb _⟩,if_pos ⟨ha,hb⟩];rw[show (fun e:Pair => !jeA (metT [] b) (metT [] a) (jbA e.1))=fun e:Pair => !jeA (metT [] a) (metT [] b) (jbA e.1) by funext e;rw[joU]];exact jqU jua jlz jpA jrB (fun e=>jeA (metT [] a) (metT [] b) (jbA e.1)) a b (jl5 ha) (jl5 hb) fun e o =>
  ⟨joT w ha hb hU h1 h2 o,joT w hb ha hU h2 h1 (by rw[joU];exact o)⟩
inductive jbX (S:vT) (out:vM):vM->vM->vM->Prop
 | nil (L:vM):jbX S out L [] L
 | seen (L:vM) (h:vB) (hs R:vM):(h∈L\/h∈out)->jbX S out L hs R->jbX S out L (h :: hs) R
 | no (L:vM) (h:vB) (hs R:vM):h ∉ L->h ∉ out->h.size=32->atL S h.data.toList=none->jbX S out L hs R->jbX S out L (h :: hs) R
 | go (L:vM) (h:vB) (hs:vM) (y:Nd5) (n:jae) (R:vM):h ∉ L->h ∉ out->h.size=32->L.length+1<=S.length->atL S h.data.toList=some y->jbj y.2.2.text n->jbX S out (L++[h]) ((jaG n).reverse++hs) R->jbX S out L (h :: hs) R
theorem jrg{d:Nat}{n:jae}(hg:jcg (InlD d) n):∀ h∈jaG n,h.size=32:=by
 intro h o
 obtain⟨r,q,e⟩:=List.mem_filterMap.1 o
 by_cases hz:r.size=0
 ·rw[jbo hz,jeY]at e;cases e
 rcases jnY hg r q hz with⟨k,h1,h2⟩ |⟨m,hm⟩
 ·rw[h2,jd8 h1]at e
  rw[<-bV e];exact h1
 ·rw[jdH (inlP d) hm]at e;cases e
theorem jrz{α:Type}[DecidableEq α]:∀ {a b:List α},a.Nodup->(∀ x∈a,x∈b)->a.length<=b.length
 | [],b,_,_=>cC _
 | x :: a,b,hn,h=>by
  rw[cZ]at hn
  have:=jrz (b:=b.erase x) hn.2 fun y o=>(List.mem_erase_of_ne (fun e=>by subst e;exact hn.1 o)).2 (h y (bD _ o))
  rw[List.length_erase_of_mem (h x bF)]at this
  have:=List.length_pos_of_mem (h x bF)
  simp only[bQ];omega
structure jhi(S:vT)(L:vM):Prop where
 nodup:L.Nodup
 there:∀ h∈L,h.data.toList∈S.map (·.1)
theorem jhi.len{S:vT}{L:vM}(h:jhi S L):L.length<=S.length:=by
 have:=jrz (a:=L.map fun x:vB=>x.data.toList) (b:=S.map (·.1)) ?_ fun x q=>?_
 ·simpa using this
 ·have:∀ {L:vM},L.Nodup->(L.map fun x:vB=>x.data.toList).Nodup:=fun {L} h=>by
   induction L with
   | nil=>exact .nil
   | cons x L ih =>
    rw[cZ]at h;rw[bJ,cZ]
    refine⟨fun z=>?_,ih h.2⟩
    obtain⟨y,o,e⟩:=bC.1 z
    rw[jbK e]at o;exact h.1 o
  exact this h.nodup
 ·obtain⟨y,o,rfl⟩:=bC.1 q
  exact h.there y o
theorem jhi.add{S:vT}{L:vM}(h:jhi S L){k:vB}(hk:k ∉ L){y:Nd5}(hy:atL S k.data.toList=some y):jhi S (L++[k]):=by
 refine⟨dO.2 ⟨h.nodup,by simp,fun a q b hb=>?_⟩,fun x o=>?_⟩
 ·rw[bS.1 hb]
  exact fun e=>hk (e ▸ q)
 ·rcases bO.1 o with o | o
  ·exact h.there x o
  ·rw[bS.1 o]
   obtain⟨z,E⟩:=jaF hy
   exact bC.2 ⟨y,z,E⟩
theorem jov{S:vT}(hN:AllN S)(out:vM):∀ (m:Nat) (L q:vM),jhi S L->S.length<=L.length+m->(∀ h∈q,h.size=32)->∃ R,jbX S out L q R:=by
 intro m;induction m with
 | zero =>
  intro L q J Q;induction q with
  | nil=>exact fun _=>⟨L,.nil L⟩
  | cons h q ih =>
   intro o
   obtain⟨R,E⟩:=ih fun x z=>o x (bD _ z)
   by_cases h1:h∈L\/h∈out
   ·exact⟨R,.seen L h q R h1 E⟩
   ·cases hy:atL S h.data.toList with
    | none=>exact⟨R,.no L h q R (fun e=>h1 (.inl e)) (fun e=>h1 (.inr e)) (o h bF) hy E⟩
    | some y =>
     have:=(J.add (fun e=>h1 (.inl e)) hy).len
     rw[bG]at this;simp at this;omega
 | succ m ihm =>
  intro L q J Q;induction q with
  | nil=>exact fun _=>⟨L,.nil L⟩
  | cons h q ih =>
   intro o
   by_cases h1:h∈L\/h∈out
   ·obtain⟨R,E⟩:=ih fun x z=>o x (bD _ z)
    exact⟨R,.seen L h q R h1 E⟩
   ·cases hy:atL S h.data.toList with
    | none =>
     obtain⟨R,E⟩:=ih fun x z=>o x (bD _ z)
     exact⟨R,.no L h q R (fun e=>h1 (.inl e)) (fun e=>h1 (.inr e)) (o h bF) hy E⟩
    | some y =>
     obtain⟨n,K⟩:=hN y (jaF hy).1
     have H:=J.add (fun e=>h1 (.inl e)) hy;have O:=H.len;rw[bG]at O
     obtain⟨R,E⟩:=ihm (L++[h]) ((jaG n).reverse++q) H (by rw[bG];simp;omega) fun x z=>by
      rcases bO.1 z with z | z
      ·obtain⟨_,g,X⟩:=K
       exact jrg X x (List.mem_reverse.1 z)
      ·exact o x (bD _ z)
     exact⟨R,.go L h q y n R (fun e=>h1 (.inl e)) (fun e=>h1 (.inr e)) (o h bF) (by simpa using O) hy K E⟩
theorem jjv{S:vT}{out L hs R:vM}(h:jbX S out L hs R):∀ x∈L,x∈R:=by
 induction h with
 | nil L=>exact fun x e=>e
 | seen L h hs R _ _ ih=>exact ih
 | no L h hs R _ _ _ _ _ ih=>exact ih
 | go L h hs y n R _ _ _ _ _ _ _ ih=>exact fun x e=>ih x (cN _ e)
theorem jiy{S:vT}{out L hs R:vM}(h:jbX S out L hs R):L.Nodup->R.Nodup:=by
 induction h with
 | nil L=>exact id
 | seen L h hs R _ _ ih=>exact ih
 | no L h hs R _ _ _ _ _ ih=>exact ih
 | go L h hs y n R h1 _ _ _ _ _ _ ih =>
  exact fun o=>ih (dO.2 ⟨o,by simp,fun a q b hb=>by rw[bS.1 hb];exact fun e=>h1 (e ▸ q)⟩)
theorem jlZ{S:vT}{out L hs R:vM}(h:jbX S out L hs R)(Q:vB->Prop)(hQ:∀ (k:vB) (y:Nd5) (n:jae),Q k->atL S k.data.toList=some y->jbj y.2.2.text n->∀ x∈jaG n,Q x) :
  (∀ x∈hs,Q x)->∀ x∈R,x∈L\/(Q x/\x ∉ out/\x.data.toList∈S.map (·.1)):=by
 induction h with
 | nil L=>exact fun _ x e=>.inl e
 | seen L h hs R _ _ ih=>exact fun o=>ih fun x e=>o x (bD _ e)
 | no L h hs R _ _ _ _ _ ih=>exact fun o=>ih fun x e=>o x (bD _ e)
 | go L h hs y n R h1 h2 h3 _ h4 h5 _ ih =>
  intro o x e;have q:=o h bF;rcases ih (fun z E=>by
   rcases bO.1 E with E | E
   ·exact hQ h y n q h4 h5 z (List.mem_reverse.1 E)
   ·exact o z (bD _ E)) x e with h6 | h6
  ·rcases bO.1 h6 with h6 | h6
   ·exact .inl h6
   ·rw[bS.1 h6]
    obtain⟨H,J⟩:=jaF h4
    exact .inr ⟨q,h2,bC.2 ⟨y,H,J⟩⟩
  ·exact .inr h6
theorem jpI{S:vT}{out L hs R:vM}(h:jbX S out L hs R)(hL:∀ k∈L,∀ y n,atL S k.data.toList=some y->jbj y.2.2.text n->∀ x∈jaG n,x∈L\/x∈hs\/x∈out\/atL S x.data.toList=none)(w:vW) :
  (∀ x∈hs,x∈R\/x∈out\/atL S x.data.toList=none)/\∀ k∈R,∀ y n,atL S k.data.toList=some y->jbj y.2.2.text n->∀ x∈jaG n,x∈R\/x∈out\/atL S x.data.toList=none:=by
 induction h with
 | nil L =>
  refine⟨fun x e=>(cM e).elim,fun k o y n z K x e=>?_⟩
  rcases hL k o y n z K x e with h | h | h
  ·exact .inl h
  ·exact (cM h).elim
  ·exact .inr h
 | seen L h hs R z hR ih =>
  obtain⟨H,J⟩:=ih fun k o y n q E x e=>by
   rcases hL k o y n q E x e with h | h | h
   ·exact .inl h
   ·rcases bK.1 h with rfl | h
    ·exact z.elim .inl fun h=>.inr (.inr (.inl h))
    ·exact .inr (.inl h)
   ·exact .inr (.inr h)
  refine⟨fun x e=>?_,J⟩
  rcases bK.1 e with rfl | e
  ·exact z.elim (fun h=>.inl (jjv hR _ h)) fun h=>.inr (.inl h)
  ·exact H x e
 | no L h hs R z K h3 h4 hR ih =>
  obtain⟨H,J⟩:=ih fun k o y n q E x e=>by
   rcases hL k o y n q E x e with h | h | h
   ·exact .inl h
   ·rcases bK.1 h with rfl | h
    ·exact .inr (.inr (.inr h4))
    ·exact .inr (.inl h)
   ·exact .inr (.inr h)
  refine⟨fun x e=>?_,J⟩
  rcases bK.1 e with rfl | e
  ·exact .inr (.inr h4)
  ·exact H x e
 | go L h hs y n R z K h3 _ h4 h5 hR ih =>
  obtain⟨H,J⟩:=ih fun k o Q O q E x e=>by
   rcases bO.1 o with o | o
   ·rcases hL k o Q O q E x e with h | h | h
    ·exact .inl (cN _ h)
    ·rcases bK.1 h with rfl | h
     ·exact .inl (by simp)
     ·exact .inr (.inl (fJ _ h))
    ·exact .inr (.inr h)
   ·obtain rfl:=bS.1 o
    rw[h4]at q;obtain rfl:=bV q
    obtain⟨X,g1,Z⟩:=h5
    obtain⟨b1,g2,b2⟩:=E
    obtain rfl:n=O:=jdd w Z b2 (X.symm.trans b1);exact .inr (.inl (cN _ (List.mem_reverse.2 e)))
  refine⟨fun x e=>?_,J⟩
  rcases bK.1 e with rfl | e
  ·exact .inl (jjv hR _ (by simp))
  ·exact H x (fJ _ e)
theorem jtG(G:vB->Prop):∀ (f:Nat) (l:vL),jaq f l->(∀ t∈jam (jab (f+1) l),∀ n,jbj t n->G (shaB t)->∀ h∈jaG n,G h)->G (shaB (jab (f+1) l).text)->∀ t∈jam (jab (f+1) l),G (shaB t):=by
 intro f;induction f with
 | zero =>
  intro l h _ z t o;have O:jan (jab 0) l=[]:=by have:=jbv h;unfold jan;rw[if_pos vO]
  have E:jam (jab (0+1) l)=(jab (0+1) l).text :: jay (jan (jab 0) l):=by
   show jam (.mk (jaS (jak (jab 0) l)) (jan (jab 0) l))=_;rw[jam];rfl
  rw[E,O]at o;simp[jay]at o;rw[o];exact z
 | succ f ih =>
  intro l h J z t o;have E:jam (jab (f+1+1) l)=(jab (f+1+1) l).text :: jay (jan (jab (f+1)) l):=by
   show jam (.mk (jaS (jak (jab (f+1)) l)) (jan (jab (f+1)) l))=_;rw[jam];rfl
  have q:=J _ (jbB _) (jak (jab (f+1)) l) ⟨rfl,f+1,(good (f+1) l h).1⟩ z;rw[jda (f+1) l h]at q;rw[E]at o;rcases bK.1 o with rfl | o
  ·exact z
  ·obtain⟨K,H,o⟩:=jbb.1 o
   have Q:=q _ (bC.2 ⟨K,H,rfl⟩)
   obtain⟨g,m,e,rfl,X,_⟩:=jeP h H
   obtain rfl:f=g:=vO
   exact ih m X (fun x Z=>J x (by rw[E];exact bD _ (jbb.2 ⟨_,H,Z⟩))) Q t o
theorem jl0(w:vW){S:vT}{b:vL}(h:HasM S b){out R:vM}(hR:jbX S out [] [shaB (jau b).text] R)(ho:∀ t∈jam (jau b),shaB t∈out->∀ n,jbj t n->∀ x∈jaG n,x∈out) :
  ∀ k,k∈R↔(∃ t∈jam (jau b),k=shaB t)/\k ∉ out:=by
 have hr:=jbt (jaw h.ok);have hT:=(jf5 h.ok).node;have o:∀ t∈jam (jau b),∃ y,atL S (shaB t).data.toList=some y/\y.2.2.text=t:=fun t z=>h.has t z;have h1:=jlZ hR (fun k=>∃ t∈jam (jau b),k=shaB t) (fun k y n ⟨t,z,q⟩ hy E x H=>by
  subst q
  obtain⟨y',O,Q⟩:=o t z
  rw[O]at hy;obtain rfl:=bV hy;rw[Q]at E
  obtain⟨X,J,Z⟩:=hT t ((jaN _ _).2 z)
  obtain⟨a1,g1,a2⟩:=E
  obtain⟨b1,g2,b2⟩:=J
  obtain rfl:n=X:=jdd w a2 b2 (a1.symm.trans b1)
  obtain⟨t',K,e⟩:=Z x H
  exact⟨t',(jaN _ _).1 K,e⟩) (fun x H=>by rw[bS.1 H];exact⟨_,jbB _,rfl⟩)
 obtain⟨h2,h3⟩:=jpI hR (fun k q=>(cM q).elim) w
 have h4:∀ t∈jam (jau b),shaB t∈R\/shaB t∈out:=jtG (fun k=>k∈R\/k∈out) 12 (jaR b) hr (fun t z n E q x H=>by
   obtain⟨y,O,Q⟩:=o t z
   rcases q with q | q
   ·rcases h3 _ q y n O (by rw[Q];exact E) x H with h | h | h
    ·exact .inl h
    ·exact .inr h
    ·obtain⟨X,J,Z⟩:=hT t ((jaN _ _).2 z)
     obtain⟨a1,g1,a2⟩:=E
     obtain⟨b1,g2,b2⟩:=J
     obtain rfl:n=X:=jdd w a2 b2 (a1.symm.trans b1)
     obtain⟨t',K,e⟩:=Z x H
     obtain⟨y',e3,_⟩:=o t' ((jaN _ _).1 K)
     rw[e,e3]at h;cases h
   ·exact .inr (ho t z q n E x H)) (by
  rcases h2 _ bF with h | h | h
  ·exact .inl h
  ·exact .inr h
  ·obtain⟨y,O,_⟩:=o _ (jbB (jau b))
   rw[O]at h;cases h)
 refine fun k=>⟨fun q=>?_,fun ⟨⟨t,z,e⟩,E⟩=>?_⟩
 ·rcases h1 k q with h |⟨h,h',_⟩
  ·exact (cM h).elim
  ·exact⟨h,h'⟩
 ·subst e
  exact (h4 t z).resolve_right E
theorem jun(w:vW){a b:vL}(ha:jat a=0){U:vM}(hU:InjL U)(h1:∀ x∈jam (jau a),x∈U)(h2:∀ x∈jam (jau b),x∈U){A:vM}(hA:∀ k,k∈A↔∃ t∈jam (jau a),k=shaB t) :
  ∀ t∈jam (jau b),shaB t∈A->∀ n,jbj t n->∀ x∈jaG n,x∈A:=by
 intro t E H n J x K
 obtain⟨z,o,e⟩:=(hA _).1 H
 obtain rfl:=hU t (h2 t E) z (h1 z o) e
 obtain⟨O,q,Q⟩:=(jf5 ha).node t ((jaN _ _).2 o)
 obtain⟨X,g1,Z⟩:=J
 obtain⟨b1,g2,b2⟩:=q
 obtain rfl:n=O:=jdd w Z b2 (X.symm.trans b1)
 obtain⟨t2,h3,e⟩:=Q x K
 exact (hA x).2 ⟨t2,(jaN _ _).1 h3,e⟩
end
section
open Go Go.RowKit
attribute [local go_sem] Oper.semAt_some
theorem jwe(W:vW)(x:vB):vQ 126 #[.string x] W fun e w'=>e=.returned (.tuple #[])/\w'=W:=by
 go_enter Tryz.func126,Tryz.ntmps126;go_wp2_with fail
 refine bodyPost_end (results_none rfl _ _ _) rfl ?_
 exact⟨rfl,rfl⟩
theorem jy5(W:vW)(s bm:Nat)(room:Int)(S:vT)(hs:jaz W s bm room S)(k:vB)(y:Nd5)(hy:atL S k.data.toList=some y)(f:Nat)(n:jae)(hg:jcg (InlD f) n)(ht:y.2.2.text=jaS n) :
  vR 85 #[.pointer (some ⟨s,0,none⟩),.string k,.func (.func 126) #[] #[]] W (.tuple #[n.V,.bool true]):=by
 have hn:=(hg.one (inlP f)).refs;have HN:=Hd hn;have HG:=Hd hg;have HL:=Hd (n.cells_len hn);have q:=fun w (h:jaz w s bm room S)=>jiD w s bm room S k h;rw[hy]at q;simp only[gB,optV]at q;have J:=Hd q;have HS:=Hd hs
 obtain⟨t,K⟩:=vE y.2.2.text
 rw[<-K]at J ht;have HT:=Hd ht;clear q hs hg ht hn hy K;go_enter Tryz.func85,Tryz.ntmps85;go_wp2_with (refine jal Tryz.allocNode rfl rfl ?_;intro W1 O E)
 refine vC (J.o W1 (HS.o.ext E)) fun w3 H=>?_;have Q:=Hd (O.keeps H (fun h=>h));have X:=Hd (E.trans H);clear H O E;go_wp2_with fail
 refine (jwe w3 t).mono ?_;rintro e w4 ⟨rfl,rfl⟩;go_wp2_with fail
 rw[HT.o];refine vC (jjh (inlP f) w4 n HG.o) fun w5 H=>?_;rw[<-HT.o];have z:=Q.o.keeps H (fun h=>h);have Z:=Hd H;clear H Q;unfold jae.V;go_wp2_with (first |(refine jal Tryz.allocNode rfl rfl ?_;intro W5 a3 a1;refine jah (vs:=n.cells) rfl rfl rfl rfl a3 (by rw[HL.o];rfl) (by rw[HL.o];exact Tryz.szNode) n.one ?_;intro W6 a4 a2;have a0:=(z.keeps a1 (fun h=>h)).keeps a2 (by have:=z.lt;omega)) |(refine jaf 132 (.tmp 10) rfl rfl _ _ rfl (jax _ _ n HN.o a4) ?_) |(refine jah (vs:=n.cells) rfl rfl rfl rfl a0 (by rw[HL.o];rfl) (by rw[HL.o];exact Tryz.szNode) n.one ?_;intro W8 a5 a6))
 refine bodyPost_ret (jaP rfl rfl rfl (jaH W8 _ n HN.o a5)) rfl ?_;have a7:Ext W W6:=(((X.o.trans Z.o).trans a1)).trans' a2 (fun x hx e=>by have e:x=w5.heap.size:=e;have:=Z.o.size;have:=X.o.size;omega)
 exact⟨rfl,a7.trans' a6 (fun x hx e=>by have e:x=W.heap.size:=e;omega)⟩
section
variable (w0:vW) (s bm:Nat) (room:Int) (S:vT) (rb:Nat)
structure RdS0:Prop where
 st:jaz w0 s bm room S
 nodes:jhM S
 new:w0.heap.size<=rb
def jp2(f:Nat):Prop:=∀ n d,jcg (InlD d) n->∀ (W:vW) (left:Nat),Ext w0 W->RdAt W rb s left->left<=f->left<=160->vQ 127 #[.pointer (some ⟨rb,0,none⟩),n.V] W (RdO W rb s (jbP (gRef S) f n left))
def RefC(f:Nat):Prop:=∀ r d,MayP (InlD d) r->∀ (W:vW) (left:Nat),Ext w0 W->RdAt W rb s left->left<=f->left<=160->vQ 166 #[.pointer (some ⟨rb,0,none⟩),.string r] W (RdO W rb s ((gRef S r).bind fun m=>jbP (gRef S) f m left))
noncomputable def gHash(h:vB):Option jae:=(atL S h.data.toList).map fun x=>nodeOf x.2.2.text
def jxm(f:Nat):Prop:=∀ h,∀ (W:vW) (left:Nat),Ext w0 W->RdAt W rb s left->left<=f->left<=160->vQ 89 #[.pointer (some ⟨rb,0,none⟩),.string h] W (RdO W rb s ((gHash S h).bind fun m=>jbP (gRef S) f m left))
end
theorem RdAt.ext{W W':vW}{rb s left:Nat}(h:RdAt W rb s left)(e:Ext W W'):RdAt W' rb s left:=h.keeps e (fun e=>e)
theorem jrf(w0:vW)(s bm:Nat)(room:Int)(S:vT)(rb:Nat)(hR:RdS0 w0 s bm room S rb)(h:vB)(W:vW)(left:Nat)(q:Ext w0 W)(hr:RdAt W rb s left)(ha:atL S h.data.toList=none) :
  vQ 89 #[.pointer (some ⟨rb,0,none⟩),.string h] W (RdO W rb s none):=by
 have z:=jxM W s bm room S (hR.st.ext q) (.func (.func 126) #[] #[]) h ha;have H:=Hd z;have X:=Hd hr;unfold RdAt at hr;have q0:=hr.cell (i:=0) (v:=.pointer (some ⟨s,0,none⟩)) vF;clear z hr hR q ha;go_enter Tryz.func89,Tryz.ntmps89;go_wp2_with fail
 refine H.o.mono ?_;rintro e w1 ⟨rfl,q⟩;have Q:=Hd q;clear q;unfold jae.V;go_wp2_with (first |(refine jal Tryz.allocNode rfl rfl ?_;intro W5 J K;refine jah (vs:=jaV.cells) rfl rfl rfl rfl J rfl Tryz.szNode jaV.one ?_;intro Z a0 O))
 go_ret2;have E:Ext W Z:=(Q.o.trans K).trans' O (fun x hx e=>by have e:x=w1.heap.size:=e;have:=Q.o.size;omega)
 exact⟨E.mono (fun _ _ e=>e.elim),_,left,rfl,.inl rfl,X.o.ext E⟩
theorem jre(w0:vW)(s bm:Nat)(room:Int)(S:vT)(rb:Nat)(hR:RdS0 w0 s bm room S rb)(f:Nat)(hN:jp2 w0 s S rb f)(h:vB)(W:vW)(left:Nat)(J:Ext w0 W)(hr:RdAt W rb s left)(hf:left<=f)(h160:left<=160)(y:Nd5)(ha:atL S h.data.toList=some y) :
  vQ 89 #[.pointer (some ⟨rb,0,none⟩),.string h] W (RdO W rb s (jbP (gRef S) f (nodeOf y.2.2.text) left)):=by
 obtain⟨n0,K⟩:=hR.nodes y (jaF ha).1
 have hn:=jcu K
 obtain⟨n,O⟩:=vE (nodeOf y.2.2.text)
 rw[<-O]at hn ⊢
 obtain⟨ht,d,hg⟩:=hn
 have H:=(hg.one (inlP d)).refs;have a5:=Hd H;have HL:=Hd (n.cells_len H);have Q:=jy5 W s bm room S (hR.st.ext J) h y ha d n hg ht;have a6:=Hd Q;have HR:=Hd hr;have X:=Hd (show ∀ w,Ext W w->vQ 127 #[.pointer (some ⟨rb,0,none⟩),n.V] w (RdO w rb s (jbP (gRef S) f n left))from fun w e=>hN n d hg w left (J.trans e) (hr.ext e) hf h160);unfold RdAt at hr;have q0:=hr.cell (i:=0) (v:=.pointer (some ⟨s,0,none⟩)) vF
 obtain⟨o,ho⟩:=vE (jbP (gRef S) f n left)
 rw[<-ho]at X ⊢;clear Q hr hR J ha K O ht hg H hN ho;go_enter Tryz.func89,Tryz.ntmps89;go_wp2_with fail
 refine a6.o.mono ?_;rintro e w1 ⟨rfl,J⟩;have HE:=Hd J;clear J;unfold jae.V;go_wp2_with (first |(refine jal Tryz.allocNode rfl rfl ?_;intro W5 Z a0;refine jah (vs:=n.cells) rfl rfl rfl rfl Z (by rw[HL.o];rfl) (by rw[HL.o];exact Tryz.szNode) n.one ?_;intro W6 a1 a2) |(refine jaf 132 (.tmp 6) rfl rfl _ _ rfl (jax _ _ n a5.o a1) ?_))
 have a3:Ext W W6:=(HE.o.trans a0).trans' a2 (fun x hx e=>by have e:x=w1.heap.size:=e;have:=HE.o.size;omega);have HX:=Hd a3;clear a3 Z a0 a1 a2;refine (X.o W6 HX.o).mono ?_;intro e w7 hO
 obtain⟨hk,a4⟩:=hO
 cases o with
 | none =>
  obtain⟨v,l,rfl,hv,q⟩:=a4
  have E:=Hd (bB hk (bB hv q));clear hk q;rcases hv with rfl |⟨T,x,rfl⟩
  ·go_wp2_with fail
   go_ret2
   exact⟨(HX.o.mono (fun _ _ e=>e.elim)).trans E.o.1,_,l,rfl,.inl rfl,E.o.2.2⟩
  ·go_wp2_with fail
   go_ret2
   exact⟨(HX.o.mono (fun _ _ e=>e.elim)).trans E.o.1,_,l,rfl,.inr ⟨T,x,rfl⟩,E.o.2.2⟩
 | some Pl =>
  obtain⟨P,l⟩:=Pl
  obtain⟨T,x,rfl,hP,q⟩:=a4
  have E:=Hd (bB hk (bB hP q));clear hk hP q;go_wp2_with fail
  go_ret2
  exact⟨(HX.o.mono (fun _ _ e=>e.elim)).trans E.o.1,T,x,rfl,E.o.2.1.mono (fun z hz=>⟨bL HX.o.size hz.1,hz.2⟩),E.o.2.2⟩
theorem jsu(w0:vW)(s bm:Nat)(room:Int)(S:vT)(rb:Nat)(hR:RdS0 w0 s bm room S rb)(f:Nat)(hN:jp2 w0 s S rb f):jxm w0 s S rb f:=by
 intro h W left o q z e;unfold gHash;cases ha:atL S h.data.toList with
 | none=>exact jrf w0 s bm room S rb hR h W left o q ha
 | some y=>exact jre w0 s bm room S rb hR f hN h W left o q z e y ha
end
section
open Go Go.RowKit
attribute [local go_sem] Oper.semAt_some
theorem jmP(r:vB):jjZ r=jcA r:=by
 unfold jjZ jcA;cases cutN r <;> rfl
theorem juz(w0:vW)(s:Nat)(S:vT)(rb:Nat)(f:Nat)(hH:jxm w0 s S rb f)(r h:vB)(hrh:jcA r=some h)(hs:r.size<=1000)(W:vW)(left:Nat)(J:Ext w0 W)(hr:RdAt W rb s left)(hf:left<=f)(h160:left<=160) :
  vQ 166 #[.pointer (some ⟨rb,0,none⟩),.string r] W (RdO W rb s ((gHash S h).bind fun m=>jbP (gRef S) f m left)):=by
 have q:=jhD W r vO;rw[jmP,hrh]at q;unfold optV at q;have HA:=Hd q;have X:=Hd (show ∀ w,Ext W w->vQ 89 #[.pointer (some ⟨rb,0,none⟩),.string h] w (RdO w rb s ((gHash S h).bind fun m=>jbP (gRef S) f m left))from fun w e=>hH h w left (J.trans e) (hr.ext e) hf h160)
 obtain⟨o,Z⟩:=vE ((gHash S h).bind fun m=>jbP (gRef S) f m left)
 rw[<-Z]at X ⊢;clear hH hrh hs J hr hf h160 q Z;go_enter Tryz.func166,Tryz.ntmps166;go_wp2_with fail
 refine HA.o.mono ?_;rintro e w1 ⟨rfl,J⟩;have K:=Hd J;clear J;go_wp2_with fail
 refine (X.o w1 K.o).mono ?_;intro e w7 hO
 obtain⟨Q,O⟩:=hO
 cases o with
 | none =>
  obtain⟨v,l,rfl,hv,E⟩:=O
  have H:=Hd (bB Q (bB hv E));clear Q E;rcases hv with rfl |⟨T,x,rfl⟩
  ·go_wp2_with fail
   go_ret2
   exact⟨(K.o.mono (fun _ _ e=>e.elim)).trans H.o.1,_,l,rfl,.inl rfl,H.o.2.2⟩
  ·go_wp2_with fail
   go_ret2
   exact⟨(K.o.mono (fun _ _ e=>e.elim)).trans H.o.1,_,l,rfl,.inr ⟨T,x,rfl⟩,H.o.2.2⟩
 | some Pl =>
  obtain⟨P,l⟩:=Pl
  obtain⟨T,x,rfl,hP,E⟩:=O
  have H:=Hd (bB Q (bB hP E));clear Q hP E;go_wp2_with fail
  go_ret2
  exact⟨(K.o.mono (fun _ _ e=>e.elim)).trans H.o.1,T,x,rfl,H.o.2.1.mono (fun z hz=>⟨bL K.o.size hz.1,hz.2⟩),H.o.2.2⟩
theorem jwH(w0:vW)(s:Nat)(S:vT)(rb:Nat)(f:Nat)(hN:jp2 w0 s S rb f)(r:vB)(d:Nat)(n:jae)(hi:InlD (d+1) r n)(hs:r.size<=1000)(W:vW)(left:Nat)(hE:Ext w0 W)(hr:RdAt W rb s left)(hf:left<=f)(h160:left<=160) :
  vQ 166 #[.pointer (some ⟨rb,0,none⟩),.string r] W (RdO W rb s (jbP (gRef S) f n left)):=by
 have q:=jhD W r vO;rw[jmP,jdH (inlP (d+1)) hi]at q;unfold optV at q;have HA:=Hd q;have J:=(hi.1.one (inlP d)).refs;have a3:=Hd J;have HL:=Hd (n.cells_len J);have HI:=Hd (fun w=>(inlP (d+1)).inl r n hi w);have K:=Hd (show ∀ w,Ext W w->vQ 127 #[.pointer (some ⟨rb,0,none⟩),n.V] w (RdO w rb s (jbP (gRef S) f n left))from fun w e=>hN n d hi.1 w left (hE.trans e) (hr.ext e) hf h160)
 obtain⟨o,ho⟩:=vE (jbP (gRef S) f n left)
 rw[<-ho]at K ⊢;clear hN hi hs hE hr hf h160 q J ho;go_enter Tryz.func166,Tryz.ntmps166;go_wp2_with fail
 refine HA.o.mono ?_;rintro e a4 ⟨rfl,O⟩;have a5:=Hd O;clear O;go_wp2_with fail
 refine vH (HI.o a4) fun w1 hE=>?_;have HE:=Hd (a5.o.trans hE);unfold jae.V;go_wp2_with (first |(refine jal Tryz.allocNode rfl rfl ?_;intro W5 Q X;refine jah (vs:=n.cells) rfl rfl rfl rfl Q (by rw[HL.o];rfl) (by rw[HL.o];exact Tryz.szNode) n.one ?_;intro W6 Z a0) |(refine jaf 132 (.tmp 8) rfl rfl _ _ rfl (jax _ _ n a3.o Z) ?_))
 have a1:Ext W W6:=(HE.o.trans X).trans' a0 (fun x hx e=>by have e:x=w1.heap.size:=e;have:=HE.o.size;omega);have HX:=Hd a1;clear a1 Q X Z a0;refine (K.o W6 HX.o).mono ?_;intro e w7 hO
 obtain⟨hk,a2⟩:=hO
 cases o with
 | none =>
  obtain⟨v,l,rfl,hv,E⟩:=a2
  have H:=Hd (bB hk (bB hv E));clear hk E;rcases hv with rfl |⟨T,x,rfl⟩
  ·go_wp2_with fail
   go_ret2
   exact⟨(HX.o.mono (fun _ _ e=>e.elim)).trans H.o.1,_,l,rfl,.inl rfl,H.o.2.2⟩
  ·go_wp2_with fail
   go_ret2
   exact⟨(HX.o.mono (fun _ _ e=>e.elim)).trans H.o.1,_,l,rfl,.inr ⟨T,x,rfl⟩,H.o.2.2⟩
 | some Pl =>
  obtain⟨P,l⟩:=Pl
  obtain⟨T,x,rfl,hP,E⟩:=a2
  have H:=Hd (bB hk (bB hP E));clear hk hP E;go_wp2_with fail
  go_ret2
  exact⟨(HX.o.mono (fun _ _ e=>e.elim)).trans H.o.1,T,x,rfl,H.o.2.1.mono (fun z hz=>⟨bL HX.o.size hz.1,hz.2⟩),H.o.2.2⟩
theorem jyD(w0:vW)(s bm:Nat)(room:Int)(S:vT)(rb:Nat)(hR:RdS0 w0 s bm room S rb)(f:Nat)(hN:jp2 w0 s S rb f):RefC w0 s S rb f:=by
 intro r d q W left z E H e;have J:r.size<=1000:=by have:=q.size (inlP d);omega
 unfold gRef;rcases q with hh |⟨m,hi⟩
 ·obtain⟨h,K,O⟩:=hh
  have o:jcA r=some h:=by rw[O];exact jd8 K
  rw[o];exact juz w0 s S rb f (jsu w0 s bm room S rb hR f hN) r h o J W left z E H e
 ·cases d with
  | zero=>exact hi.elim
  | succ d =>
   rw[jdH (inlP (d+1)) hi];show Calls _ _ _ W (RdO W rb s (jbP (gRef S) f (inlOf r) left));rw[jn2 w0 hi];exact jwH w0 s S rb f hN r d m hi J W left z E H e
theorem jlJ(W:vW)(rb s:Nat)(n:jae)(hr:RdAt W rb s 0):vQ 127 #[.pointer (some ⟨rb,0,none⟩),n.V] W (RdO W rb s none):=by
 have z:=hr.lt;have q:=hr.ext ((ExtR W).alloc (.cells n.cells.toArray 132));have E:=Hd q;unfold RdAt at q;have H:=q.cell (i:=1) (v:=.int .i64 0) vF;clear q hr;unfold jae.V;go_enter Tryz.func127,Tryz.ntmps127;go_wp2_with fail
 go_ret2
 exact⟨((ExtR W).alloc _).mono (fun _ _ e=>e.elim),_,0,rfl,.inl rfl,E.o⟩
theorem jr2(W:vW)(rb s k:Nat)(hk:k<=160)(q v:vB)(rs:vM)(hr:RdAt W rb s (k+1)):vQ 127 #[.pointer (some ⟨rb,0,none⟩),(jae.mk 1 q v rs).V] W (RdO W rb s (some (.leaf q v,k))):=by
 have a6:=hr.lt;have a7:W.heap.size≠rb:=vO
 obtain⟨X,E⟩:=vE (W.setCell ⟨rb,1,none⟩ (.int .i64 (k:Int)))
 obtain⟨K,H⟩:=vE (X.alloc (.cells (jae.cells ⟨1,q,v,rs⟩).toArray 132))
 have a0:RdAt X rb s k:=by rw[E];exact Blk.set_same (i:=1) hr _
 have a1:X.heap.size=W.heap.size:=by rw[E];exact fU _ _ _
 have J:Ext X K:=by rw[H];exact (ExtR X).alloc _
 have Z:Blk K W.heap.size (.cells (jae.cells ⟨1,q,v,rs⟩).toArray 132):=by rw[<-a1,H];exact Blk.new X _
 have O:RdAt K rb s k:=a0.ext J;have Q:jad (fun z=>z=rb) W K:=(show jad (fun z=>z=rb) W X by rw[E];exact jad.oneSet _ ⟨rb,1,none⟩ _).trans (J.mono (fun _ _ e=>e.elim));have a4:=Hd (bB O (bB Q Z));have hA:=hr.ext ((ExtR W).alloc (.cells (jae.cells ⟨1,q,v,rs⟩).toArray 132));unfold RdAt at hA;have q1:=hA.cell (i:=1) (v:=.int .i64 ((k:Int)+1)) vF;have f1:(W.alloc (.cells (jae.cells ⟨1,q,v,rs⟩).toArray 132)).frozen? ⟨rb,1,none⟩=false:=hA.frozen;have e0:(jae.cells ⟨1,q,v,rs⟩)[0]?=some (.int .i64 1):=rfl;have e1:(jae.cells ⟨1,q,v,rs⟩)[1]?=some (.string q):=rfl;have e2:(jae.cells ⟨1,q,v,rs⟩)[2]?=some (.string v):=rfl;have HW:=Hd (bB E H);clear hr hA a0 J O Q Z E H;unfold jae.V;go_enter Tryz.func127,Tryz.ntmps127;go_wp2_with fail
 go_ret2
 obtain⟨E,H⟩:=HW.o
 rw[<-E, <-H]
 obtain⟨O,Q,Z⟩:=a4.o
 have a2:Ext K (K.alloc (.cells #[.string q,.string v] 235)):=(ExtR K).alloc _;have a5:=Blk.new K (.cells #[.string q,.string v] 235);have hz:K.heap.size=W.heap.size+1:=by rw[H,bN,a1]
 have a3:Blk (K.alloc (.cells #[.string q,.string v] 235)) (W.heap.size+1) (.cells #[.string q,.string v] 235):=by rw[<-hz];exact a5
 exact⟨Q.trans (a2.mono (fun _ _ e=>e.elim)),_,_,rfl,⟨_,rfl,⟨Nat.le_succ _,a3.lt⟩,a3⟩,O.ext a2⟩
theorem jr3(W:vW)(rb s k:Nat)(hk:k<=160)(q v:vB)(rs:vM)(hr:RdAt W rb s (k+1)):vQ 127 #[.pointer (some ⟨rb,0,none⟩),(jae.mk 0 q v rs).V] W (RdO W rb s (some (.no,k))):=by
 have a2:=hr.lt;have a3:W.heap.size≠rb:=vO
 obtain⟨Q,E⟩:=vE (W.setCell ⟨rb,1,none⟩ (.int .i64 (k:Int)))
 obtain⟨W2,H⟩:=vE (Q.alloc (.cells (jae.cells ⟨0,q,v,rs⟩).toArray 132))
 have Z:RdAt Q rb s k:=by rw[E];exact Blk.set_same (i:=1) hr _
 have a0:Q.heap.size=W.heap.size:=by rw[E];exact fU _ _ _
 have J:Ext Q W2:=by rw[H];exact (ExtR Q).alloc _
 have X:Blk W2 W.heap.size (.cells (jae.cells ⟨0,q,v,rs⟩).toArray 132):=by rw[<-a0,H];exact Blk.new Q _
 have K:RdAt W2 rb s k:=Z.ext J;have O:jad (fun z=>z=rb) W W2:=(show jad (fun z=>z=rb) W Q by rw[E];exact jad.oneSet _ ⟨rb,1,none⟩ _).trans (J.mono (fun _ _ e=>e.elim));have a1:=Hd (bB K (bB O X));have hA:=hr.ext ((ExtR W).alloc (.cells (jae.cells ⟨0,q,v,rs⟩).toArray 132));unfold RdAt at hA;have q1:=hA.cell (i:=1) (v:=.int .i64 ((k:Int)+1)) vF;have f1:(W.alloc (.cells (jae.cells ⟨0,q,v,rs⟩).toArray 132)).frozen? ⟨rb,1,none⟩=false:=hA.frozen;have e0:(jae.cells ⟨0,q,v,rs⟩)[0]?=some (.int .i64 0):=rfl;have HW:=Hd (bB E H);clear hr hA Z J K O X E H;unfold jae.V;go_enter Tryz.func127,Tryz.ntmps127;go_wp2_with fail
 go_ret2
 obtain⟨E,H⟩:=HW.o
 rw[<-E, <-H]
 obtain⟨K,O,X⟩:=a1.o
 exact⟨O,_,_,rfl,rfl,K⟩
theorem juh(w0:vW)(s:Nat)(S:vT)(rb f:Nat)(hRef:RefC w0 s S rb f)(hnew:w0.heap.size<=rb)(W:vW)(k:Nat)(hE0:Ext w0 W)(hk:k<=f)(h160:k<=159)(q v r:vB)(rs:vM)(d:Nat)(hm:MayP (InlD d) r)(hr:RdAt W rb s (k+1)):vQ 127 #[.pointer (some ⟨rb,0,none⟩),(jae.mk 2 q v (r :: rs)).V] W (RdO W rb s ((gRef S r).bind fun m=>(jbP (gRef S) f m k).map fun x=>(.ext q x.1,x.2))):=by
 have c0:=hr.lt;have b5:W.heap.size≠rb:=vO
 obtain⟨W1,H⟩:=vE (W.setCell ⟨rb,1,none⟩ (.int .i64 (k:Int)))
 obtain⟨K,J⟩:=vE (W1.alloc (.cells (jae.cells ⟨2,q,v,r :: rs⟩).toArray 132))
 have a5:RdAt W1 rb s k:=by rw[H];exact Blk.set_same (i:=1) hr _
 have a6:W1.heap.size=W.heap.size:=by rw[H];exact fU _ _ _
 have O:Ext W1 K:=by rw[J];exact (ExtR W1).alloc _
 have a7:Blk K W.heap.size (.cells (jae.cells ⟨2,q,v,r :: rs⟩).toArray 132):=by rw[<-a6,J];exact Blk.new W1 _
 have Z:RdAt K rb s k:=a5.ext O;have a2:jad (fun z=>z=rb) W K:=(show jad (fun z=>z=rb) W W1 by rw[H];exact jad.oneSet _ ⟨rb,1,none⟩ _).trans (O.mono (fun _ _ e=>e.elim));have a3:=Hd (bB Z (bB a2 a7));have hA:=hr.ext ((ExtR W).alloc (.cells (jae.cells ⟨2,q,v,r :: rs⟩).toArray 132));unfold RdAt at hA;have q1:=hA.cell (i:=1) (v:=.int .i64 ((k:Int)+1)) vF;have f1:(W.alloc (.cells (jae.cells ⟨2,q,v,r :: rs⟩).toArray 132)).frozen? ⟨rb,1,none⟩=false:=hA.frozen;have e0:(jae.cells ⟨2,q,v,r :: rs⟩)[0]?=some (.int .i64 2):=rfl;have e1:(jae.cells ⟨2,q,v,r :: rs⟩)[1]?=some (.string q):=rfl;have e3:(jae.cells ⟨2,q,v,r :: rs⟩)[3]?=some (.string r):=rfl;have a8:Ext w0 K:=hE0.trans' a2 (fun x hx e=>by have e:x=rb:=e;omega);have HC:=Hd (hRef r d hm K k a8 Z hk vO);have b6:(jae.cells ⟨2,q,v,r :: rs⟩).toArray.size=(jae.cells ⟨2,q,v,r :: rs⟩).length:=by simp
 have a0:rb < K.heap.size:=Z.lt;have c1:=Hd a0
 obtain⟨o,ho⟩:=vE ((gRef S r).bind fun m=>jbP (gRef S) f m k)
 have a9:((gRef S r).bind fun m=>(jbP (gRef S) f m k).map fun x=>(PA.ext q x.1,x.2))=o.map fun x=>(PA.ext q x.1,x.2):=by
  rw[ho];cases gRef S r with
  | none=>rfl
  | some m=>rfl
 rw[<-ho]at HC;rw[a9];have HW:=Hd (bB H J);have b0:K.heap.size=W.heap.size+1:=by rw[J,bN,a6]
 have b7:=Hd b0;have b8:=hr;clear hRef hnew hE0 hm hr hA a5 O Z a2 a7 a8 ho a9 b0 b6 a0 b8;unfold jae.V;go_enter Tryz.func127,Tryz.ntmps127;go_wp2_with fail
 rw[<-H, <-J];clear H J q1 f1;refine HC.o.mono ?_;intro e Q hO
 obtain⟨X,b1⟩:=hO
 have b2:=a3.o.2.2.keeps X (fun e=>b5 (by exact e));have q7:=b2.cellL (i:=1) e1;have a4:=Hd (a3.o.2.1.trans X);have b3:=a3.o.2.2.lt;have b9:=Hd (show W.heap.size<=Q.heap.size/\W.heap.size+1=K.heap.size/\K.heap.size<=Q.heap.size from⟨bL (Nat.le_of_lt b3) X.size,b7.o.symm,X.size⟩);clear X b2 b3;cases o with
 | none =>
  obtain⟨v7,l,rfl,hv,E⟩:=b1
  have HZ:=Hd E;clear E;rcases hv with rfl |⟨T,x,rfl⟩
  ·go_wp2_with fail
   go_ret2
   exact⟨a4.o.trans (((ExtR Q).alloc _).mono (fun _ _ e=>e.elim)),_,l,rfl,.inr ⟨_,_,rfl⟩,HZ.o.ext ((ExtR Q).alloc _)⟩
  ·go_wp2_with fail
   go_ret2
   exact⟨a4.o.trans (((ExtR Q).alloc _).mono (fun _ _ e=>e.elim)),_,l,rfl,.inr ⟨_,_,rfl⟩,HZ.o.ext ((ExtR Q).alloc _)⟩
 | some Pl =>
  obtain⟨P,l⟩:=Pl
  obtain⟨T,x,rfl,hP,E⟩:=b1
  have HZ:=Hd (bB hP E);clear hP E;go_wp2_with fail
  go_ret2
  obtain⟨hP,E⟩:=HZ.o
  have a1:Ext Q (Q.alloc (.cells #[.string q,.iface T x] 238)):=(ExtR Q).alloc _;have b4:=Blk.new Q (.cells #[.string q,.iface T x] 238)
  obtain⟨z1,z2,z3⟩:=b9.o
  refine⟨a4.o.trans (a1.mono (fun _ _ e=>e.elim)),_,_,rfl,⟨_,T,x,jkO K Q,rfl,⟨by omega,b4.lt⟩,b4,hP.keeps a1 _ _ _ (fun _ _ e=>e),fun e=>by have:=e.2;omega,fun z hz=>⟨by have:=hz.1;omega,bP hz.2 a1.size⟩⟩,E.ext a1⟩
theorem jjx{R:jae->Nat->Option (PA × Nat)}{G:vB->Option jae}{rs:vM}{k left:Nat}(h:je7 R G rs k left=none):∀ d,je7 R G rs (k+d) left=none
 | 0=>h
 | d+1=>by
  show je7 R G rs (k+d+1) left=none;rw[jfx,jjx h d];rfl
structure jxw(W:World)(rb s bb:Nat)(G:vB->Option jae)(R:jae->Nat->Option (PA × Nat))(v:vB)(rs:vM)(left:Nat)(iv:Value)(wr:World)(k:Nat)(ks:Nat->PA)(l:Nat)(vk:Nat->Value)(Dk:Nat->Nat->Prop)(D:Nat->Prop):Prop where
 le:k<=16
 iv:iv=.int .i64 (k:Int)
 rd:je7 R G rs k left=some (ks,l)
 br:BrAt v ks bb vk Dk D wr
 since:∀ z,D z->W.heap.size<=z
 rdr:RdAt wr rb s l
 kp:jad (fun z=>z=rb) W wr
theorem jkw{W:vW}{b:Nat}{n:jae}(hr:n.refs.length=16)(hB:Blk W b (.cells n.cells.toArray 132)):(Instr.loadAt 130 (.pointer (some ⟨b,3,none⟩))).run Tryz.prog W=.ok (.agg (n.refs.map Value.string).toArray) W:=by
 have e:W.rangeAt b 3 (n.refs.map Value.string):=fun j v q=>hB.cellL (by
  unfold jae.cells;rw[show 3+j=j+3 by omega];simpa using q)
 have o:=run_loadVar_mid (P:=Tryz.prog) W b 3 130 _ _ e Tryz.uRefs rfl (by simp only[bZ,hr];exact Tryz.iRefs);simp[Instr.loadAt,Instr.sureAddr,bT,Result.andThen,o]
theorem jww(w0:vW)(s:Nat)(S:vT)(rb f:Nat)(hRef:RefC w0 s S rb f)(hnew:w0.heap.size<=rb)(W:vW)(k0:Nat)(hE0:Ext w0 W)(hk:k0<=f)(h160:k0<=159)(q v:vB)(rs:vM)(d:Nat)(hrl:rs.length=16)(hm:∀ r∈rs,r.size≠0->MayP (InlD d) r)(hr:RdAt W rb s (k0+1)):vQ 127 #[.pointer (some ⟨rb,0,none⟩),(jae.mk 3 q v rs).V] W (RdO W rb s ((je7 (jbP (gRef S) f) (gRef S) rs 16 k0).map fun x=>(.br v x.1,x.2))):=by
 have d8:=hr.lt;have f0:W.heap.size≠rb:=vO
 obtain⟨W1,E⟩:=vE (W.setCell ⟨rb,1,none⟩ (.int .i64 (k0:Int)))
 obtain⟨W2,H⟩:=vE (W1.alloc (.cells (jae.cells ⟨3,q,v,rs⟩).toArray 132))
 have c3:RdAt W1 rb s k0:=by rw[E];exact Blk.set_same (i:=1) hr _
 have b1:W1.heap.size=W.heap.size:=by rw[E];exact fU _ _ _
 have a0:Ext W1 W2:=by rw[H];exact (ExtR W1).alloc _
 have b2:Blk W2 W.heap.size (.cells (jae.cells ⟨3,q,v,rs⟩).toArray 132):=by rw[<-b1,H];exact Blk.new W1 _
 have b3:RdAt W2 rb s k0:=c3.ext a0;have b4:jad (fun z=>z=rb) W W2:=(show jad (fun z=>z=rb) W W1 by rw[E];exact jad.oneSet _ ⟨rb,1,none⟩ _).trans (a0.mono (fun _ _ e=>e.elim));have d9:=Hd (bB b3 (bB b4 b2));have hA:=hr.ext ((ExtR W).alloc (.cells (jae.cells ⟨3,q,v,rs⟩).toArray 132));unfold RdAt at hA;have q1:=hA.cell (i:=1) (v:=.int .i64 ((k0:Int)+1)) vF;have f1:(W.alloc (.cells (jae.cells ⟨3,q,v,rs⟩).toArray 132)).frozen? ⟨rb,1,none⟩=false:=hA.frozen;have e0:(jae.cells ⟨3,q,v,rs⟩)[0]?=some (.int .i64 3):=rfl;have e2:(jae.cells ⟨3,q,v,rs⟩)[2]?=some (.string v):=rfl
 obtain⟨W3,K⟩:=vE (W2.alloc (.cells #[.string v,.nilIface,.nilIface,.nilIface,.nilIface,.nilIface,.nilIface,.nilIface,.nilIface,.nilIface,.nilIface,.nilIface,.nilIface,.nilIface,.nilIface,.nilIface,.nilIface] 242))
 have X:Ext W2 W3:=by rw[K];exact (ExtR W2).alloc _
 have c4:W2.heap.size=W.heap.size+1:=by rw[H,bN,b1]
 have b5:Blk W3 (W.heap.size+1) (.cells (brC v (fun _=>.nilIface)).toArray 242):=by rw[<-c4,K];exact Blk.new W2 _
 have a1:BrAt v (fun _=>.nil) (W.heap.size+1) (fun _=>.nilIface) (fun _ _=>False) (fun x=>x=W.heap.size+1) W3:=
  ⟨rfl,b5,fun i _=>⟨rfl,fun e=>e,fun _ e=>e.elim⟩,fun _ _ _ _ _ _ e=>e.elim,fun x e=>by rw[e];exact b5.lt⟩
 have b6:=jkw (n:=⟨3,q,v,rs⟩) hrl (b2.keeps X (fun e=>e));have c5:=Hd (show jxw W rb s (W.heap.size+1) (gRef S) (jbP (gRef S) f) v rs k0 (.int .i64 0) W3 0 (fun _=>.nil) k0 (fun _=>.nilIface) (fun _ _=>False) (fun x=>x=W.heap.size+1)from⟨by omega,rfl,rfl,a1,fun z e=>by rw[e];omega,b3.ext X,b4.trans (X.mono (fun _ _ e=>e.elim))⟩);have c2:=Hd hRef;have HM:=Hd hm;have e1:=Hd hrl;have e3:=Hd hE0;have e4:=Hd hnew;have e5:=Hd d8;have HF:=Hd hk
 obtain⟨o,ho⟩:=vE ((je7 (jbP (gRef S) f) (gRef S) rs 16 k0).map fun x=>(PA.br v x.1,x.2))
 have HO:=Hd ho;rw[<-ho];have HW:=Hd (bB E (bB H K));have c6:=Hd (show W.heap.size+1≠rb by omega);rw[K,H,E]at b6;clear hRef hnew hE0 hm hr hA c3 a0 b3 b4 b2 E H K X b5 a1 hrl ho c4 hk;unfold jae.V;go_enter Tryz.func127,Tryz.ntmps127;go_wp2_with (refine jaf 130 (.tmp 59) rfl rfl _ _ rfl b6 ?_)
 obtain⟨E,H,K⟩:=HW.o
 rw[<-E, <-H, <-K]
 obtain⟨bb,c7⟩:=vE (W.heap.size+1)
 rw[<-c7]at c5 c6 ⊢;clear E H K HW b6 q1 f1 b1 c7 d9;go_loopw [61] (fun iv wr=>∃ k ks l vk Dk D,jxw W rb s bb (gRef S) (jbP (gRef S) f) v rs k0 iv wr k ks l vk Dk D) (fun iv _=>16 - (intOf iv).toNat)
 case atStart=>exact⟨0,_,_,_,_,_,c5.o⟩
 case round =>
  obtain⟨k,ks,l,vk,Dk,D,h⟩:=hrel
  obtain⟨f2,rfl,c8,a1,c9,d0,d1⟩:=h
  have b7:=Hd c8;have O:=Hd a1;have a2:=Hd c9;have b8:=Hd d0;have Q:=Hd d1;clear c8 a1 c9 d0 d1
  by_cases hlt:k < 16
  ·obtain⟨r,a3⟩:∃ r,rs[k]?=some r:=⟨_,bA (by have:=e1.o;omega)⟩
   have f3:(Instr.index 130 (.agg (rs.map Value.string).toArray) (.int .i64 (k:Int))).run Tryz.prog wr=.ok (.string r) wr:=jeE Tryz.uRefs Tryz.strOne Tryz.strAgg _ k hlt _ (by rw[cA,a3];rfl) wr;have b9:rs.getD k ⟨#[]⟩=r:=by rw[bH,a3];rfl
   have J:=jfx (jbP (gRef S) f) (gRef S) rs k k0;rw[b7.o,b9]at J;have J:je7 (jbP (gRef S) f) (gRef S) rs (k+1) k0=if r.size=0 then some (ks,l)else (gRef S r).bind fun m=>(jbP (gRef S) f m l).map fun y=>(setK ks k y.1,y.2):=J
   by_cases hr0:r.size=0
   ·rw[if_pos hr0]at J
    have e6:=jbo hr0;subst e6;have f4:(⟨#[]⟩:vB).toList.isEmpty=true:=by rw[bW];rfl
    have a7:=Hd J;clear J a3 hr0 b9;go_wp2;go_roundw
    case rel=>exact⟨k+1,ks,l,vk,Dk,D,by omega,by go_num,a7.o,O.o,a2.o,b8.o,Q.o⟩
    case measure=>exact vJ
   ·rw[if_neg hr0]at J
    have e9:=jcY hr0;have d2:Ext w0 wr:=e3.o.trans' Q.o (fun x hx e=>by have e:x=rb:=e;have:=e4.o;omega);have e7:l<=k0:=jkq (fun m l y h=>bL (jkr (gRef S) f m l y h) (Nat.sub_le _ _)) k k0 _ b7.o;have HC:=Hd (c2.o r d (HM.o r (bI a3) hr0) wr l d2 b8.o (by have:=HF.o;omega) vO)
    obtain⟨o1,c0⟩:=vE ((gRef S r).bind fun m=>jbP (gRef S) f m l)
    rw[<-c0]at HC;have a5:je7 (jbP (gRef S) f) (gRef S) rs (k+1) k0=o1.map fun y=>(setK ks k y.1,y.2):=by
     rw[J,c0];cases gRef S r with
     | none=>rfl
     | some m=>rfl
    have a7:=Hd a5;have f5:=Hd (O.o.lt bb O.o.mem);clear J a5 a3 hr0 b9 d2 e7 c0;go_wp2_with fail
    refine HC.o.mono ?_;intro e w7 hO
    obtain⟨d3,d4⟩:=hO
    have a8:=Hd d3;clear d3;cases o1 with
    | none =>
     obtain⟨v7,l7,rfl,hv,a4⟩:=d4
     have HZ:=Hd a4;clear a4;have d5:=Hd (show o=none by
      rw[HO.o]
      have:=jjx (k:=k+1) a7.o (15 - k)
      rw[show k+1+(15 - k)=16 by omega]at this;rw[this];rfl)
     rcases hv with rfl |⟨T,x,rfl⟩
     ·go_wp2_with fail
      go_ret2;rw[d5.o]
      exact⟨Q.o.trans a8.o,_,l7,rfl,.inl rfl,HZ.o⟩
     ·go_wp2_with fail
      go_ret2;rw[d5.o]
      exact⟨Q.o.trans a8.o,_,l7,rfl,.inl rfl,HZ.o⟩
    | some Pl =>
     obtain⟨P,l7⟩:=Pl
     obtain⟨T,x,rfl,hP,a4⟩:=d4
     have a6:∀ z,D z->¬ z=rb:=fun z Z e=>by have:=a2.o z Z;have:=e5.o;omega
     have a9:=O.o.keeps a8.o (fun z Z=>a6 z Z);have hg:=a9.give hlt hP (fun z Z=>⟨fun e=>by have:=O.o.lt z e;have:=Z.1;omega,Z.2⟩)
     obtain⟨W8,b0⟩:=vE (w7.setCell ⟨bb,1+k,none⟩ (.iface T x))
     rw[<-b0]at hg;have c1:jad (fun z=>z=bb) w7 W8:=by rw[b0];exact jad.oneSet w7 ⟨bb,1+k,none⟩ (.iface T x)
     have d6:RdAt W8 rb s l7:=a4.keeps c1 (fun e=>c6.o e.symm);have d7:jad (fun z=>z=rb) W W8:=(Q.o.trans a8.o).trans' c1 (fun z Z e=>by have e:z=bb:=e;have:=a2.o bb O.o.mem;omega)
     obtain⟨old,q7⟩:∃ v,w7.cell? ⟨bb,1+k,none⟩=some v:=⟨_,a9.blk.cellL (bA (by rw[jgM];omega))⟩
     have f7:w7.frozen? ⟨bb,1+k,none⟩=false:=a9.blk.frozen;have HG:=Hd (bB hg (bB d6 (bB d7 (show ∀ z,(D z\/jkO wr w7 z)->W.heap.size<=z from fun z Z=>Z.elim (a2.o z) (fun e=>bL Q.o.size e.1)))));have e8:=Hd b0;clear hP a4 a6 a9 hg c1 d6 d7 b0;go_wp2_with fail
     rw[<-e8.o];clear q7 f7;go_roundw
     case rel=>exact⟨k+1,_,l7,_,_,_,by omega,by go_num,a7.o,HG.o.1,HG.o.2.2.2,HG.o.2.1,HG.o.2.2.1⟩
     case measure=>exact vJ
  ·obtain rfl:k=16:=vO
   go_wp2_with fail
   go_ret2;rw[HO.o,b7.o]
   exact⟨Q.o,_,_,rfl,O.o.pa.at'.mono (fun z Z=>⟨a2.o z Z,O.o.lt z Z⟩),b8.o⟩
theorem jsw(w0:vW)(s bm:Nat)(room:Int)(S:vT)(rb:Nat)(hR:RdS0 w0 s bm room S rb):∀ f,jp2 w0 s S rb f
 | 0=>fun n d H W left z o J q=>by
  obtain rfl:left=0:=vO
  rw[jjy];exact jlJ W rb s n o
 | f+1=>fun n d H W left z o J q=>by
  have e:=jyD w0 s bm room S rb hR f (jsw w0 s bm room S rb hR f);cases left with
  | zero =>
   rw[jjy];exact jlJ W rb s n o
  | succ k =>
   rw[jek,if_neg (iB k)];cases H with
   | none=>exact jr3 W rb s k vO _ _ _ o
   | leaf p v h1 h2 h3=>exact jr2 W rb s k vO p v _ o
   | ext p r h1 h2 h3 =>
    have E:MayP (InlD d) r:=h3.imp id (fun ⟨m,E,_⟩=>⟨m,E⟩);exact juh w0 s S rb f e hR.new W k z vO vO p ⟨#[]⟩ r (jav 15) d E o
   | branch v rs h1 h2 h3 h4=>exact jww w0 s S rb f e hR.new W k z vO vO ⟨#[]⟩ v rs d h1 h3 o
def jyU(W:vW)(o:Option (PA × Nat))(e:Ending)(w':vW):Prop:=Ext W w'/\match o with
 | some (P,_)=>∃ T x,e=.returned (.tuple #[.iface T x,.bool true])/\PaAt P (.iface T x) (jkO W w') w'
 | none=>∃ v,e=.returned (.tuple #[v,.bool false])/\(v=.nilIface\/∃ T x,v=.iface T x)
noncomputable def readR(S:vT)(root:vB):Option (PA × Nat):=(gHash S root).bind fun m=>jbP (gRef S) 160 m 160
theorem jw0(W:vW)(s bm:Nat)(room:Int)(S:vT)(hs:jaz W s bm room S)(hN:jhM S)(root:vB) :
  vQ 48 #[.pointer (some ⟨s,0,none⟩),.string root] W (jyU W (readR S root)):=by
 obtain⟨J,q⟩:=vE (W.alloc (.cells #[.pointer (some ⟨s,0,none⟩),.int .i64 160] 144))
 have E:Ext W J:=by rw[q];exact (ExtR W).alloc _
 have K:RdAt J W.heap.size s 160:=by rw[q];exact Blk.new W _
 have X:RdS0 W s bm room S W.heap.size:=⟨hs,hN,bM _⟩;have Q:=jsu W s bm room S W.heap.size X 160 (jsw W s bm room S W.heap.size X 160) root J 160 E K (bM _) (bM _)
 obtain⟨o,Z⟩:=vE (readR S root)
 have Q:vQ 89 #[.pointer (some ⟨W.heap.size,0,none⟩),.string root] J (RdO J W.heap.size s o):=by rw[Z];exact Q
 have HC:=Hd Q;have HE:=Hd E;have HW:=Hd q;rw[<-Z];clear hs hN K X Q Z E q;go_enter Tryz.func48,Tryz.ntmps48;go_wp2_with fail
 rw[<-HW.o];refine HC.o.mono ?_;intro e w7 hO
 obtain⟨hk,O⟩:=hO
 have hX:Ext W w7:=HE.o.trans' hk (fun x hx e=>by have e:x=W.heap.size:=e;omega);have HX:=Hd hX;clear hk hX;cases o with
 | none =>
  obtain⟨v,l,rfl,hv,H⟩:=O
  clear H;rcases hv with rfl |⟨T,x,rfl⟩
  ·go_wp2_with fail
   go_ret2
   exact⟨HX.o,_,rfl,.inl rfl⟩
  ·go_wp2_with fail
   go_ret2
   exact⟨HX.o,_,rfl,.inr ⟨T,x,rfl⟩⟩
 | some Pl =>
  obtain⟨P,l⟩:=Pl
  obtain⟨T,x,rfl,hP,H⟩:=O
  have HZ:=Hd hP;clear hP H;go_wp2_with fail
  go_ret2
  exact⟨HX.o,T,x,rfl,HZ.o.mono (fun z hz=>⟨bL HE.o.size hz.1,hz.2⟩)⟩
theorem jnT(w:vW){S:vT}{f:Nat}{m:vL}(h:jaq f m)(hn:m≠[])(hS:32<=(jab (f+1) m).text.size->HasS S (jab (f+1) m).text):gRef S (refB (jab (f+1) m).text)=some (jak (jab f) m):=by
 have e:=(good f m h).2.1 hn;unfold gRef
 by_cases hz:(jab (f+1) m).text.size < 32
 ·have q:=e.may.2 hz
  rw[jdH (inlP (f+1)) q,jn2 w q]
 ·rw[jgy hz,jd8 (jbi _)]
  obtain⟨x,o,E⟩:=hS vO
  have o:atL S (shaB (jab (f+1) m).text).data.toList=some x:=o;show (atL S (shaB (jab (f+1) m).text).data.toList).map (fun x=>nodeOf x.2.2.text)=_;rw[o];show some (nodeOf x.2.2.text)=_;have z:jbj (jab (f+1) m).text (jak (jab f) m):=⟨e.text,f,e.good⟩;rw[E,jcX w (jcu z) z]
theorem jpO(w:vW)(S:vT):∀ (g:Nat) (l:vL),jaq g l->(∀ x∈jay (jan (jab g) l),32<=x.size->HasS S x)->∀ (f left:Nat),cntT g l<=left->left<=f->jbP (gRef S) f (jak (jab g) l) left=some (ja0 (g+1) l,left - cntT g l):=by
 intro g;have q:∀ (g:Nat) (l:vL),l.length<=1->cntT g l=1->∀ (f left:Nat),cntT g l<=left->left<=f->jbP (gRef S) f (jak (jab g) l) left=some (ja0 (g+1) l,left - cntT g l):=by
  intro g l hl hc f left O h2;rw[hc]at O ⊢;cases f with
  | zero=>omega
  | succ f =>
   rw[jek,if_neg vO]
   by_cases h0:l.length=0
   ·have e:jak (jab g) l=jaV:=by unfold jak;rw[if_pos h0]
    rw[e,jbQ _ h0];rfl
   ·have a1:l.length=1:=vO
    have e:jak (jab g) l=⟨1,(l.getD 0 pd).1,(l.getD 0 pd).2,jav 16⟩:=by unfold jak;rw[if_neg h0,if_pos a1]
    rw[e,jbT _ a1];rfl
 induction g with
 | zero =>
  intro l h hS f left O h2;exact q 0 l (jbv h) rfl f left O h2
 | succ g ih =>
  intro l h hS f left O h2
  by_cases hl:l.length<=1
  ·exact q (g+1) l hl (by unfold cntT;rw[if_pos hl]) f left O h2
  have Q:2<=l.length:=vO
  have E:∀ m,jaq g m->m≠[]->(∀ x∈jay (jbw (jab (g+1) m)),x∈jay (jan (jab (g+1)) l))->(32<=(jab (g+1) m).text.size->HasS S (jab (g+1) m).text)/\∀ x∈jay (jan (jab g) m),32<=x.size->HasS S x:=by
   intro m hm a4 H
   refine⟨fun hz=>hS _ (H _ ?_) hz,fun x X hz=>?_⟩
   ·rw[jgn vO];exact jbB _
   ·by_cases hs:(jab (g+1) m).text.size < 32
    ·have a5:=(good g m hm).2.1 a4
     have e:(jab (g+1) m).kids=[]:=a5.small hs;have e:jan (jab g) m=[]:=e;rw[e]at X;cases X
    ·refine hS x (H x ?_) hz
     rw[jgn hs];exact bD _ X
  cases f with
  | zero =>
   exfalso
   have:1<=cntT (g+1) l:=by unfold cntT;omega
   omega
  | succ f =>
   by_cases hk:0 < comK l
   ·obtain⟨J,Z,_,_⟩:=jd0 h Q hk
    have eB:jan (jab (g+1)) l=jbw (jab (g+1) (jag (comK l) l)):=by unfold jan;rw[if_neg vO,if_pos hk]
    have eN:jak (jab (g+1)) l=⟨2,(l.getD 0 pd).1.extract 0 (comK l),⟨#[]⟩,refB (jab (g+1) (jag (comK l) l)).text :: jav 15⟩:=by unfold jak;rw[if_neg vO,if_neg vO,if_pos hk]
    have eC:cntT (g+1) l=1+cntT g (jag (comK l) l):=by
     show 1+(if l.length<=1 then 0 else if 0 < comK l then cntT g (jag (comK l) l)else _)=_;rw[if_neg vO,if_pos hk]
    obtain⟨s1,s2⟩:=E _ J Z (fun x X=>by rw[eB];exact X)
    rw[eC]at O ⊢;rw[jek,if_neg vO,eN,jdt _ Q hk];show ((gRef S (refB (jab (g+1) (jag (comK l) l)).text)).bind fun m=>(jbP (gRef S) f m (left - 1)).map fun x=>(PA.ext ((l.getD 0 pd).1.extract 0 (comK l)) x.1,x.2))=_;rw[jnT w J Z s1];show (jbP (gRef S) f (jak (jab g) (jag (comK l) l)) (left - 1)).map _=_;rw[ih _ J s2 f (left - 1) vO vO];show some (_,left - 1 - cntT g (jag (comK l) l))=some (_,left - (1+cntT g (jag (comK l) l)))
    congr 2
    omega
   ·have eB:jan (jab (g+1)) l=(List.range 16).flatMap fun i=>if (cutL i l).length=0 then []else jbw (jab (g+1) (jag 1 (cutL i l))):=by unfold jan;rw[if_neg vO,if_neg hk]
    obtain⟨rs,a2⟩:=vE ((List.range 16).map fun i=>if (cutL i l).length=0 then (⟨#[]⟩:vB)else refB (jab (g+1) (jag 1 (cutL i l))).text)
    have eN:jak (jab (g+1)) l=⟨3,⟨#[]⟩,if (l.getD 0 pd).1.size=0 then (l.getD 0 pd).2 else ⟨#[]⟩,rs⟩:=by rw[a2];unfold jak;rw[if_neg vO,if_neg vO,if_neg hk]
    obtain⟨c,hc⟩:∃ c:Nat->Nat,c=fun i=>if (cutL i l).length=0 then 0 else cntT g (jag 1 (cutL i l)):=⟨_,rfl⟩
    have eC:cntT (g+1) l=1+sumF c 16:=by
     rw[hc];show 1+(if l.length<=1 then 0 else if 0 < comK l then _ else _)=_;rw[if_neg vO,if_neg hk]
    obtain⟨o,z⟩:∃ o:Nat->PA,o=fun i=>if (cutL i l).length=0 then PA.nil else ja0 (g+1) (jag 1 (cutL i l)):=⟨_,rfl⟩
    rw[eC]at O ⊢;have a0:∀ k,k<=16->je7 (jbP (gRef S) f) (gRef S) rs k (left - 1)=some (fun i=>if i < k then o i else .nil,left - 1 - sumF c k):=by
     intro k;induction k with
     | zero=>intro _;simp[je7,sumF]
     | succ k ihk =>
      intro a6;rw[jfx,ihk vO];have a3:rs.getD k ⟨#[]⟩=if (cutL k l).length=0 then (⟨#[]⟩:vB)else refB (jab (g+1) (jag 1 (cutL k l))).text:=by rw[a2,jfs _ vO]
      show (if (rs.getD k ⟨#[]⟩).size=0 then some (_,left - 1 - sumF c k)else (gRef S (rs.getD k ⟨#[]⟩)).bind fun m=>(jbP (gRef S) f m (left - 1 - sumF c k)).map fun y=>(setK (fun i=>if i < k then o i else .nil) k y.1,y.2))=_;have K:sumF c (k+1)=sumF c k+c k:=rfl
      by_cases hc0:(cutL k l).length=0
      ·rw[a3,if_pos hc0,if_pos (show (⟨#[]⟩:vB).size=0 from rfl),K]
       have e1:c k=0:=by rw[hc];exact if_pos hc0
       have e2:o k=.nil:=by rw[z];exact if_pos hc0
       rw[e1,gQ]
       congr 2
       funext i
       by_cases hi:i < k
       ·rw[if_pos hi,if_pos vO]
       ·rw[if_neg hi]
        by_cases he:i=k
        ·rw[he,if_pos vO,e2]
        ·rw[if_neg vO]
      ·obtain⟨J,Z⟩:=jeO h hc0
       obtain⟨s1,s2⟩:=E _ J Z (fun x X=>by
        rw[eB,jgW];exact cI.2 ⟨k,dQ.2 vO,by rw[if_neg hc0];exact X⟩)
       have e1:c k=cntT g (jag 1 (cutL k l)):=by rw[hc];exact if_neg hc0
       have e2:o k=ja0 (g+1) (jag 1 (cutL k l)):=by rw[z];exact if_neg hc0
       have a7:sumF c (k+1)<=sumF c 16:=by
        have:=jel c (k+1) (15 - k)
        rwa [show k+1+(15 - k)=16 by omega]at this
       rw[a3,if_neg hc0,if_neg (jks J Z),jnT w J Z s1];show (jbP (gRef S) f (jak (jab g) (jag 1 (cutL k l))) (left - 1 - sumF c k)).map _=_;rw[ih _ J s2 f _ vO vO, <-e1, <-e2,K];show some (setK _ k (o k),_)=some (_,_)
       congr 2
       ·funext i
        unfold setK
        by_cases he:i=k
        ·rw[if_pos he,he,if_pos vO]
        ·rw[if_neg he]
         show (if i < k then o i else PA.nil)=_
         by_cases hi:i < k
         ·rw[if_pos hi,if_pos vO]
         ·rw[if_neg hi,if_neg vO]
       ·omega
    rw[jek,if_neg vO,eN,jeB _ Q hk];show (je7 (jbP (gRef S) f) (gRef S) rs 16 (left - 1)).map (fun x=>(PA.br (if (l.getD 0 pd).1.size=0 then (l.getD 0 pd).2 else ⟨#[]⟩) x.1,x.2))=_;rw[a0 16 (bM _), <-z];show some (PA.br _ (fun i=>if i < 16 then o i else .nil),left - 1 - sumF c 16)=some (PA.br _ o,left - (1+sumF c 16));have e3:(fun i=>if i < 16 then o i else .nil)=o:=by
     funext i
     by_cases hi:i < 16
     ·rw[if_pos hi]
     ·rw[if_neg hi,z]
      show PA.nil=if (cutL i l).length=0 then PA.nil else _
      rw[if_pos (by
       cases hz:(cutL i l).length with
       | zero=>rfl
       | succ n=>exact absurd (jxU h (i:=i) vO) hi)]
    rw[e3]
    congr 2
    omega
theorem jjT:∀ (g:Nat) (l:vL),jaq g l->cntP (ja0 (g+1) l)=cntT g l:=by
 intro g;have e:∀ (g:Nat) (l:vL),l.length<=1->cntP (ja0 (g+1) l)=1:=by
  intro g l q
  by_cases h0:l.length=0
  ·rw[jbQ _ h0];rfl
  ·rw[jbT _ vO];rfl
 induction g with
 | zero=>intro l h;exact e 0 l (jbv h)
 | succ g ih =>
  intro l h
  by_cases q:l.length<=1
  ·rw[e _ l q]
   show 1=1+(if l.length<=1 then 0 else _);rw[if_pos q]
  have o:2<=l.length:=vO
  show _=1+(if l.length<=1 then 0 else if 0 < comK l then cntT g (jag (comK l) l)else sumF (fun i=>if (cutL i l).length=0 then 0 else cntT g (jag 1 (cutL i l))) 16);rw[if_neg q]
  by_cases hk:0 < comK l
  ·rw[if_pos hk,jdt _ o hk]
   show 1+cntP (ja0 (g+1) (jag (comK l) l))=_;rw[ih _ (jd0 h o hk).1]
  ·rw[if_neg hk,jeB _ o hk]
   show 1+sumF (fun i=>cntP (if (cutL i l).length=0 then PA.nil else ja0 (g+1) (jag 1 (cutL i l)))) 16=_
   congr 2
   funext i
   by_cases hc:(cutL i l).length=0
   ·rw[if_pos hc,if_pos hc];rfl
   ·rw[if_neg hc,if_neg hc,ih _ (jeO h hc).1]
theorem jjS{l:vL}(h:js4 l):cntT 12 (jaR l)<=118:=by
 have e:=jbt h
 by_cases hn:jaR l=[]
 ·rw[hn];decide
 ·have o:=(ju8 12 _ e hn).all
  have q:=h.len;have z:(jaR l).length=l.length:=by unfold jaR;rw[bZ]
  omega
theorem jso(w:vW){S:vT}{l:vL}(h:HasM S l):∃ k,readR S (shaB (jau l).text)=some (ja0 13 (jaR l),k):=by
 have o:=jbt (jaw h.ok)
 obtain⟨x,e,z⟩:=h.has _ (jbB _)
 have e:atL S (shaB (jau l).text).data.toList=some x:=e;have q:jbj (jau l).text (jak (jab 12) (jaR l)):=⟨rfl,12,(good 12 _ o).1⟩;unfold readR gHash;rw[e];show ∃ k,jbP (gRef S) 160 (nodeOf x.2.2.text) 160=_;rw[z,jcX w (jcu q) q];have H:=jjS (jaw h.ok)
 exact⟨_,jpO w S 12 _ o (fun y E _=>h.has y (bD _ E)) 160 160 vO (bM _)⟩
end
end Go.Proofs.YtmobgkphhbmhbaaGreatDoor
