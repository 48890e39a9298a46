/- Lemmas; each is under no condition but those that it states. -/
import Derived.Test.YtdofbjccfkaijaaGreatDoorPn24
import Derived.Test.YtdofbjccfkaijaaGreatDoorPn26
namespace Go.Proofs.YtdofbjccfkaijaaGreatDoor
set_option linter.unusedSimpArgs false
set_option linter.unusedVariables false
set_option maxRecDepth 100000
set_option maxHeartbeats 16000000
section
open Go Go.RowKit
attribute [local go_sem] Oper.semAt_some
theorem Tryz.infoPlc:(Tryz.prog.info? 146).map (fun i=>(i.zero,i.size,i.bytes))=some (some (.agg #[.string ⟨#[]⟩,.string ⟨#[]⟩]),2,32):=vY
theorem Tryz.uPlcs:Tryz.prog.underlying 84=some (.slice 146):=vY
theorem Tryz.sPlcs:jd0 Tryz.prog 84 146 2 32:=jd0.mk' Tryz.uPlcs Tryz.infoPlc rfl vI
abbrev LRow(w0 w:vW)(v:vV)(n:Nat)(xs:List Pl):Prop:=ORow 146 2 w0 w v n (jb8 xs)
theorem Tryz.allocPlc(w:vW):(Instr.alloc 146 true (.tuple #[])).run Tryz.prog w=.ok (.pointer (some ⟨w.heap.size,0,none⟩)) (w.alloc (.cells [Value.string ⟨#[]⟩,.string ⟨#[]⟩].toArray 146)):=vY
theorem Tryz.szPlc:(Tryz.prog.info? 146).map (·.size)=some 2:=vY
theorem Tryz.isPlc:jgG (Tryz.prog.underlying 146)=true:=vY
theorem jcQ(W:vW)(b:Nat)(x y:vB)(hB:Blk W b (.cells [Value.string x,.string y].toArray 146)):(Instr.loadAt 146 (.pointer (some ⟨b,0,none⟩))).run Tryz.prog W=.ok (.agg [Value.string x,.string y].toArray) W:=by
 obtain⟨z,e⟩:=jfR Tryz.isPlc
 exact jd9 e Tryz.szPlc (fun j v o=>by rw[jhU];exact hB.cellL o)
def plc1(n:jad)(p:vB)(i:Nat):List Pl:=if (n.refs.getD i ⟨#[]⟩).size=0 then []else [((p++n.path)++(if n.kind=3 then nib1 i else ⟨#[]⟩),n.refs.getD i ⟨#[]⟩)]
def belJ(n:jad)(p:vB)(j:Nat):List Pl:=(revJ j).flatMap (plc1 n p)
theorem jgs(n:jad)(p:vB){j:Nat}(h:j < 16):belJ n p (j+1)=belJ n p j++plc1 n p (15 - j):=by
 unfold belJ;rw[jtH h,dR];simp
theorem jvY(n:jad)(p:vB)(i:Nat):(plc1 n p i).reverse=plc1 n p i:=by unfold plc1;split <;> rfl
theorem jfx(n:jad)(p:vB):belJ n p 16=(jcC n p).reverse:=by
 have:=jpG (plc1 n p) (jvY n p) (List.range 16)
 exact List.reverse_eq_iff.1 this
theorem jcU(n:jad)(p:vB):∀ j,(belJ n p j).length<=j
 | 0=>bL _
 | j+1=>by
  by_cases h:j < 16
  ·have:=jcU n p j
   rw[jgs n p h,bC]
   have:(plc1 n p (15 - j)).length<=1:=by unfold plc1;split <;> simp
   omega
  ·have e:=jcU n p j
   have:belJ n p (j+1)=belJ n p j:=by unfold belJ revJ;rw[bN (by simp;omega),bN (by simp;omega)]
   rw[this];omega
theorem jtV{w:vW}(m b:Nat)(hB:Blk w b (.cells #[.int .u8 (m:Int)] 5))(hm:m < 16):(convert 132 9 (.slice (some ⟨b,0,none⟩) 1 1)).run Tryz.prog w=.ok (.string (nib1 m)) w:=by
 have e:(m:Int)=((UInt8.ofNat m).toNat:Int):=by rw[jok m vO]
 have o:w.ownsRow 0 5 1 (.slice (some ⟨b,0,none⟩) 1 1) 1 (jaL [UInt8.ofNat m]):=
  ⟨rfl,.inr ⟨_,1,_,rfl,cE _,hB,bL _,by unfold maxLen;omega,rfl,by rw[e];rfl⟩⟩
 exact jbA w Tryz.uBytes Tryz.uU8 Tryz.uStr o
theorem jna{ops:Array Oper}{rest:List Oper}{d:Option Tmp}{ty:TypeId}{pos:String}{af:Array Edge}{x:Operand}{a:Act}{w:vW}{Q:Exit->Act->vW->Prop}(m b:Nat)(hx:a.eval x=.slice (some ⟨b,0,none⟩) 1 1)(hB:Blk w b (.cells #[.int .u8 (m:Int)] 5))(hm:m < 16)
  (h:wpList Tryz.prog ops Q rest (a.put d (.string (nib1 m))) w):wpList Tryz.prog ops Q (⟨d,.convert 132 9 x,ty,pos,af,none⟩ :: rest) a w:=by
 refine wpList_plain rfl fun K e=>jcb (v:=.string (nib1 m)) (w':=w) ?_ (e _ _ h);simp only[execOp,hx,bX,jtV m b hB hm,Result.andThen,cO]
def jyY(W1:vW)(n:jad)(p:vB)(lv iv:vV)(wr:vW):Prop:=∃ j:Nat,j<=16/\iv=.int .i64 (15 - (j:Int))/\LRow W1 wr lv (belJ n p j).length (belJ n p j)
theorem jxp(W:vW)(n:jad)(hr:n.refs.length=16)(c2:n.path.size<=100)(p:vB)(hp:p.size<=100000) :
  vQ 81 #[n.V,.string p] W fun e w'=>∃ v,e=.returned v/\LRow W w' v (jcC n p).length (jcC n p).reverse:=by
 obtain⟨k,A,H,E⟩:=n
 have hr:E.length=16:=hr;have c2:A.size<=100:=c2;have hl:(jad.cells ⟨k,A,H,E⟩).length=19:=jad.cells_len _ hr;have HL:=Hd hl;have HR:=Hd hr;clear hl hr;unfold jad.V;have e0:(jad.cells ⟨k,A,H,E⟩)[0]?=some (.int .i64 k):=rfl;have e1:(jad.cells ⟨k,A,H,E⟩)[1]?=some (.string A):=rfl;rw[<-fI, <-jfx];go_enter Tryz.func81,Tryz.ntmps81;go_wp2_with fail
 have hE:Ext W (W.alloc (.cells (jad.cells ⟨k,A,H,E⟩).toArray 94)):=(ExtR W).alloc _;have hB:=Blk.new W (.cells (jad.cells ⟨k,A,H,E⟩).toArray 94)
 obtain⟨W1,c3⟩:=vE (W.alloc (.cells (jad.cells ⟨k,A,H,E⟩).toArray 94))
 rw[<-c3]at hE hB ⊢;have HE:=Hd hE;have HB:=Hd hB;clear c3 hE hB;go_loopw [5,6] (fun lv iv wr=>jyY W1 ⟨k,A,H,E⟩ p lv iv wr) (fun _ iv _=>(intOf iv+1).toNat)
 case atStart=>exact⟨0,by omega,rfl,ORow.nil _ _ (ExtR W1)⟩
 case round =>
  obtain⟨j,hj,rfl,hR⟩:=hrel
  by_cases hlt:j < 16
  ·obtain⟨m,hm⟩:=vE (15 - j)
   have a6:(15:Int) - (j:Int)=(m:Int):=vO
   have a0:m < 16:=vO
   rw[a6];have b1:(0:Int)<=(m:Int):=vO
   have b2:¬(m:Int) < 0:=vO
   have b3:(m:Int) < 16:=vO
   have b4:(m:Int).toNat=m:=vO
   have Z:=Hd (bB hm a6)
   obtain⟨r,c4⟩:∃ r,E[m]?=some r:=⟨_,bA (by rw[HR.o];exact a0)⟩
   have a2:=Hd c4;have a3:=Hd (HB.o.keeps hR.ext (fun h=>h));have q3:=a3.o.cellL (i:=3+m) (v:=.string r) (by
    show (_ :: _ :: _ :: E.map Value.string)[3+m]?=_;rw[show 3+m=m+1+1+1 by omega];simp[a2.o])
   have J:=Hd hR;clear hm a6 c4 hR
   by_cases hz:r.size=0
   ·obtain rfl:r=⟨#[]⟩:=jbq hz
    go_wp2_with fail
    go_roundw
    case rel =>
     refine⟨j+1,by omega,by have:=Z.o.1;have:=Z.o.2;simp;omega,?_⟩
     have e:belJ ⟨k,A,H,E⟩ p (j+1)=belJ ⟨k,A,H,E⟩ p j:=by
      rw[jgs _ p hlt, <-Z.o.1];unfold plc1;rw[if_pos (by show (E.getD m ⟨#[]⟩).size=0;rw[bG,a2.o];rfl),bW]
     rw[e];exact J.o
    case measure=>simp[intOf]
   ·have d4:r.toList.isEmpty=false:=by
     rw[bO];cases hd:r.data.toList with
     | nil=>exact absurd (congrArg List.length hd) hz
     | cons x l=>rfl
    have q1:=a3.o.cellL (i:=1) (v:=.string A) e1;have b5:¬(9223372036854775807 < p.size+A.size):=vO
    have a4:=Hd hlt;have HZ:=Hd hz;have HW:Hid (W.heap.size < wr.heap.size):=Hd a3.o.lt;have HX:=Hd (show ¬ wr.heap.size<=W.heap.size by have:=HW.o;omega);have Q1:=Hd q1;have Q3:=Hd q3;clear q1 hlt hz;go_wp2_with fail
    clear q3;refine jaC [0,1,2,3,4,5,6,7,8,9,10] [9,10] Ext (jaf (fun z=>wr.heap.size<=z)) ExtR ExtT (fun x y z h k=>jaf.trans h k) (fun x y h=>h.mono (fun _ _ h=>h.elim)) vY vY vY ?_;iterate 2 refine vD ?_
    refine qDL ⟨W.heap.size,1,none⟩ _ rfl (fun w2 h2=>jab Tryz.uStr rfl (jar (jaa Q1.o (jah _)) h2 HX.o)) ?_;refine vS ?_;iterate 4 refine vD ?_
    refine qDL ⟨W.heap.size,3+m,none⟩ _ rfl (fun w2 h2=>jab Tryz.uStr rfl (jar (jaa Q3.o (jah _)) h2 HX.o)) ?_;refine vS ?_
    refine vD ?_
    refine qDH _ rfl (fun w2 X K hK=>?_);have a5:=Hd (show Ext wr w2 from(jah _).trans X);clear X;go_simp;refine hK _ _ ((jaf.refl _ w2).alloc _) ?_;clear hK K;refine qDH _ rfl (fun w3 X K hK=>?_);have c5:=(Blk.new w2 (.cells [Value.string ⟨#[]⟩,.string ⟨#[]⟩].toArray 146)).keeps X (fun h=>h);refine jjj (vs:=[Value.string (p++A),.string r]) rfl rfl rfl c5 rfl Tryz.szPlc (jei _ _) (fun W4 c6 a7=>?_);refine hK _ _ (a7.mono (fun z _ e=>by have e:z=w2.heap.size:=e;have:=a5.o.size;omega)) ?_;have c7:=Hd (show Ext wr W4 from((a5.o.alloc _).trans X).trans' a7 (fun z hz e=>by have e:z=w2.heap.size:=e;have:=a5.o.size;omega));have c8:=Hd c6;clear hK K X c5 c6 a7;refine vS ?_;refine qDE (fun w5 X=>?_);have a8:=Hd (c7.o.trans X);have O:=Hd (c8.o.keeps X (fun h=>h));clear X c7 c8
    obtain⟨pb,c9⟩:=vE w2.heap.size
    have d0:=Hd (show wr.heap.size<=pb by have:=a5.o.size;omega);rw[<-c9]at O ⊢;clear c9;have q0:=jaa (a3.o.cellL (i:=0) e0) a8.o;have a1:=Hd (ORow.mono J.o a8.o)
    by_cases hk:k=3
    ·subst hk
     have q5:=O.o.cell (i:=0) (v:=.string (p++A)) vF;have b7:¬(9223372036854775807 < p.size+A.size+(nib1 m).size):=by show ¬(_ < _+1);omega
     have Q:belJ ⟨3,A,H,E⟩ p (j+1)=belJ ⟨3,A,H,E⟩ p j++[((p++A)++nib1 m,r)]:=by
      rw[jgs _ p a4.o, <-Z.o.1];unfold plc1;have e:(jad.mk 3 A H E).refs.getD m ⟨#[]⟩=r:=by show E.getD m ⟨#[]⟩=r;rw[bG,a2.o];rfl
      rw[e,if_neg HZ.o,if_pos rfl]
     have a9:=Hd Q;have b0:(belJ ⟨3,A,H,E⟩ p j).length+1<=maxLen:=by have:=jcU ⟨3,A,H,E⟩ p j;unfold maxLen;omega
     have b8:((belJ ⟨3,A,H,E⟩ p j).length+1) * 32<=140737488355328:=by have:=jcU ⟨3,A,H,E⟩ p j;omega
     have B6:=(O.o.keeps ((ExtR w5).alloc (.cells #[.int .u8 (m:Int)] 5)) (fun h=>h));have q7:=B6.cell (i:=0) (v:=.string (p++A)) vF;have f7:=B6.frozen (i:=0);have d1:=Hd B6;clear Q B6;go_wp2_with (first
      |(refine jna m w5.heap.size rfl (Blk.new w5 _) a0 ?_)
      |(refine jlq rfl pb 0 (.string ((p++A)++nib1 m)) rfl rfl rfl rfl vY q7 f7 ?_
        intro W8 b9;have c0:Blk W8 pb (.cells [Value.string ((p++A)++nib1 m),.string r].toArray 146):=by rw[b9];exact d1.o.set_same _
        have c1:Ext wr W8:=(a8.o.alloc _).trans' (by rw[b9];exact jaf.oneSet _ _ _) (fun z hz e=>by have e:z=pb:=e;have:=d0.o;omega);clear b9;have q8:=c0.cell (i:=0) (v:=.string ((p++A)++nib1 m)) vF;have q9:=c0.cell (i:=1) (v:=.string r) vF;have d5:=Hd c1;have d2:=Hd (ORow.mono J.o c1);clear c1 c0)
      |(at_builtin;(refine jaK Tryz.sPlcs (ORow.mono d2.o ((ExtR W8).alloc _)) (.tmp 37) (.tmp 39) rfl rfl rfl (jaI (Blk.new W8 _)) (news:=[.string ((p++A)++nib1 m),.string r]) (jei _ _) rfl rfl b0 b8 ?_;intro d3 w' r1 r2 r3)))
     go_roundw
     case rel=>exact⟨j+1,by have:=a4.o;omega,by have:=Z.o.1;have:=Z.o.2;simp;omega,by rw[a9.o,bC];unfold LRow;rw[jaV];exact r1⟩
     case measure=>simp[intOf]
    ·have b6:((k:Int) == 3)=false:=by simpa using (by omega:¬(k:Int)=3)
     have q5:=O.o.cell (i:=0) (v:=.string (p++A)) vF;have q6:=O.o.cell (i:=1) (v:=.string r) vF;have Q:belJ ⟨k,A,H,E⟩ p (j+1)=belJ ⟨k,A,H,E⟩ p j++[(p++A,r)]:=by
      rw[jgs _ p a4.o, <-Z.o.1];unfold plc1;have e:(jad.mk k A H E).refs.getD m ⟨#[]⟩=r:=by show E.getD m ⟨#[]⟩=r;rw[bG,a2.o];rfl
      rw[e,if_neg HZ.o,if_neg hk,jfw]
     have a9:=Hd Q;have b0:(belJ ⟨k,A,H,E⟩ p j).length+1<=maxLen:=by have:=jcU ⟨k,A,H,E⟩ p j;unfold maxLen;omega
     have b8:((belJ ⟨k,A,H,E⟩ p j).length+1) * 32<=140737488355328:=by have:=jcU ⟨k,A,H,E⟩ p j;omega
     clear Q;go_wp2_with (at_builtin;(refine jaK Tryz.sPlcs (ORow.mono a1.o ((ExtR w5).alloc _)) (.tmp 37) (.tmp 39) rfl rfl rfl (jaI (Blk.new w5 _)) (news:=[.string (p++A),.string r]) (jei _ _) rfl rfl b0 b8 ?_;intro d3 w' r1 r2 r3))
     go_roundw
     case rel=>exact⟨j+1,by have:=a4.o;omega,by have:=Z.o.1;have:=Z.o.2;simp;omega,by rw[a9.o,bC];unfold LRow;rw[jaV];exact r1⟩
     case measure=>simp[intOf]
  ·obtain rfl:j=16:=vO
   have b1:(15:Int) - ((16:Nat):Int) = -1:=vO
   rw[b1];have J:=Hd hR;clear hR;go_wp2_with fail
   go_ret
   exact⟨_,rfl,⟨J.o.sl,J.o.own,HE.o.trans J.o.ext,fun b hb=>bK HE.o.size (J.o.new b hb)⟩⟩
theorem jBW(W:vW)(r:vB)(hr:r.size<=100000):vR 79 #[.string r] W (.agg #[.string ⟨#[]⟩,.string (jan r)]):=by
 unfold vR vQ;go_in;go_wp2_with (refine jaj Tryz.allocPlc rfl rfl ?_;intro Q z A)
 refine vC (jea Q r vO) fun Z E=>?_;have H:=z.keeps E (fun h=>h);have J:=Hd (A.trans E);clear E z A;go_wp2_with (refine jai (vs:=[Value.string ⟨#[]⟩,.string (jan r)]) rfl rfl rfl rfl H rfl Tryz.szPlc (jei _ _) ?_;intro W8 K O)
 have X:(loadVar 146 ⟨W.heap.size,0,none⟩).run Tryz.prog W8=.ok (.agg [Value.string ⟨#[]⟩,.string (jan r)].toArray) W8:=by
  have:=jcQ W8 _ _ _ K
  simpa [Instr.loadAt,Instr.sureAddr,bX,Result.andThen]using this
 refine bodyPost_ret (jbJ rfl rfl X) rfl ?_
 exact⟨rfl,J.o.trans' O (fun x hx e=>by have e:x=W.heap.size:=e;omega)⟩
theorem jji{t T:TypeId}{by':Nat}(I:jd0 Tryz.prog t T 2 by'){ops:Array Oper}{rest:List Oper}{d:Option Tmp}{ty:TypeId}{pos:String}{af:Array Edge}{a:Act}{w1 w0 w:vW}{Q:Exit->Act->vW->Prop}{s x:Operand}{v pv:vV}{n m N:Nat}{xs:List vV}{ys:vL}
  (hR:ORow T 2 w0 w v n xs) (hP:ORow T 2 w1 w pv m (jb8 ys)) (hN:n+m=N) (hs:a.eval s=v) (hx:a.eval x=pv) (h63:N<=1000000) (hb:by'<=1000)
  (h:∀ v' w',ORow T 2 w0 w' v' N (xs++jb8 ys)->jaf (fun b=>v.ownBlock=some b) w w'->(v'.ownBlock=v.ownBlock\/∀ b,v'.ownBlock=some b->w.heap.size<=b)->wpList Tryz.prog ops Q rest (a.put d v') w') :
  wpList Tryz.prog ops Q (⟨d,.call { callee:=.builtin .append,args:=#[s,x],argTypes:=#[t,t] },ty,pos,af,none⟩ :: rest) a w:=by
 subst hN
 obtain⟨H,⟨rfl,J⟩ |⟨g,o,z,rfl,J,Z,h5,h6,h7⟩⟩:=hP.own
 ·subst J
  have A:ys=[]:=by
   rw[jdH]at H;exact bD vO
  subst A
  obtain⟨ad,c,rfl⟩:=hR.sl
  have E:n<=c:=by
   obtain⟨_,⟨e,e2⟩ |⟨g,o,z,e,_,_,k5,_⟩⟩:=hR.own
   ·omega
   ·obtain⟨_,_,e⟩:=cW e;omega
  refine jgn I hs hx E (h _ _ ?_ (jaf.refl _ _) (.inl rfl));simpa [jb8]using hR
 ·exact jaK I hR s x rfl hs hx (fun j u K=>hP.own.cells (g:=g) rfl j u K) (fun u O=>by
   obtain⟨y,_,X⟩:=cR.1 O
   exact jei _ _ u X) (by rw[jdH]at H ⊢;omega) rfl (by unfold maxLen;omega) (bK (Nat.mul_le_mul_left _ hb) vO) h
def lenV:vV->Nat
 | .slice _ n _=>n
 | _=>0
structure WkR(S:vT)(out Mall:List Pl)(Rall:vL)(W1:World)(mv lv tv:Value)(wr:World)(M0:List Pl)(L0:vL)(ts:List Pl)(k:Nat)(M:List Pl)(R:vL):Prop where
 met:LRow W1 wr mv M0.length M0
 ent:ERow W1 wr lv L0.length L0
 tod:LRow W1 wr tv ts.length ts.reverse
 ap1:∀ b,tv.ownBlock=some b->mv.ownBlock≠some b/\lv.ownBlock≠some b
 ap2:∀ b,mv.ownBlock=some b->lv.ownBlock≠some b
 cnt:k+M0.length=400
 wx:jcA S out k ts M R
 e1:M0++M=Mall
 e2:L0++R=Rall
 tsl:ts.length<=1+16 * M0.length
 lle:L0.length<=M0.length
def jxm(S:vT)(out Mall:List Pl)(Rall:vL)(W1:vW)(mv lv tv:vV)(wr:vW):Prop:=∃ M0 L0 ts k M R,WkR S out Mall Rall W1 mv lv tv wr M0 L0 ts k M R
def jzd(w:vW)(t:Pl)(out:List Pl)(iv:vV)(wr:vW):Prop:=∃ i:Nat,i<=out.length/\iv=.int .i64 i/\Ext w wr/\∀ q∈out.take i,q≠t
theorem jwC{S:vT}{out:List Pl}{k:Nat}{ts M:List Pl}{R:vL}(h:jcA S out k ts M R)(h0:k=0\/ts=[]):M=[]/\R=[]:=by
 cases h with
 | nil=>exact⟨rfl,rfl⟩
 | full=>exact⟨rfl,rfl⟩
 | skip=>rcases h0 with h0 | h0 <;> cases h0
 | no=>rcases h0 with h0 | h0 <;> cases h0
 | go=>rcases h0 with h0 | h0 <;> cases h0
theorem jny(xs:vL)(n:Nat):(jb8 xs).take (n * 2)=jb8 (xs.take n):=by
 induction xs generalizing n with
 | nil=>simp[jb8]
 | cons x r ih =>
  cases n with
  | zero=>simp[jb8]
  | succ n =>
   have:=ih n
   unfold jb8 at *;rw[dZ,cH,cH, <-this,show (n+1) * 2=n * 2+1+1 by omega];rfl
theorem jla{T:TypeId}{sz:Nat}{w0 w:vW}{a:Option Addr}{n c:Nat}{xs:List vV}(h:ORow T sz w0 w (.slice a n c) n xs):n<=c:=by
 obtain⟨_,⟨e,A⟩ |⟨g,o,z,e,_,_,E,_⟩⟩:=h.own
 ·omega
 ·obtain⟨_,_,e⟩:=cW e;omega
theorem LRow.pop{W1 wr:vW}{g c:Nat}{t:Pl}{ts:List Pl}(h:LRow W1 wr (.slice (some ⟨g,0,none⟩) (t :: ts).length c) (t :: ts).length (t :: ts).reverse):LRow W1 wr (.slice (some ⟨g,0,none⟩) ts.length c) ts.length ts.reverse:=by
 have e:=jps (m:=ts.length) h.own (by simp);rw[jny,gP,gJ (by simp),bN (by simp)]at e
 exact⟨⟨_,_,rfl⟩,e,h.ext,fun b hb=>h.new b hb⟩
theorem LRow.last{W1 wr:vW}{g c:Nat}{t:Pl}{ts:List Pl}(h:LRow W1 wr (.slice (some ⟨g,0,none⟩) (t :: ts).length c) (t :: ts).length (t :: ts).reverse):wr.cell? ⟨g,ts.length * 2,none⟩=some (.string t.1)/\wr.cell? ⟨g,ts.length * 2+1,none⟩=some (.string t.2):=by
 have e:(t :: ts).reverse[ts.length]?=some t:=by rw[gP,cV (by simp)];simp
 obtain⟨o,z⟩:=jdG _ _ _ e
 exact⟨by rw[h.own.cellAt (ts.length * 2) (by simp only[bF];omega),o],by rw[h.own.cellAt (ts.length * 2+1) (by simp only[bF];omega),z]⟩
theorem jgX{T:TypeId}{sz:Nat}{w0 w:vW}{a:Option Addr}{n c:Nat}{xs:List vV}(h:ORow T sz w0 w (.slice a n c) n xs)(hn:n≠0):∃ g,a=some ⟨g,0,none⟩:=by
 obtain⟨_,⟨e,o⟩ |⟨g,z,A,e,_,_,E,_⟩⟩:=h.own
 ·exact absurd o hn
 ·obtain⟨e,_,_⟩:=cW e;exact⟨g,e⟩
theorem WkR.go{S:vT}{out Mall:List Pl}{Rall:vL}{W1:vW}{mv lv tv mv' lv' tv':vV}{w3 wr:vW}{M0:List Pl}{L0:vL}{t:Pl}{ts:List Pl}{k:Nat}{M M2:List Pl}{R R2:vL}{n:jad}
  (h:WkR S out Mall Rall W1 mv lv tv w3 M0 L0 (t :: ts) (k+1) M R) (e1:M=t :: M2) (e2:R=entN n t.1++R2) (hx:jcA S out k (jcC n t.1++ts) M2 R2)
  (met:LRow W1 wr mv' (M0.length+1) (M0++[t])) {m:Nat} (hm:m=(L0++entN n t.1).length) (ent:ERow W1 wr lv' m (L0++entN n t.1)) {q:Nat} (hq:q=ts.length) (tod:LRow W1 wr tv' (q+(jcC n t.1).length) (ts.reverse++(jcC n t.1).reverse))
  (a1:∀ b,tv'.ownBlock=some b->mv'.ownBlock≠some b) (a2:∀ b,tv'.ownBlock=some b->lv'.ownBlock≠some b) (a3:∀ b,mv'.ownBlock=some b->lv'.ownBlock≠some b):jxm S out Mall Rall W1 mv' lv' tv' wr:=by
 subst hm hq;have hb:(jcC n t.1).length<=16:=by rw[<-fI, <-jfx];exact jcU n t.1 16
 have o:(entN n t.1).length<=1:=by
  unfold entN keyR;split
  ·exact cE _
  ·split <;> simp
 have e:=h.tsl;have z:=h.cnt;have A:=h.lle;simp only[bF]at e
 refine⟨M0++[t],L0++entN n t.1,jcC n t.1++ts,k,M2,R2,by rw[bC];exact met,ent,?_,fun b hb=>⟨a1 b hb,a2 b hb⟩,a3,by rw[bC];simp;omega,hx,?_,?_,?_,?_⟩
 ·rw[bC,List.reverse_append,gL];exact tod
 ·rw[<-h.e1,e1];simp
 ·rw[<-h.e2,e2];simp
 ·rw[bC,bC];simp;omega
 ·rw[bC,bC];simp;omega
theorem jul{S:vT}{out:List Pl}{k:Nat}{t:Pl}{ts M:List Pl}{R:vL}(h:jcA S out (k+1) (t :: ts) M R)(ht:t∈out):jcA S out (k+1) ts M R:=by
 cases h with
 | skip _ _ _ _ _ _ h=>exact h
 | no _ _ _ _ _ h1=>exact absurd ht h1
 | go _ _ _ _ _ _ h1=>exact absurd ht h1
theorem jyQ{S:vT}{out:List Pl}{k:Nat}{t:Pl}{ts M:List Pl}{R:vL}(h:jcA S out (k+1) (t :: ts) M R)(ht:t ∉ out) :
  (jg4 S t.2 none/\jcA S out (k+1) ts M R)\/∃ n M' R',M=t :: M'/\R=entN n t.1++R'/\t.1.size<=10000/\jg4 S t.2 (some n)/\jcA S out k (jcC n t.1++ts) M' R':=by
 cases h with
 | skip _ _ _ _ _ h1 h=>exact absurd h1 ht
 | no _ _ _ _ _ h1 h2 h=>exact .inl ⟨h2,h⟩
 | go _ _ _ n M' R' h1 h2 h3 h=>exact .inr ⟨n,M',R',rfl,rfl,h2,h3,h⟩
theorem jen{u v v':vV}{w:vW}(h:∀ b,u.ownBlock=some b->b < w.heap.size)(ha:∀ b,u.ownBlock=some b->v.ownBlock≠some b)(r3:v'.ownBlock=v.ownBlock\/∀ b,v'.ownBlock=some b->w.heap.size<=b):∀ b,u.ownBlock=some b->v'.ownBlock≠some b:=fun b hb e=>by
 rcases r3 with r3 | r3
 ·exact ha b hb (r3 ▸ e)
 ·have:=r3 b e;have:=h b hb;omega
theorem jhz{T:TypeId}{sz:Nat}{w0 w w':vW}{u v:vV}{n:Nat}{xs:List vV}(h:ORow T sz w0 w v n xs)(k:jaf (fun b=>u.ownBlock=some b) w w')(ha:∀ b,v.ownBlock=some b->u.ownBlock≠some b)(hn:∀ b,u.ownBlock=some b->w0.heap.size<=b):ORow T sz w0 w' v n xs:=
 h.keeps k (fun b hb e=>ha b hb e) (fun b hb e=>by have:=hn b e;omega)
theorem WkR.pop{S:vT}{out Mall:List Pl}{Rall:vL}{W1:vW}{mv lv:vV}{g c n:Nat}{wr wr':vW}{M0:List Pl}{L0:vL}{t:Pl}{ts:List Pl}{k:Nat}{M:List Pl}{R:vL}
  (h:WkR S out Mall Rall W1 mv lv (.slice (some ⟨g,0,none⟩) (t :: ts).length c) wr M0 L0 (t :: ts) (k+1) M R) (hn:n=ts.length) (hx:jcA S out (k+1) ts M R) (e:Ext wr wr'):jxm S out Mall Rall W1 mv lv (.slice (some ⟨g,0,none⟩) n c) wr':=by
 subst hn;have o:=LRow.pop h.tod
 refine⟨M0,L0,ts,k+1,M,R,ORow.mono h.met e,ORow.mono h.ent e,ORow.mono o e,fun b hb=>h.ap1 b hb,h.ap2,h.cnt,hx,h.e1,h.e2,?_,h.lle⟩
 have:=h.tsl
 simp only[bF]at this;omega
theorem Tryz.plcFields:jhi (Tryz.prog.underlying 146) [(false,9,0),(false,9,1)]=true:=vY
theorem Tryz.plcHeld:Tryz.prog.stoodInHeld 146=false:=vY
theorem jwX(x y x' y':vB)(w:vW):(binOp .eql 146 (.agg #[.string x,.string y]) (.agg #[.string x',.string y'])).run Tryz.prog w=.ok (.bool (x == x' && y == y')) w:=by
 obtain⟨f,g,Q,A,E,H,J,K,O⟩:=jxJ Tryz.plcFields
 have e:∀ (u v:vV) w,(part 9 #[u,v] 0).run Tryz.prog w=.ok u w:=fun u v w=>by
  simp[part,bX,Tryz.strAgg,Result.andThen,cO]
 have o:∀ (u v:vV) w,(part 9 #[u,v] 1).run Tryz.prog w=.ok v w:=fun u v w=>by
  simp[part,bX,Tryz.strAgg,Result.andThen,cO]
 have X:∀ d,(Op.equalIn (d+2) 146 (.agg #[.string x,.string y]) (.agg #[.string x',.string y'])).run Tryz.prog w=.ok (x == x' && y == y') w:=fun d=>by
  rw[Op.equalIn];simp only[bX,run_underlying Q,Result.andThen];simp[bX,Result.andThen,Sem.run,Tryz.plcHeld,A,E,H,J,K,O,e,o,jxI];cases (x == x')with
  | false=>simp[cO]
  | true =>
   simp[bX,Result.andThen,Sem.run,Tryz.plcHeld,A,E,H,J,K,O,e,o,jxI];cases (y == y') <;> simp[cO]
 have z:(Op.equal 146 (.agg #[.string x,.string y]) (.agg #[.string x',.string y'])).run Tryz.prog w=.ok (x == x' && y == y') w:=X 9998;simp only[binOp,bX,z,Result.andThen,cO]
def jBi(W:vW)(M:List Pl)(R:vL)(e:Ending)(w':vW):Prop:=∃ u v,e=.returned (.tuple #[u,v])/\LRow W w' u M.length M/\ERow W w' v R.length R
theorem jp3(W:vW)(s bm:Nat)(room:Int)(S:vT)(hs:jaS W s bm room S)(r:vB)(hr:r.size<=100000)(ov:vV)(out:List Pl)(ho:RdP W ov out)(hol:out.length<=100000){M:List Pl}{R:vL}(hW:jcA S out 400 [(⟨#[]⟩,jan r)] M R) :
  vQ 43 #[.pointer (some ⟨s,0,none⟩),.string r,ov] W (jBi W M R):=by
 have HS:=Hd hs;have HO:=Hd ho;have HW:=Hd hW
 obtain⟨oa,oc,k5⟩:=ho.sl
 have k6:=Hd hol;subst k5;clear hs ho hW hol;go_enter Tryz.func43,Tryz.ntmps43;go_wp2_with fail
 go_step3;go_wp2_with fail
 refine vH (jBW W r hr) fun w1 HE=>?_;go_wp2_with fail
 obtain⟨w2,d6⟩:=vE (w1.alloc (.cells #[.string ⟨#[]⟩,.string (jan r)] 146))
 have h4:=Hd (show Ext W w2 by rw[d6];exact HE.o.alloc _);have h5:LRow W w2 (.slice (some ⟨w1.heap.size,0,none⟩) 1 1) 1 [(⟨#[]⟩,jan r)]:=by rw[d6];exact ORow.lit #[.string ⟨#[]⟩,.string (jan r)] HE.o vI rfl
 rw[<-d6];clear d6;have k7:=Hd h5;clear h5;go_step3;go_wp2_with fail
 go_loopw [8,9,10] (fun mv lv tv wr=>jxm S out M R W mv lv tv wr) (fun mv _ tv _=>(400 - lenV mv) * 18+lenV tv)
 case atStart =>
  exact⟨[],[],[(⟨#[]⟩,jan r)],400,M,R,ORow.nil _ _ h4.o,ORow.nil _ _ h4.o,k7.o,(by intro b hb;constructor <;> intro e <;> cases e),(by intro b hb;cases hb),rfl,HW.o,rfl,rfl,by simp,bL _⟩
 case round =>
  obtain⟨w3,k8⟩:=vE wr
  subst k8
  obtain⟨Z,L0,ts,k,M',R',hK⟩:=hrel
  obtain⟨ma,mc,rfl⟩:=hK.met.sl
  obtain⟨la,lc,rfl⟩:=hK.ent.sl
  obtain⟨ta,c,rfl⟩:=hK.tod.sl
  have A:=Hd hK;have m5:=hK.cnt;clear hK
  by_cases hend:k=0\/ts=[]
  ·have hz:=jwC A.o.wx hend
   have hM:Z=M:=by have:=A.o.e1;rw[hz.1,bW]at this;exact this
   have hR:L0=R:=by have:=A.o.e2;rw[hz.2,bW]at this;exact this
   have HF:=Hd (show LRow W w3 (.slice ma Z.length mc) M.length M/\ERow W w3 (.slice la L0.length lc) R.length R by rw[<-hM, <-hR];exact⟨A.o.met,A.o.ent⟩);clear hz hM hR
   by_cases hts:ts.length=0
   ·rw[hts]
    go_wp2_with fail
    go_ret2
    exact⟨_,_,rfl,HF.o.1,HF.o.2⟩
   ·have c1:(0:Int) < (ts.length:Int):=vO
    have c2:¬(Z.length:Int) < 400:=by
     rcases hend with h | h
     ·omega
     ·rw[h]at hts;exact absurd rfl hts
    go_wp2_with fail
    go_ret2
    exact⟨_,_,rfl,HF.o.1,HF.o.2⟩
  ·obtain⟨k,rfl⟩:∃ k',k=k'+1:=⟨k - 1,by omega⟩
   obtain⟨t,ts,rfl⟩:∃ t ts',ts=t :: ts':=by
    cases ts with
    | nil=>exact absurd (.inr rfl) hend
    | cons t ts=>exact⟨t,ts,rfl⟩
   obtain⟨g,rfl⟩:=jgX A.o.tod (by simp)
   clear hend
   obtain⟨n,hn⟩:=vE ts.length
   have HN:=Hd hn;have hl:(t :: ts).length=n+1:=by rw[hn];rfl
   rw[hl];have c1:(0:Int) < (n:Int)+1:=vO
   have c2:(Z.length:Int) < 400:=vO
   have m7:n<=10000:=by have:=A.o.tsl;rw[hl]at this;omega
   have H:=A.o.tod;rw[hl]at H;have k4:=Hd H;clear hn hl
   obtain⟨p,x⟩:=t
   have hq:=by
    have h:=H;rw[HN.o]at h;exact LRow.last (t:=(p,x)) h
   rw[<-HN.o]at hq
   obtain⟨q1,q2⟩:=hq
   have c3:(n:Int)<=(c:Int):=by have:=jla H;omega
   clear H;go_wp2_with (refine jaj Tryz.allocPlc rfl rfl ?_;intro W5 h6 h7;refine jai (vs:=[Value.string p,.string x]) rfl rfl rfl rfl h6 rfl Tryz.szPlc (jei _ _) ?_;intro W6 h8 h9)
   have d9:Hid (Ext w3 W6):=(h7.trans' h9 (fun z hz e=>by have e:z=w3.heap.size:=e;omega));have i0:=Hd h8;have e0:=Hd (bL w3.heap.size);clear h6 h7 h8 h9 q1 q2
   obtain⟨pb,i1⟩:=vE w3.heap.size
   rw[<-i1]at i0 ⊢;have e0:=Hd (show w3.heap.size<=pb by omega);clear i1;go_loopw [42] (fun iv w7=>jzd W6 (p,x) out iv w7) (fun iv _=>out.length - (intOf iv).toNat)
   case atStart=>exact⟨0,cE _,rfl,ExtR W6,by simp⟩
   case round =>
    obtain⟨w7,k9⟩:=vE wr
    subst k9
    obtain⟨i,hi,rfl,e3,b8⟩:=hrel
    have b5:=Hd e3;have a8:=Hd b8;have b6:=Hd (i0.o.keeps e3 (fun h=>h));clear e3 b8
    by_cases hlt:i < out.length
    ·have d1:(i:Int) < (out.length:Int):=vO
     obtain⟨q,hq⟩:∃ q,out[i]?=some q:=⟨_,bA hlt⟩
     have m8:i<=100000:=by have:=k6.o;omega
     rcases HO.o with⟨_,_,_,h0⟩ |⟨b,o,c',hh,hb,hc,hcell⟩
     ·rw[h0]at hlt;cases hlt
     cases hh
     obtain⟨q1,q2⟩:=hcell i q hq
     have e4:=(A.o.met.ext.trans d9.o).trans b5.o;have q1:=jaa q1 e4;have q2:=jaa q2 e4;have HQ:=Hd hq;clear hcell hb hc e4 hq
     obtain⟨qa,qb⟩:=q
     have i2:=Hd hlt;clear hlt
     by_cases he:qa=p/\qb=x
     ·obtain⟨rfl,rfl⟩:=he
      have e5:∀ w,(binOp .eql 146 (.agg #[.string qa,.string qb]) (.agg #[.string qa,.string qb])).run Tryz.prog w=.ok (.bool true) w:=fun w=>by rw[jwX,jeo,jeo];simp
      go_wp2_with (first
       |(refine jaj Tryz.allocPlc rfl rfl ?_;intro W8 e6 e7;refine jai (vs:=[Value.string qa,.string qb]) rfl rfl rfl rfl e6 rfl Tryz.szPlc (jei _ _) ?_;intro W9 O Q;have a7:Ext w7 W9:=e7.trans' Q (fun z hz e=>by have e:z=w7.heap.size:=e;omega);have a9:=Hd (b6.o.keeps a7 (fun h=>h)))
       |(refine jae 146 (.tmp 11) rfl rfl _ _ rfl (jcQ W9 pb qa qb a9.o) ?_)
       |(refine jae 146 (.tmp 13) rfl rfl _ _ rfl (jcQ W9 _ qa qb O) ?_)
       |(refine jft (.tmp 46) (.tmp 47) rfl rfl _ _ _ rfl rfl vY (e5 _) ?_))
      refine vS ?_;have e8:=Hd ((d9.o.trans b5.o).trans a7);clear a7;go_roundw
      case rel=>exact WkR.pop A.o HN.o (jul A.o.wx (bI HQ.o)) e8.o
      case measure=>simp[lenV]
     ·have e5:∀ w,(binOp .eql 146 (.agg #[.string p,.string x]) (.agg #[.string qa,.string qb])).run Tryz.prog w=.ok (.bool false) w:=fun w=>by
       rw[jwX,jeo,jeo]
       have:(decide (p=qa) && decide (x=qb))=false:=by
        rw[Bool.and_eq_false_iff]
        by_cases h1:p=qa
        ·right;exact decide_eq_false fun h2=>he ⟨h1.symm,h2.symm⟩
        ·left;exact decide_eq_false h1
       rw[this]
      have l0:=Hd he;clear he;go_wp2_with (first
       |(refine jaj Tryz.allocPlc rfl rfl ?_;intro W8 e6 e7;refine jai (vs:=[Value.string qa,.string qb]) rfl rfl rfl rfl e6 rfl Tryz.szPlc (jei _ _) ?_;intro W9 O Q;have a7:Ext w7 W9:=e7.trans' Q (fun z hz e=>by have e:z=w7.heap.size:=e;omega);have a9:=Hd (b6.o.keeps a7 (fun h=>h)))
       |(refine jae 146 (.tmp 11) rfl rfl _ _ rfl (jcQ W9 pb p x a9.o) ?_)
       |(refine jae 146 (.tmp 13) rfl rfl _ _ rfl (jcQ W9 _ qa qb O) ?_)
       |(refine jft (.tmp 46) (.tmp 47) rfl rfl _ _ _ rfl rfl vY (e5 _) ?_))
      have e8:=Hd (b5.o.trans a7);clear a7;go_roundw
      case rel=>exact⟨i+1,by have:=i2.o;omega,by go_num,e8.o,by
       rw[bY,HQ.o];intro y hy;rcases bT.1 hy with hy | hy
       ·exact a8.o y hy
       ·simp at hy;rw[hy];exact fun e=>l0.o ⟨congrArg Prod.fst e,congrArg Prod.snd e⟩⟩
      case measure=>have:=i2.o;simp[intOf];omega
    ·obtain rfl:i=out.length:=vO
     have d1:¬(out.length:Int) < (out.length:Int):=vO
     have c0:(p,x) ∉ out:=fun hm=>a8.o (p,x) (by rw[cJ];exact hm) rfl;have g0:=Hd c0;have e9:=Hd (d9.o.trans b5.o);have i3:=Hd (HS.o.ext (A.o.met.ext.trans e9.o));have q4:=b6.o.cell (i:=1) (v:=.string x) vF;clear c0 hi a8 b5;rcases jyQ A.o.wx g0.o with⟨hR,hx⟩ |⟨nd,M2,R2,e1,e2,i4,hR,hx⟩
     ·have HR:=Hd hR
      have b7:=Hd hx;clear hR hx;go_wp2_with fail
      refine vH (jlS w7 s bm room S i3.o HR.o) fun W8 hE=>?_;have d7:=Hd (e9.o.trans hE);unfold jad.V;go_wp2_with (refine jaj Tryz.allocNode rfl rfl ?_;intro W9 O Q;refine jai (vs:=jaG.cells) rfl rfl rfl rfl O rfl Tryz.szNode jaG.one ?_;intro J a3 a0)
      have a1:=Hd (d7.o.trans (Q.trans' a0 (fun z hz e=>by have e:z=W8.heap.size:=e;omega)));clear O Q a3 a0;refine (jkI J).mono ?_;rintro e l1 ⟨rfl,rfl⟩;go_wp2_with fail
      go_roundw
      case rel=>exact WkR.pop A.o HN.o b7.o a1.o
      case measure=>simp[lenV]
     ·obtain⟨dg,hg⟩:=hR.good
      have b0:=hg.one (inlP dg);have m9:=b0.path;have f0:=b0.refs;have i4:p.size<=10000:=i4;have i5:=Hd f0;have c4:=Hd (nd.cells_len f0);have HR:=Hd hR;have b7:=Hd hx;have f8:=Hd e1;have b1:=Hd e2;clear hR hx e1 e2 hg b0 f0;go_wp2_with fail
      refine vC (joH w7 s bm room S i3.o HR.o) fun W8 hE=>?_;have d7:=Hd (e9.o.trans hE);have i6:=Hd (b6.o.keeps hE (fun h=>h));clear hE q4;unfold jad.V;go_wp2_with (refine jaj Tryz.allocNode rfl rfl ?_;intro W9 O Q;refine jai (vs:=nd.cells) rfl rfl rfl rfl O (by rw[c4.o];rfl) (by rw[c4.o];exact Tryz.szNode) nd.one ?_;intro J a3 a0)
      have b2:Ext W8 J:=Q.trans' a0 (fun z hz e=>by have e:z=W8.heap.size:=e;omega);have a1:=Hd (d7.o.trans b2);have c5:=Hd (i6.o.keeps b2 (fun h=>h));have c6:=Hd a3;clear O Q a3 a0 b2 i6 b6
      obtain⟨nb,i7⟩:=vE W8.heap.size
      have c7:=Hd (show w3.heap.size<=nb by have:=d7.o.size;omega);rw[<-i7]at c6 ⊢;clear i7;refine (jhp J).mono ?_;rintro e l1 ⟨rfl,rfl⟩
      -- met
      have l2:Z.length+1<=maxLen:=by unfold maxLen;omega
      have l3:(Z.length+1) * 32<=140737488355328:=vO
      have l4:=Hd (ORow.mono A.o.met a1.o);have i8:=Hd (ORow.mono A.o.ent a1.o);have i9:LRow W w3 (.slice (some ⟨g,0,none⟩) n c) n ts.reverse:=by have:=LRow.pop A.o.tod;rw[<-HN.o]at this;exact this
      have j0:=Hd (ORow.mono i9 a1.o);clear i9;have j1:Hid (∀ z,w3.heap.size<=z->¬(Value.slice ma Z.length mc).ownBlock=some z):=(fun z hz e=>by have:=A.o.met.lt z e;omega);go_wp2_with (first
       |(refine jae 146 (.tmp 11) rfl rfl _ _ rfl (jcQ J pb p x c5.o) ?_)
       |(at_builtin;(refine jaK Tryz.sPlcs (ORow.mono l4.o ((ExtR J).alloc _)) (.tmp 60) (.tmp 62) rfl rfl rfl (jaI (Blk.new J _)) (news:=[.string p,.string x]) (jei _ _) rfl rfl l2 l3 ?_;intro n0 j2 r1 X r3;have c8:=Hd ((c6.o.alloc _).keeps X (j1.o _ c7.o));have c9:=Hd ((c5.o.alloc _).keeps X (j1.o _ e0.o));have g2:=Hd (jhz (ORow.mono j0.o ((ExtR J).alloc _)) X (fun b hb=>(A.o.ap1 b hb).1) A.o.met.new);have g4:=Hd (jhz (ORow.mono i8.o ((ExtR J).alloc _)) X (fun b hb e=>A.o.ap2 b e hb) A.o.met.new);have j3:=Hd (jen (ORow.mono j0.o ((ExtR J).alloc _)).lt (fun b hb=>(A.o.ap1 b hb).1) r3);have d8:=Hd (jen (ORow.mono i8.o ((ExtR J).alloc _)).lt (fun b hb e=>A.o.ap2 b e hb) r3);have g5:=Hd r1;have l5:=c9.o.cell (i:=0) (v:=.string p) vF;obtain⟨j4,j5,rfl⟩:=r1.sl;clear r1 X r3))
       |(refine jae 94 (.tmp 14) rfl rfl _ _ rfl (jao j2 nb nd i5.o c8.o) ?_))
      refine (jxp j2 nd i5.o vO p vO).mono ?_;rintro e j6 ⟨bv,rfl,a4⟩;have l6:(jcC nd p).length<=16:=by rw[<-fI, <-jfx];exact jcU nd p 16
      obtain⟨q,hq⟩:=vE (n+(jcC nd p).length)
      have HQ:=Hd hq;have m6:=Hd a4.ext;have j7:=Hd a4;have j8:q<=1000000:=vO
      have j9:Hid (∀ z,w3.heap.size<=z->¬(Value.slice (some ⟨g,0,none⟩) n c).ownBlock=some z):=(fun z hz e=>by have:=A.o.tod.lt z e;omega);have d0:=Hd (ORow.mono g5.o a4.ext);have d2:=Hd (ORow.mono g4.o a4.ext);have d3:=Hd (ORow.mono g2.o a4.ext);have g6:=Hd (c8.o.keeps a4.ext (fun h=>h));have g7:=Hd (c9.o.keeps a4.ext (fun h=>h));clear a4 hq l6 l5;have d4:∀ (K:vV) (E:vW),ORow 146 2 W E K q (jb8 ts.reverse++jb8 (jcC nd p).reverse)->jaf (fun b=>(Value.slice (some ⟨g,0,none⟩) n c).ownBlock=some b) j6 E->(K.ownBlock=(Value.slice (some ⟨g,0,none⟩) n c).ownBlock\/∀ b,K.ownBlock=some b->j6.heap.size<=b) ->
        LRow W E (.slice j4 (Z.length+1) j5) (Z.length+1) (Z++[(p,x)])/\ERow W E (.slice la L0.length lc) L0.length L0/\LRow W E K q (ts.reverse++(jcC nd p).reverse)/\(∀ b,K.ownBlock=some b->(Value.slice j4 (Z.length+1) j5).ownBlock≠some b)/\(∀ b,K.ownBlock=some b->(Value.slice la L0.length lc).ownBlock≠some b)/\Blk E nb (.cells nd.cells.toArray 94)/\Blk E pb (.cells [Value.string p,.string x].toArray 146):=fun K E r1 X r3=>by
       refine⟨?_,jhz d2.o X (fun b hb e=>(A.o.ap1 b e).2 hb) A.o.tod.new,?_,?_,?_,g6.o.keeps X (j9.o _ c7.o),g7.o.keeps X (j9.o _ e0.o)⟩
       ·have:=jhz d0.o X (fun b hb e=>j3.o b e hb) A.o.tod.new
        unfold LRow;rw[jaV];exact this
       ·unfold LRow;rw[jaV];exact r1
       ·exact fun b hb e=>jen d0.o.lt (fun b hb e=>j3.o b e hb) r3 b e hb
       ·exact fun b hb e=>jen d2.o.lt (fun b hb e=>(A.o.ap1 b e).2 hb) r3 b e hb
      have d5:=Hd d4;clear d4
      by_cases hv:nd.value.size=0
      ·have l7:nd.value.toList.isEmpty=true:=by
        rw[bO]
        have:nd.value.data.toList=[]:=bD hv
        rw[this];rfl
       have a5:entN nd p=[]:=by unfold entN;rw[if_pos hv]
       have a6:=Hd a5;clear a5 hv;go_wp2_with (refine jji Tryz.sPlcs d3.o j7.o HQ.o.symm rfl rfl j8 vI ?_;intro K E r1 X r3;obtain⟨f1,f2,f3,f4,f5,f6,f7⟩:=d5.o K E r1 X r3;have k0:=f6.cellL (i:=2) (v:=.string nd.value) rfl;have HF:=Hd (bB f1 (bB f2 (bB f3 (bB f4 f5))));obtain⟨l8,l9,rfl⟩:=r1.sl;clear r1 X r3 f1 f2 f3 f4 f5 f6 f7)
       go_roundw
       case rel =>
        obtain⟨f1,f2,f3,f4,f5⟩:=HF.o
        exact WkR.go A.o f8.o b1.o b7.o f1 (show L0.length=(L0++entN nd p).length by rw[a6.o,bW]) (by rw[a6.o,bW];exact f2) HN.o (by rw[<-HQ.o];exact f3) f4 f5 (fun b hb e=>d8.o b e hb)
       case measure =>
        have:=HQ.o
        have:(jcC nd p).length<=16:=by rw[<-fI, <-jfx];exact jcU nd p 16
        show (400 - (Z.length+1)) * 18+q < (400 - Z.length) * 18+(n+1);omega
      ·have l7:nd.value.toList.isEmpty=false:=by
        rw[bO];cases hd:nd.value.data.toList with
        | nil=>exact absurd (congrArg List.length hd) hv
        | cons x l=>rfl
       have b9:¬(9223372036854775807 < p.size+nd.path.size):=vO
       have g8:(p++nd.path).size<=1000000:=by rw[bU];omega
       have HV:=Hd hv;clear hv;go_wp2_with (refine jji Tryz.sPlcs d3.o j7.o HQ.o.symm rfl rfl j8 vI ?_;intro K E r1 X r3;obtain⟨f1,f2,f3,f4,f5,f6,f7⟩:=d5.o K E r1 X r3;have k0:=f6.cellL (i:=2) (v:=.string nd.value) rfl;have m0:=f6.cellL (i:=1) (v:=.string nd.path) rfl;have m1:=f7.cell (i:=0) (v:=.string p) vF;have HF:=Hd (bB f1 (bB f2 (bB f3 (bB f4 f5))));have g9:=Hd f6;obtain⟨l8,l9,rfl⟩:=r1.sl;clear r1 X r3 f1 f2 f3 f4 f5 f6 f7)
       refine vC (jsC E (p++nd.path) g8) fun f9 b3=>?_;unfold keyV;have a2:=Hd b3;have n1:=(g9.o.keeps b3 (fun h=>h)).cellL (i:=2) (v:=.string nd.value) rfl;clear b3 k0 m0 m1;cases hko:jdh (p++nd.path)with
       | false =>
        have a5:entN nd p=[]:=by unfold entN keyR;rw[if_neg HV.o,if_neg (by rw[hko];exact Bool.false_ne_true)]
        have a6:=Hd a5;clear a5 hko;go_wp2_with fail
        go_roundw
        case rel =>
         obtain⟨f1,f2,f3,f4,f5⟩:=HF.o
         exact WkR.go A.o f8.o b1.o b7.o (ORow.mono f1 a2.o) (show L0.length=(L0++entN nd p).length by rw[a6.o,bW]) (by rw[a6.o,bW];exact ORow.mono f2 a2.o) HN.o (by rw[<-HQ.o];exact ORow.mono f3 a2.o) f4 f5 (fun b hb e=>d8.o b e hb)
        case measure =>
         have:=HQ.o
         have:(jcC nd p).length<=16:=by rw[<-fI, <-jfx];exact jcU nd p 16
         show (400 - (Z.length+1)) * 18+q < (400 - Z.length) * 18+(n+1);omega
       | true =>
        have a5:entN nd p=[(jbt (p++nd.path),nd.value)]:=by unfold entN keyR;rw[if_neg HV.o,if_pos hko]
        have a6:=Hd a5;clear a5 hko
        obtain⟨k1,b4⟩:=vE (jbt (p++nd.path))
        have h3:=Hd b4;have n2:L0.length<=400:=by have:=A.o.lle;omega
        have m2:L0.length+1<=maxLen:=by unfold maxLen;omega
        have m3:(L0.length+1) * 32<=140737488355328:=vO
        rw[if_pos rfl, <-b4];clear b4;go_wp2_with (at_builtin;(refine jaK Tryz.sEnts (ORow.mono (ORow.mono HF.o.2.1 a2.o) ((ExtR f9).alloc _)) (.tmp 83) (.tmp 88) rfl rfl rfl (jaI (Blk.new f9 _)) (news:=[.string k1,.string nd.value]) (jei _ _) rfl rfl m2 m3 ?_;intro n3 n4 r1 X r3))
        have m4:=Hd r1;have k2:=Hd X;have k3:=Hd r3
        obtain⟨n5,n6,rfl⟩:=r1.sl
        clear r1 X r3;go_roundw
        case rel =>
         obtain⟨f1,f2,f3,f4,f5⟩:=HF.o
         have hx:=a2.o.trans ((ExtR f9).alloc (.cells #[.string k1,.string nd.value] 47));have g1:=jhz (ORow.mono f1 hx) k2.o (fun b hb e=>d8.o b e hb) f2.new;have g3:=jhz (ORow.mono f3 hx) k2.o (fun b hb e=>f5 b hb e) f2.new;refine WkR.go A.o f8.o b1.o b7.o g1 (m:=L0.length+1) (by rw[a6.o,bC];rfl) (by rw[a6.o];unfold ERow;rw[jaV, <-h3.o];exact m4.o) HN.o (by rw[<-HQ.o];exact g3) f4 ?_ ?_
         ·exact jen (ORow.mono f3 hx).lt f5 k3.o
         ·exact jen (ORow.mono f1 hx).lt (fun b hb e=>d8.o b e hb) k3.o
        case measure =>
         have:=HQ.o
         have:(jcC nd p).length<=16:=by rw[<-fI, <-jfx];exact jcU nd p 16
         show (400 - (Z.length+1)) * 18+q < (400 - Z.length) * 18+(n+1);omega
end
section
open Go Go.RowKit
def rowE(e:Pair):Pair:=(jbu e.1,e.2)
theorem jnP(e:Pair):keyE (rowE e)=e:=by unfold keyE rowE;rw[jfJ]
theorem jne(l:vL):absP ⟨#[]⟩ l=l:=by
 unfold absP
 conv=>rhs;rw[<-List.map_id l]
 exact dI fun q _=>by rw[jpl];rfl
theorem jyj(x:vB):preB ⟨#[]⟩ x=true:=(jdt _ _).2 ⟨x.data.toList,rfl⟩
theorem jtR{e:Pair}{l:vL}:rowE e∈jaR l↔e∈l:=by
 constructor
 ·intro h
  obtain⟨p,o,h⟩:=bJ.1 h
  have:=congrArg keyE h
  rw[show ((jbu p.1,p.2):Pair)=rowE p from rfl,jnP,jnP]at this;rw[<-this];exact o
 ·exact fun h=>bJ.2 ⟨e,h,rfl⟩
theorem jpU{l:vL}(h:jaw l=0)(out:List Pl):jm2 out l=l.filter fun e => !jeS (metT [] l) out (jbu e.1):=by
 have A:=jbw (jaA h);have z:metT [] l=topP l ::(jck ⟨#[]⟩ (jaR l)).flatMap fun k=>metF [] 12 k.1 k.2:=by unfold metT;rw[if_neg (cN)]
 unfold jm2
 by_cases ho:topP l∈out
 ·rw[if_pos ho,eq_comm,iB]
  intro e E;rw[z,jfU,show (topP l).1=⟨#[]⟩from rfl,jyj];simp[ho]
 ·rw[if_neg ho,jmp (f:=11) out ⟨#[]⟩ A (joj out 11),jne]
  have o:∀ P:Pair->Bool,(((jaR l).filter P).map keyE)=l.filter fun e=>P (rowE e):=fun P=>by
   show (((l.map rowE).filter P).map keyE)=_;rw[List.filter_map,dJ];rw[dI (f:=keyE ∘ rowE) (g:=id) fun e _=>jnP e,List.map_id];rfl
  rw[o];refine List.filter_congr fun e E=>?_;rw[z,jfU,decide_eq_false ho];rfl
theorem jsU{l:vL}(h:jaw l=0){q:Pl}(e:q∈metT [] l):q=topP l\/(0 < q.1.size/\∃ m,jkh 12 ⟨#[]⟩ (jaR l) q m):=by
 have z:=jbw (jaA h);unfold metT at e;rw[if_neg (cN)]at e;rcases bM.1 e with e | e
 ·exact .inl e
 ·obtain⟨k,A,e⟩:=cR.1 e
  have o:=jgd (f:=11) z k A
  obtain⟨m,E⟩:=jvW 11 _ _ o.rows o.ne q e
  refine .inr ⟨?_,m,jmb (f:=11) z A e E⟩;have H:=jk1 (jkM 11 _ _ o.rows q e);have J:=o.more;have K:(⟨#[]⟩:vB).size=0:=rfl;omega
theorem jqC{f g:Nat}{l m:vL}(z:jas f l)(hm:jas g m){U:vM}(hU:InjL U)(h1:∀ x∈jax (jac (f+1) l),32<=x.size->x∈U)(h2:∀ x∈jax (jac (g+1) m),32<=x.size->x∈U) :
  jjr (jaH (jbF (jac (f+1) l))) (jaH (jbF (jac (g+1) m))):=by
 have o:∀ {f:Nat} {l:vL},jas f l->(∀ x∈jax (jac (f+1) l),32<=x.size->x∈U)->∀ x∈jaH (jbF (jac (f+1) l)),x∈U:=fun {f l} z h x e=>by
  by_cases hz:(jac (f+1) l).text.size < 32
  ·unfold jbF at e
   rw[if_pos hz]at e;cases e
  ·rw[jgF hz]at e
   refine h x e ?_;rcases jvj z e with rfl | h
   ·omega
   ·exact h
 exact fun x e y A=>hU x (o z h1 x e) y (o hm h2 y A)
theorem jv8(w:vW){l m:vL}(hl:jas 12 l)(hm:jas 12 m)(nl:l≠[])(nm:m≠[]){U:vM}(hU:InjL U)(h1:∀ x∈jax (jac 13 l),32<=x.size->x∈U)(h2:∀ x∈jax (jac 13 m),32<=x.size->x∈U)(h:refT l=refT m):l=m:=by
 obtain⟨e,o⟩:=jje ((good 12 l hl).2.1 nl) ((good 12 m hm).2.1 nm) h (jqC hl hm hU h1 h2)
 exact jms w 12 l m hl hm o e
theorem jp4(w:vW){a b:vL}(ha:jaw a=0)(hb:jaw b=0){U:vM}(hU:InjL U)(h1:∀ x∈jax (jaF a),x∈U)(h2:∀ x∈jax (jaF b),x∈U){e:Pair}(h:jeS (metT [] a) (metT [] b) (jbu e.1)=true)(he:e∈a):e∈b:=by
 obtain⟨q,H,h⟩:=fO.1 h
 obtain⟨A,J⟩:q∈metT [] b/\preB q.1 (jbu e.1)=true:=by
  have:=iK.1 h
  exact⟨of_decide_eq_true this.1,this.2⟩
 rcases jsU ha H with e1 |⟨e1,m,hm⟩ <;> rcases jsU hb A with e2 |⟨e2,n,hn⟩
 ·have K:(topP a).2=(topP b).2:=by rw[<-e1, <-e2]
  have O:shaB (jaF a).text=shaB (jaF b).text:=jke (jbk _) (jbk _) K
  have:=hU _ (h1 _ (jbX _)) _ (h2 _ (jbX _)) O
  rw[<-jww w ha hb (fun x z y Q=>hU x (h1 x z) y (h2 y Q)) this];exact he
 ·rw[e1]at e2;exact absurd e2 (Nat.lt_irrefl 0)
 ·rw[e2]at e1;exact absurd e1 (Nat.lt_irrefl 0)
 ·have:m=n:=jv8 w hm.rows hn.rows hm.ne hn.ne hU (fun x z o=>h1 x (hm.text x z o)) (fun x z o=>h2 x (hn.text x z o)) (hm.ref.symm.trans hn.ref)
  subst this;have X:=hm.down (rowE e) (by rw[jne];exact jtR.2 he) J;have E:=hn.up _ X;rw[jne]at E;exact jtR.1 E
theorem jp5(A B:List Pl)(e:vB):jeS A B e=jeS B A e:=by
 unfold jeS;rw[jC,fO,fO];constructor <;>
 ·rintro⟨q,o,h⟩
  have:=iK.1 h
  exact⟨q,of_decide_eq_true this.1,by rw[iK];exact⟨decide_eq_true o,this.2⟩⟩
theorem jvC(x:vB):jbh x x=false:=fP.2 fun h=>lt_irrefl _ ((jbm _ _).1 h)
theorem jsK(x y:vB)(h:jbh x y=true):jbh y x=false:=fP.2 fun k=>jmk _ _ ((jbm _ _).1 h) ((jbm _ _).1 k)
theorem jqI(x y z:vB)(h:jbh x y=true)(k:jbh y z=true):jbh x z=true:=(jbm _ _).2 (jdk _ _ _ ((jbm _ _).1 h) ((jbm _ _).1 k))
theorem jx0(x y:vB)(h:jbh x y=false)(k:jbh y x=false):x=y:=by
 rcases jhK x.data.toList y.data.toList with h1 | h1 | h1
 ·rw[(jbm _ _).2 h1]at h;cases h
 ·exact jbC h1
 ·rw[(jbm _ _).2 h1]at k;cases k
theorem jmQ{l:vL}(h:jaw l=0):jlt l:=(jaA h).rise.imp fun {p q} h=>(jbm _ _).2 h
theorem jd2{l:vL}(h:jaw l=0)(P:Pair->Bool):jaw (l.filter P)=0:=
 jpp (fun p e=>jnU h p (cM.1 e).1) ((jaA h).rise.filter _) (bK (dQ _ _) (jaA h).len)
theorem jvO(w:vW){a b:vL}(ha:jaw a=0)(hb:jaw b=0){U:vM}(hU:InjL U)(h1:∀ x∈jax (jaF a),x∈U)(h2:∀ x∈jax (jaF b),x∈U) :
  jaw (jm2 (metT [] b) a)=0/\jaw (jm2 (metT [] a) b)=0/\jcf (jm2 (metT [] b) a) (jm2 (metT [] a) b)=jcf a b:=by
 rw[jpU ha,jpU hb]
 refine⟨jd2 ha _,jd2 hb _,?_⟩
 unfold jcf;rw[if_pos ⟨jd2 ha _,jd2 hb _⟩,if_pos ⟨ha,hb⟩];rw[show (fun e:Pair => !jeS (metT [] b) (metT [] a) (jbu e.1))=fun e:Pair => !jeS (metT [] a) (metT [] b) (jbu e.1) by funext e;rw[jp5]];exact jsc jvC jsK jqI jx0 (fun e=>jeS (metT [] a) (metT [] b) (jbu e.1)) a b (jmQ ha) (jmQ hb) fun e o =>
  ⟨jp4 w ha hb hU h1 h2 o,jp4 w hb ha hU h2 h1 (by rw[jp5];exact o)⟩
inductive jb4 (S:vT) (out:vM):vM->vM->vM->Prop
 | nil (L:vM):jb4 S out L [] L
 | seen (L:vM) (h:vB) (hs R:vM):(h∈L\/h∈out)->jb4 S out L hs R->jb4 S out L (h :: hs) R
 | no (L:vM) (h:vB) (hs R:vM):h ∉ L->h ∉ out->h.size=32->atL S h.data.toList=none->jb4 S out L hs R->jb4 S out L (h :: hs) R
 | go (L:vM) (h:vB) (hs:vM) (y:Nd5) (n:jad) (R:vM):h ∉ L->h ∉ out->h.size=32->L.length+1<=S.length->atL S h.data.toList=some y->jbr y.2.2.text n->jb4 S out (L++[h]) ((jaM n).reverse++hs) R->jb4 S out L (h :: hs) R
theorem jsu{d:Nat}{n:jad}(hg:jbT (InlD d) n):∀ h∈jaM n,h.size=32:=by
 intro h o
 obtain⟨r,z,e⟩:=List.mem_filterMap.1 o
 by_cases hz:r.size=0
 ·rw[jbq hz,jfd]at e;cases e
 rcases jo0 hg r z hz with⟨k,h1,h2⟩ |⟨m,hm⟩
 ·rw[h2,jeq h1]at e
  rw[<-bS e];exact h1
 ·rw[jdT (inlP d) hm]at e;cases e
theorem jsJ{α:Type}[DecidableEq α]:∀ {a b:List α},a.Nodup->(∀ x∈a,x∈b)->a.length<=b.length
 | [],b,_,_=>cE _
 | x :: a,b,hn,h=>by
  rw[dV]at hn
  have:=jsJ (b:=b.erase x) hn.2 fun y o=>(List.mem_erase_of_ne (fun e=>by subst e;exact hn.1 o)).2 (h y (bE _ o))
  rw[List.length_erase_of_mem (h x bH)]at this
  have:=List.length_pos_of_mem (h x bH)
  simp only[bF];omega
structure jhG(S:vT)(L:vM):Prop where
 nodup:L.Nodup
 there:∀ h∈L,h.data.toList∈S.map (·.1)
theorem jhG.len{S:vT}{L:vM}(h:jhG S L):L.length<=S.length:=by
 have:=jsJ (a:=L.map fun x:vB=>x.data.toList) (b:=S.map (·.1)) ?_ fun x z=>?_
 ·simpa using this
 ·have:∀ {L:vM},L.Nodup->(L.map fun x:vB=>x.data.toList).Nodup:=fun {L} h=>by
   induction L with
   | nil=>exact .nil
   | cons x L ih =>
    rw[dV]at h;rw[bV,dV]
    refine⟨fun A=>?_,ih h.2⟩
    obtain⟨y,o,e⟩:=bJ.1 A
    rw[jbC e]at o;exact h.1 o
  exact this h.nodup
 ·obtain⟨y,o,rfl⟩:=bJ.1 z
  exact h.there y o
theorem jhG.add{S:vT}{L:vM}(h:jhG S L){k:vB}(hk:k ∉ L){y:Nd5}(hy:atL S k.data.toList=some y):jhG S (L++[k]):=by
 refine⟨fD.2 ⟨h.nodup,by simp,fun a z b hb=>?_⟩,fun x o=>?_⟩
 ·rw[bZ.1 hb]
  exact fun e=>hk (e ▸ z)
 ·rcases bT.1 o with o | o
  ·exact h.there x o
  ·rw[bZ.1 o]
   obtain⟨A,E⟩:=jbd hy
   exact bJ.2 ⟨y,A,E⟩
theorem jpB{S:vT}(hN:AllN S)(out:vM):∀ (m:Nat) (L z:vM),jhG S L->S.length<=L.length+m->(∀ h∈z,h.size=32)->∃ R,jb4 S out L z R:=by
 intro m;induction m with
 | zero =>
  intro L z J Q;induction z with
  | nil=>exact fun _=>⟨L,.nil L⟩
  | cons h z ih =>
   intro o
   obtain⟨R,E⟩:=ih fun x A=>o x (bE _ A)
   by_cases h1:h∈L\/h∈out
   ·exact⟨R,.seen L h z R h1 E⟩
   ·cases hy:atL S h.data.toList with
    | none=>exact⟨R,.no L h z R (fun e=>h1 (.inl e)) (fun e=>h1 (.inr e)) (o h bH) hy E⟩
    | some y =>
     have:=(J.add (fun e=>h1 (.inl e)) hy).len
     rw[bC]at this;simp at this;omega
 | succ m ihm =>
  intro L z J Q;induction z with
  | nil=>exact fun _=>⟨L,.nil L⟩
  | cons h z ih =>
   intro o
   by_cases h1:h∈L\/h∈out
   ·obtain⟨R,E⟩:=ih fun x A=>o x (bE _ A)
    exact⟨R,.seen L h z R h1 E⟩
   ·cases hy:atL S h.data.toList with
    | none =>
     obtain⟨R,E⟩:=ih fun x A=>o x (bE _ A)
     exact⟨R,.no L h z R (fun e=>h1 (.inl e)) (fun e=>h1 (.inr e)) (o h bH) hy E⟩
    | some y =>
     obtain⟨n,K⟩:=hN y (jbd hy).1
     have H:=J.add (fun e=>h1 (.inl e)) hy;have O:=H.len;rw[bC]at O
     obtain⟨R,E⟩:=ihm (L++[h]) ((jaM n).reverse++z) H (by rw[bC];simp;omega) fun x A=>by
      rcases bT.1 A with A | A
      ·obtain⟨_,g,X⟩:=K
       exact jsu X x (List.mem_reverse.1 A)
      ·exact o x (bE _ A)
     exact⟨R,.go L h z y n R (fun e=>h1 (.inl e)) (fun e=>h1 (.inr e)) (o h bH) (by simpa using O) hy K E⟩
theorem jj3{S:vT}{out L hs R:vM}(h:jb4 S out L hs R):∀ x∈L,x∈R:=by
 induction h with
 | nil L=>exact fun x e=>e
 | seen L h hs R _ _ ih=>exact ih
 | no L h hs R _ _ _ _ _ ih=>exact ih
 | go L h hs y n R _ _ _ _ _ _ _ ih=>exact fun x e=>ih x (fE _ e)
theorem ji2{S:vT}{out L hs R:vM}(h:jb4 S out L hs R):L.Nodup->R.Nodup:=by
 induction h with
 | nil L=>exact id
 | seen L h hs R _ _ ih=>exact ih
 | no L h hs R _ _ _ _ _ ih=>exact ih
 | go L h hs y n R h1 _ _ _ _ _ _ ih =>
  exact fun o=>ih (fD.2 ⟨o,by simp,fun a z b hb=>by rw[bZ.1 hb];exact fun e=>h1 (e ▸ z)⟩)
theorem jmJ{S:vT}{out L hs R:vM}(h:jb4 S out L hs R)(Q:vB->Prop)(hQ:∀ (k:vB) (y:Nd5) (n:jad),Q k->atL S k.data.toList=some y->jbr y.2.2.text n->∀ x∈jaM n,Q x) :
  (∀ x∈hs,Q x)->∀ x∈R,x∈L\/(Q x/\x ∉ out/\x.data.toList∈S.map (·.1)):=by
 induction h with
 | nil L=>exact fun _ x e=>.inl e
 | seen L h hs R _ _ ih=>exact fun o=>ih fun x e=>o x (bE _ e)
 | no L h hs R _ _ _ _ _ ih=>exact fun o=>ih fun x e=>o x (bE _ e)
 | go L h hs y n R h1 h2 h3 _ h4 h5 _ ih =>
  intro o x e;have A:=o h bH;rcases ih (fun z E=>by
   rcases bT.1 E with E | E
   ·exact hQ h y n A h4 h5 z (List.mem_reverse.1 E)
   ·exact o z (bE _ E)) x e with h6 | h6
  ·rcases bT.1 h6 with h6 | h6
   ·exact .inl h6
   ·rw[bZ.1 h6]
    obtain⟨H,J⟩:=jbd h4
    exact .inr ⟨A,h2,bJ.2 ⟨y,H,J⟩⟩
  ·exact .inr h6
theorem jqU{S:vT}{out L hs R:vM}(h:jb4 S out L hs R)(hL:∀ k∈L,∀ y n,atL S k.data.toList=some y->jbr y.2.2.text n->∀ x∈jaM n,x∈L\/x∈hs\/x∈out\/atL S x.data.toList=none)(w:vW) :
  (∀ x∈hs,x∈R\/x∈out\/atL S x.data.toList=none)/\∀ k∈R,∀ y n,atL S k.data.toList=some y->jbr y.2.2.text n->∀ x∈jaM n,x∈R\/x∈out\/atL S x.data.toList=none:=by
 induction h with
 | nil L =>
  refine⟨fun x e=>(cN e).elim,fun k o y n A K x e=>?_⟩
  rcases hL k o y n A K x e with h | h | h
  ·exact .inl h
  ·exact (cN h).elim
  ·exact .inr h
 | seen L h hs R A hR ih =>
  obtain⟨H,J⟩:=ih fun k o y n z E x e=>by
   rcases hL k o y n z E x e with h | h | h
   ·exact .inl h
   ·rcases bM.1 h with rfl | h
    ·exact A.elim .inl fun h=>.inr (.inr (.inl h))
    ·exact .inr (.inl h)
   ·exact .inr (.inr h)
  refine⟨fun x e=>?_,J⟩
  rcases bM.1 e with rfl | e
  ·exact A.elim (fun h=>.inl (jj3 hR _ h)) fun h=>.inr (.inl h)
  ·exact H x e
 | no L h hs R A K h3 h4 hR ih =>
  obtain⟨H,J⟩:=ih fun k o y n z E x e=>by
   rcases hL k o y n z E x e with h | h | h
   ·exact .inl h
   ·rcases bM.1 h with rfl | h
    ·exact .inr (.inr (.inr h4))
    ·exact .inr (.inl h)
   ·exact .inr (.inr h)
  refine⟨fun x e=>?_,J⟩
  rcases bM.1 e with rfl | e
  ·exact .inr (.inr h4)
  ·exact H x e
 | go L h hs y n R A K h3 _ h4 h5 hR ih =>
  obtain⟨H,J⟩:=ih fun k o Q O z E x e=>by
   rcases bT.1 o with o | o
   ·rcases hL k o Q O z E x e with h | h | h
    ·exact .inl (fE _ h)
    ·rcases bM.1 h with rfl | h
     ·exact .inl (by simp)
     ·exact .inr (.inl (jD _ h))
    ·exact .inr (.inr h)
   ·obtain rfl:=bZ.1 o
    rw[h4]at z;obtain rfl:=bS z
    obtain⟨X,g1,Z⟩:=h5
    obtain⟨b1,g2,b2⟩:=E
    obtain rfl:n=O:=jdl w Z b2 (X.symm.trans b1);exact .inr (.inl (fE _ (List.mem_reverse.2 e)))
  refine⟨fun x e=>?_,J⟩
  rcases bM.1 e with rfl | e
  ·exact .inl (jj3 hR _ (by simp))
  ·exact H x (jD _ e)
theorem ju8(G:vB->Prop):∀ (f:Nat) (l:vL),jas f l->(∀ t∈jax (jac (f+1) l),∀ n,jbr t n->G (shaB t)->∀ h∈jaM n,G h)->G (shaB (jac (f+1) l).text)->∀ t∈jax (jac (f+1) l),G (shaB t):=by
 intro f;induction f with
 | zero =>
  intro l h _ A t o;have O:jav (jac 0) l=[]:=by have:=jbI h;unfold jav;rw[if_pos vO]
  have E:jax (jac (0+1) l)=(jac (0+1) l).text :: jaH (jav (jac 0) l):=by
   show jax (.mk (jaP (jap (jac 0) l)) (jav (jac 0) l))=_;rw[jax];rfl
  rw[E,O]at o;simp[jaH]at o;rw[o];exact A
 | succ f ih =>
  intro l h J A t o;have E:jax (jac (f+1+1) l)=(jac (f+1+1) l).text :: jaH (jav (jac (f+1)) l):=by
   show jax (.mk (jaP (jap (jac (f+1)) l)) (jav (jac (f+1)) l))=_;rw[jax];rfl
  have z:=J _ (jbX _) (jap (jac (f+1)) l) ⟨rfl,f+1,(good (f+1) l h).1⟩ A;rw[jd5 (f+1) l h]at z;rw[E]at o;rcases bM.1 o with rfl | o
  ·exact A
  ·obtain⟨K,H,o⟩:=jbD.1 o
   have Q:=z _ (bJ.2 ⟨K,H,rfl⟩)
   obtain⟨g,m,e,rfl,X,_⟩:=jig h H
   obtain rfl:f=g:=vO
   exact ih m X (fun x Z=>J x (by rw[E];exact bE _ (jbD.2 ⟨_,H,Z⟩))) Q t o
theorem jmK(w:vW){S:vT}{b:vL}(h:HasM S b){out R:vM}(hR:jb4 S out [] [shaB (jaF b).text] R)(ho:∀ t∈jax (jaF b),shaB t∈out->∀ n,jbr t n->∀ x∈jaM n,x∈out) :
  ∀ k,k∈R↔(∃ t∈jax (jaF b),k=shaB t)/\k ∉ out:=by
 have hr:=jbw (jaA h.ok);have hT:=(jhT h.ok).node;have o:∀ t∈jax (jaF b),∃ y,atL S (shaB t).data.toList=some y/\y.2.2.text=t:=fun t A=>h.has t A;have h1:=jmJ hR (fun k=>∃ t∈jax (jaF b),k=shaB t) (fun k y n ⟨t,A,z⟩ hy E x H=>by
  subst z
  obtain⟨y',O,Q⟩:=o t A
  rw[O]at hy;obtain rfl:=bS hy;rw[Q]at E
  obtain⟨X,J,Z⟩:=hT t ((jaX _ _).2 A)
  obtain⟨a1,g1,a2⟩:=E
  obtain⟨b1,g2,b2⟩:=J
  obtain rfl:n=X:=jdl w a2 b2 (a1.symm.trans b1)
  obtain⟨t',K,e⟩:=Z x H
  exact⟨t',(jaX _ _).1 K,e⟩) (fun x H=>by rw[bZ.1 H];exact⟨_,jbX _,rfl⟩)
 obtain⟨h2,h3⟩:=jqU hR (fun k z=>(cN z).elim) w
 have h4:∀ t∈jax (jaF b),shaB t∈R\/shaB t∈out:=ju8 (fun k=>k∈R\/k∈out) 12 (jaR b) hr (fun t A n E z x H=>by
   obtain⟨y,O,Q⟩:=o t A
   rcases z with z | z
   ·rcases h3 _ z y n O (by rw[Q];exact E) x H with h | h | h
    ·exact .inl h
    ·exact .inr h
    ·obtain⟨X,J,Z⟩:=hT t ((jaX _ _).2 A)
     obtain⟨a1,g1,a2⟩:=E
     obtain⟨b1,g2,b2⟩:=J
     obtain rfl:n=X:=jdl w a2 b2 (a1.symm.trans b1)
     obtain⟨t',K,e⟩:=Z x H
     obtain⟨y',e3,_⟩:=o t' ((jaX _ _).1 K)
     rw[e,e3]at h;cases h
   ·exact .inr (ho t A z n E x H)) (by
  rcases h2 _ bH with h | h | h
  ·exact .inl h
  ·exact .inr h
  ·obtain⟨y,O,_⟩:=o _ (jbX (jaF b))
   rw[O]at h;cases h)
 refine fun k=>⟨fun z=>?_,fun ⟨⟨t,A,e⟩,E⟩=>?_⟩
 ·rcases h1 k z with h |⟨h,h',_⟩
  ·exact (cN h).elim
  ·exact⟨h,h'⟩
 ·subst e
  exact (h4 t A).resolve_right E
theorem jvS(w:vW){a b:vL}(ha:jaw a=0){U:vM}(hU:InjL U)(h1:∀ x∈jax (jaF a),x∈U)(h2:∀ x∈jax (jaF b),x∈U){A:vM}(hA:∀ k,k∈A↔∃ t∈jax (jaF a),k=shaB t) :
  ∀ t∈jax (jaF b),shaB t∈A->∀ n,jbr t n->∀ x∈jaM n,x∈A:=by
 intro t H J n K x O
 obtain⟨E,o,e⟩:=(hA _).1 J
 obtain rfl:=hU t (h2 t H) E (h1 E o) e
 obtain⟨Q,z,X⟩:=(jhT ha).node t ((jaX _ _).2 o)
 obtain⟨Z,g1,a2⟩:=K
 obtain⟨b1,g2,b2⟩:=z
 obtain rfl:n=Q:=jdl w a2 b2 (Z.symm.trans b1)
 obtain⟨t2,h3,e⟩:=X x O
 exact (hA x).2 ⟨t2,(jaX _ _).1 h3,e⟩
end
section
open Go Go.RowKit
attribute [local go_sem] Oper.semAt_some
theorem jxP(W:vW)(x:vB):vQ 135 #[.string x] W fun e w'=>e=.returned (.tuple #[])/\w'=W:=by
 unfold vQ;go_in;go_wp2_with fail
 refine bodyPost_end (results_none rfl _ _ _) rfl ?_
 exact⟨rfl,rfl⟩
theorem jBm(W:vW)(s bm:Nat)(room:Int)(S:vT)(hs:jaS W s bm room S)(k:vB)(y:Nd5)(hy:atL S k.data.toList=some y)(f:Nat)(n:jad)(hg:jbT (InlD f) n)(ht:y.2.2.text=jaP n) :
  vR 134 #[.pointer (some ⟨s,0,none⟩),.string k,.func (.func 135) #[] #[]] W (.tuple #[n.V,.bool true]):=by
 have hn:=(hg.one (inlP f)).refs;have HN:=Hd hn;have HG:=Hd hg;have HL:=Hd (n.cells_len hn);have z:=fun w (h:jaS w s bm room S)=>jjd w s bm room S k h;rw[hy]at z;simp only[gO,optV]at z;have J:=Hd z;have HS:=Hd hs
 obtain⟨t,K⟩:=vE y.2.2.text
 rw[<-K]at J ht;have HT:=Hd ht;clear z hs hg ht hn hy K;go_enter Tryz.func134,Tryz.ntmps134;go_wp2_with (refine jaj Tryz.allocNode rfl rfl ?_;intro W1 O E)
 refine vC (J.o W1 (HS.o.ext E)) fun w3 H=>?_;have Q:=Hd (O.keeps H (fun h=>h));have X:=Hd (E.trans H);clear H O E;go_wp2_with fail
 refine (jxP w3 t).mono ?_;rintro e w4 ⟨rfl,rfl⟩;go_wp2_with fail
 rw[HT.o];refine vC (jjP (inlP f) w4 n HG.o) fun w5 H=>?_;rw[<-HT.o];have A:=Q.o.keeps H (fun h=>h);have Z:=Hd H;clear H Q;unfold jad.V;go_wp2_with (first |(refine jaj Tryz.allocNode rfl rfl ?_;intro W5 a3 a1;refine jai (vs:=n.cells) rfl rfl rfl rfl a3 (by rw[HL.o];rfl) (by rw[HL.o];exact Tryz.szNode) n.one ?_;intro W6 a4 a2;have a0:=(A.keeps a1 (fun h=>h)).keeps a2 (by have:=A.lt;omega)) |(refine jae 94 (.tmp 10) rfl rfl _ _ rfl (jao _ _ n HN.o a4) ?_) |(refine jai (vs:=n.cells) rfl rfl rfl rfl a0 (by rw[HL.o];rfl) (by rw[HL.o];exact Tryz.szNode) n.one ?_;intro W8 a5 a6))
 refine bodyPost_ret (jaE rfl rfl rfl (jau W8 _ n HN.o a5)) rfl ?_;have a7:Ext W W6:=(((X.o.trans Z.o).trans a1)).trans' a2 (fun x hx e=>by have e:x=w5.heap.size:=e;have:=Z.o.size;have:=X.o.size;omega)
 exact⟨rfl,a7.trans' a6 (fun x hx e=>by have e:x=W.heap.size:=e;omega)⟩
section
variable (w0:vW) (s bm:Nat) (room:Int) (S:vT) (rb:Nat)
structure RdS0:Prop where
 st:jaS w0 s bm room S
 nodes:jjs S
 new:w0.heap.size<=rb
def jrj(f:Nat):Prop:=∀ n d,jbT (InlD d) n->∀ (W:vW) (left:Nat),Ext w0 W->RdAt W rb s left->left<=f->left<=160->vQ 136 #[.pointer (some ⟨rb,0,none⟩),n.V] W (RdO W rb s (jbV (gRef S) f n left))
def RefC(f:Nat):Prop:=∀ r d,MayP (InlD d) r->∀ (W:vW) (left:Nat),Ext w0 W->RdAt W rb s left->left<=f->left<=160->vQ 156 #[.pointer (some ⟨rb,0,none⟩),.string r] W (RdO W rb s ((gRef S r).bind fun m=>jbV (gRef S) f m left))
noncomputable def gHash(h:vB):Option jad:=(atL S h.data.toList).map fun x=>nodeOf x.2.2.text
def jza(f:Nat):Prop:=∀ h,∀ (W:vW) (left:Nat),Ext w0 W->RdAt W rb s left->left<=f->left<=160->vQ 103 #[.pointer (some ⟨rb,0,none⟩),.string h] W (RdO W rb s ((gHash S h).bind fun m=>jbV (gRef S) f m left))
end
theorem RdAt.ext{W W':vW}{rb s left:Nat}(h:RdAt W rb s left)(e:Ext W W'):RdAt W' rb s left:=h.keeps e (fun e=>e)
theorem jst(w0:vW)(s bm:Nat)(room:Int)(S:vT)(rb:Nat)(hR:RdS0 w0 s bm room S rb)(h:vB)(W:vW)(left:Nat)(z:Ext w0 W)(hr:RdAt W rb s left)(ha:atL S h.data.toList=none) :
  vQ 103 #[.pointer (some ⟨rb,0,none⟩),.string h] W (RdO W rb s none):=by
 have A:=jzB W s bm room S (hR.st.ext z) (.func (.func 135) #[] #[]) h ha;have H:=Hd A;have X:=Hd hr;unfold RdAt at hr;have q0:=hr.cell (i:=0) (v:=.pointer (some ⟨s,0,none⟩)) vF;clear A hr hR z ha;go_enter Tryz.func103,Tryz.ntmps103;go_wp2_with fail
 refine H.o.mono ?_;rintro e w1 ⟨rfl,z⟩;have Q:=Hd z;clear z;unfold jad.V;go_wp2_with (first |(refine jaj Tryz.allocNode rfl rfl ?_;intro W5 J K;refine jai (vs:=jaG.cells) rfl rfl rfl rfl J rfl Tryz.szNode jaG.one ?_;intro Z a0 O))
 go_ret2;have E:Ext W Z:=(Q.o.trans K).trans' O (fun x hx e=>by have e:x=w1.heap.size:=e;have:=Q.o.size;omega)
 exact⟨E.mono (fun _ _ e=>e.elim),_,left,rfl,.inl rfl,X.o.ext E⟩
theorem jss(w0:vW)(s bm:Nat)(room:Int)(S:vT)(rb:Nat)(hR:RdS0 w0 s bm room S rb)(f:Nat)(hN:jrj w0 s S rb f)(h:vB)(W:vW)(left:Nat)(J:Ext w0 W)(hr:RdAt W rb s left)(hf:left<=f)(h160:left<=160)(y:Nd5)(ha:atL S h.data.toList=some y) :
  vQ 103 #[.pointer (some ⟨rb,0,none⟩),.string h] W (RdO W rb s (jbV (gRef S) f (nodeOf y.2.2.text) left)):=by
 obtain⟨n0,K⟩:=hR.nodes y (jbd ha).1
 have hn:=jdm K
 obtain⟨n,O⟩:=vE (nodeOf y.2.2.text)
 rw[<-O]at hn ⊢
 obtain⟨ht,d,hg⟩:=hn
 have H:=(hg.one (inlP d)).refs;have a5:=Hd H;have HL:=Hd (n.cells_len H);have Q:=jBm W s bm room S (hR.st.ext J) h y ha d n hg ht;have a6:=Hd Q;have HR:=Hd hr;have X:=Hd (show ∀ w,Ext W w->vQ 136 #[.pointer (some ⟨rb,0,none⟩),n.V] w (RdO w rb s (jbV (gRef S) f n left))from fun w e=>hN n d hg w left (J.trans e) (hr.ext e) hf h160);unfold RdAt at hr;have q0:=hr.cell (i:=0) (v:=.pointer (some ⟨s,0,none⟩)) vF
 obtain⟨o,ho⟩:=vE (jbV (gRef S) f n left)
 rw[<-ho]at X ⊢;clear Q hr hR J ha K O ht hg H hN ho;go_enter Tryz.func103,Tryz.ntmps103;go_wp2_with fail
 refine a6.o.mono ?_;rintro e w1 ⟨rfl,J⟩;have HE:=Hd J;clear J;unfold jad.V;go_wp2_with (first |(refine jaj Tryz.allocNode rfl rfl ?_;intro W5 Z a0;refine jai (vs:=n.cells) rfl rfl rfl rfl Z (by rw[HL.o];rfl) (by rw[HL.o];exact Tryz.szNode) n.one ?_;intro W6 a1 a2) |(refine jae 94 (.tmp 6) rfl rfl _ _ rfl (jao _ _ n a5.o a1) ?_))
 have a3:Ext W W6:=(HE.o.trans a0).trans' a2 (fun x hx e=>by have e:x=w1.heap.size:=e;have:=HE.o.size;omega);have HX:=Hd a3;clear a3 Z a0 a1 a2;refine (X.o W6 HX.o).mono ?_;intro e w7 hO
 obtain⟨hk,a4⟩:=hO
 cases o with
 | none =>
  obtain⟨v,l,rfl,hv,A⟩:=a4
  have E:=Hd (bB hk (bB hv A));clear hk A;rcases hv with rfl |⟨T,x,rfl⟩
  ·go_wp2_with fail
   go_ret2
   exact⟨(HX.o.mono (fun _ _ e=>e.elim)).trans E.o.1,_,l,rfl,.inl rfl,E.o.2.2⟩
  ·go_wp2_with fail
   go_ret2
   exact⟨(HX.o.mono (fun _ _ e=>e.elim)).trans E.o.1,_,l,rfl,.inr ⟨T,x,rfl⟩,E.o.2.2⟩
 | some Pl =>
  obtain⟨P,l⟩:=Pl
  obtain⟨T,x,rfl,hP,A⟩:=a4
  have E:=Hd (bB hk (bB hP A));clear hk hP A;go_wp2_with fail
  go_ret2
  exact⟨(HX.o.mono (fun _ _ e=>e.elim)).trans E.o.1,T,x,rfl,E.o.2.1.mono (fun z hz=>⟨bK HX.o.size hz.1,hz.2⟩),E.o.2.2⟩
theorem jtN(w0:vW)(s bm:Nat)(room:Int)(S:vT)(rb:Nat)(hR:RdS0 w0 s bm room S rb)(f:Nat)(hN:jrj w0 s S rb f):jza w0 s S rb f:=by
 intro h W left o z A e;unfold gHash;cases ha:atL S h.data.toList with
 | none=>exact jst w0 s bm room S rb hR h W left o z ha
 | some y=>exact jss w0 s bm room S rb hR f hN h W left o z A e y ha
end
section
open Go Go.RowKit
attribute [local go_sem] Oper.semAt_some
theorem jnM(r:vB):jkB r=jcM r:=by
 unfold jkB jcM;cases cutN r <;> rfl
theorem jv7(w0:vW)(s:Nat)(S:vT)(rb:Nat)(f:Nat)(hH:jza w0 s S rb f)(r h:vB)(hrh:jcM r=some h)(hs:r.size<=1000)(W:vW)(left:Nat)(J:Ext w0 W)(hr:RdAt W rb s left)(hf:left<=f)(h160:left<=160) :
  vQ 156 #[.pointer (some ⟨rb,0,none⟩),.string r] W (RdO W rb s ((gHash S h).bind fun m=>jbV (gRef S) f m left)):=by
 have A:=jh2 W r vO;rw[jnM,hrh]at A;unfold optV at A;have HA:=Hd A;have X:=Hd (show ∀ w,Ext W w->vQ 103 #[.pointer (some ⟨rb,0,none⟩),.string h] w (RdO w rb s ((gHash S h).bind fun m=>jbV (gRef S) f m left))from fun w e=>hH h w left (J.trans e) (hr.ext e) hf h160)
 obtain⟨o,Z⟩:=vE ((gHash S h).bind fun m=>jbV (gRef S) f m left)
 rw[<-Z]at X ⊢;clear hH hrh hs J hr hf h160 A Z;go_enter Tryz.func156,Tryz.ntmps156;go_wp2_with fail
 refine HA.o.mono ?_;rintro e w1 ⟨rfl,J⟩;have K:=Hd J;clear J;go_wp2_with fail
 refine (X.o w1 K.o).mono ?_;intro e w7 hO
 obtain⟨Q,O⟩:=hO
 cases o with
 | none =>
  obtain⟨v,l,rfl,hv,E⟩:=O
  have H:=Hd (bB Q (bB hv E));clear Q E;rcases hv with rfl |⟨T,x,rfl⟩
  ·go_wp2_with fail
   go_ret2
   exact⟨(K.o.mono (fun _ _ e=>e.elim)).trans H.o.1,_,l,rfl,.inl rfl,H.o.2.2⟩
  ·go_wp2_with fail
   go_ret2
   exact⟨(K.o.mono (fun _ _ e=>e.elim)).trans H.o.1,_,l,rfl,.inr ⟨T,x,rfl⟩,H.o.2.2⟩
 | some Pl =>
  obtain⟨P,l⟩:=Pl
  obtain⟨T,x,rfl,hP,E⟩:=O
  have H:=Hd (bB Q (bB hP E));clear Q hP E;go_wp2_with fail
  go_ret2
  exact⟨(K.o.mono (fun _ _ e=>e.elim)).trans H.o.1,T,x,rfl,H.o.2.1.mono (fun z hz=>⟨bK K.o.size hz.1,hz.2⟩),H.o.2.2⟩
theorem jyp(w0:vW)(s:Nat)(S:vT)(rb:Nat)(f:Nat)(hN:jrj w0 s S rb f)(r:vB)(d:Nat)(n:jad)(hi:InlD (d+1) r n)(hs:r.size<=1000)(W:vW)(left:Nat)(hE:Ext w0 W)(hr:RdAt W rb s left)(hf:left<=f)(h160:left<=160) :
  vQ 156 #[.pointer (some ⟨rb,0,none⟩),.string r] W (RdO W rb s (jbV (gRef S) f n left)):=by
 have A:=jh2 W r vO;rw[jnM,jdT (inlP (d+1)) hi]at A;unfold optV at A;have HA:=Hd A;have J:=(hi.1.one (inlP d)).refs;have a3:=Hd J;have HL:=Hd (n.cells_len J);have HI:=Hd (fun w=>(inlP (d+1)).inl r n hi w);have K:=Hd (show ∀ w,Ext W w->vQ 136 #[.pointer (some ⟨rb,0,none⟩),n.V] w (RdO w rb s (jbV (gRef S) f n left))from fun w e=>hN n d hi.1 w left (hE.trans e) (hr.ext e) hf h160)
 obtain⟨o,ho⟩:=vE (jbV (gRef S) f n left)
 rw[<-ho]at K ⊢;clear hN hi hs hE hr hf h160 A J ho;go_enter Tryz.func156,Tryz.ntmps156;go_wp2_with fail
 refine HA.o.mono ?_;rintro e a4 ⟨rfl,O⟩;have a5:=Hd O;clear O;go_wp2_with fail
 refine vH (HI.o a4) fun w1 hE=>?_;have HE:=Hd (a5.o.trans hE);unfold jad.V;go_wp2_with (first |(refine jaj Tryz.allocNode rfl rfl ?_;intro W5 Q X;refine jai (vs:=n.cells) rfl rfl rfl rfl Q (by rw[HL.o];rfl) (by rw[HL.o];exact Tryz.szNode) n.one ?_;intro W6 Z a0) |(refine jae 94 (.tmp 8) rfl rfl _ _ rfl (jao _ _ n a3.o Z) ?_))
 have a1:Ext W W6:=(HE.o.trans X).trans' a0 (fun x hx e=>by have e:x=w1.heap.size:=e;have:=HE.o.size;omega);have HX:=Hd a1;clear a1 Q X Z a0;refine (K.o W6 HX.o).mono ?_;intro e w7 hO
 obtain⟨hk,a2⟩:=hO
 cases o with
 | none =>
  obtain⟨v,l,rfl,hv,E⟩:=a2
  have H:=Hd (bB hk (bB hv E));clear hk E;rcases hv with rfl |⟨T,x,rfl⟩
  ·go_wp2_with fail
   go_ret2
   exact⟨(HX.o.mono (fun _ _ e=>e.elim)).trans H.o.1,_,l,rfl,.inl rfl,H.o.2.2⟩
  ·go_wp2_with fail
   go_ret2
   exact⟨(HX.o.mono (fun _ _ e=>e.elim)).trans H.o.1,_,l,rfl,.inr ⟨T,x,rfl⟩,H.o.2.2⟩
 | some Pl =>
  obtain⟨P,l⟩:=Pl
  obtain⟨T,x,rfl,hP,E⟩:=a2
  have H:=Hd (bB hk (bB hP E));clear hk hP E;go_wp2_with fail
  go_ret2
  exact⟨(HX.o.mono (fun _ _ e=>e.elim)).trans H.o.1,T,x,rfl,H.o.2.1.mono (fun z hz=>⟨bK HX.o.size hz.1,hz.2⟩),H.o.2.2⟩
theorem jAH(w0:vW)(s bm:Nat)(room:Int)(S:vT)(rb:Nat)(hR:RdS0 w0 s bm room S rb)(f:Nat)(hN:jrj w0 s S rb f):RefC w0 s S rb f:=by
 intro r d z W left A E H e;have J:r.size<=1000:=by have:=z.size (inlP d);omega
 unfold gRef;rcases z with hh |⟨m,hi⟩
 ·obtain⟨h,K,O⟩:=hh
  have o:jcM r=some h:=by rw[O];exact jeq K
  rw[o];exact jv7 w0 s S rb f (jtN w0 s bm room S rb hR f hN) r h o J W left A E H e
 ·cases d with
  | zero=>exact hi.elim
  | succ d =>
   rw[jdT (inlP (d+1)) hi];show Calls _ _ _ W (RdO W rb s (jbV (gRef S) f (inlOf r) left));rw[jo4 w0 hi];exact jyp w0 s S rb f hN r d m hi J W left A E H e
theorem jmq(W:vW)(rb s:Nat)(n:jad)(hr:RdAt W rb s 0):vQ 136 #[.pointer (some ⟨rb,0,none⟩),n.V] W (RdO W rb s none):=by
 have A:=hr.lt;have z:=hr.ext ((ExtR W).alloc (.cells n.cells.toArray 94));have E:=Hd z;unfold RdAt at z;have H:=z.cell (i:=1) (v:=.int .i64 0) vF;clear z hr;unfold jad.V;unfold vQ;go_in;go_wp2_with fail
 go_ret2
 exact⟨((ExtR W).alloc _).mono (fun _ _ e=>e.elim),_,0,rfl,.inl rfl,E.o⟩
theorem jtc(W:vW)(rb s k:Nat)(hk:k<=160)(q v:vB)(rs:vM)(hr:RdAt W rb s (k+1)):vQ 136 #[.pointer (some ⟨rb,0,none⟩),(jad.mk 1 q v rs).V] W (RdO W rb s (some (.leaf q v,k))):=by
 have a5:=hr.lt;have a6:W.heap.size≠rb:=vO
 obtain⟨Q,A⟩:=vE (W.setCell ⟨rb,1,none⟩ (.int .i64 (k:Int)))
 obtain⟨J,E⟩:=vE (Q.alloc (.cells (jad.cells ⟨1,q,v,rs⟩).toArray 94))
 have Z:RdAt Q rb s k:=by rw[A];exact Blk.set_same (i:=1) hr _
 have a0:Q.heap.size=W.heap.size:=by rw[A];exact gK _ _ _
 have H:Ext Q J:=by rw[E];exact (ExtR Q).alloc _
 have X:Blk J W.heap.size (.cells (jad.cells ⟨1,q,v,rs⟩).toArray 94):=by rw[<-a0,E];exact Blk.new Q _
 have K:RdAt J rb s k:=Z.ext H;have O:jaf (fun z=>z=rb) W J:=(show jaf (fun z=>z=rb) W Q by rw[A];exact jaf.oneSet _ ⟨rb,1,none⟩ _).trans (H.mono (fun _ _ e=>e.elim));have a3:=Hd (bB K (bB O X));have hA:=hr.ext ((ExtR W).alloc (.cells (jad.cells ⟨1,q,v,rs⟩).toArray 94));unfold RdAt at hA;have q1:=hA.cell (i:=1) (v:=.int .i64 ((k:Int)+1)) vF;have f1:(W.alloc (.cells (jad.cells ⟨1,q,v,rs⟩).toArray 94)).frozen? ⟨rb,1,none⟩=false:=hA.frozen;have e0:(jad.cells ⟨1,q,v,rs⟩)[0]?=some (.int .i64 1):=rfl;have e1:(jad.cells ⟨1,q,v,rs⟩)[1]?=some (.string q):=rfl;have e2:(jad.cells ⟨1,q,v,rs⟩)[2]?=some (.string v):=rfl;have HW:=Hd (bB A E);clear hr hA Z H K O X A E;unfold jad.V;unfold vQ;go_in;go_wp2_with fail
 go_ret2
 obtain⟨A,E⟩:=HW.o
 rw[<-A, <-E]
 obtain⟨K,O,X⟩:=a3.o
 have a1:Ext J (J.alloc (.cells #[.string q,.string v] 231)):=(ExtR J).alloc _;have a4:=Blk.new J (.cells #[.string q,.string v] 231);have hz:J.heap.size=W.heap.size+1:=by rw[E,bR,a0]
 have a2:Blk (J.alloc (.cells #[.string q,.string v] 231)) (W.heap.size+1) (.cells #[.string q,.string v] 231):=by rw[<-hz];exact a4
 exact⟨O.trans (a1.mono (fun _ _ e=>e.elim)),_,_,rfl,⟨_,rfl,⟨Nat.le_succ _,a2.lt⟩,a2⟩,K.ext a1⟩
theorem jtd(W:vW)(rb s k:Nat)(hk:k<=160)(q v:vB)(rs:vM)(hr:RdAt W rb s (k+1)):vQ 136 #[.pointer (some ⟨rb,0,none⟩),(jad.mk 0 q v rs).V] W (RdO W rb s (some (.no,k))):=by
 have a2:=hr.lt;have a3:W.heap.size≠rb:=vO
 obtain⟨O,A⟩:=vE (W.setCell ⟨rb,1,none⟩ (.int .i64 (k:Int)))
 obtain⟨Z,E⟩:=vE (O.alloc (.cells (jad.cells ⟨0,q,v,rs⟩).toArray 94))
 have X:RdAt O rb s k:=by rw[A];exact Blk.set_same (i:=1) hr _
 have a0:O.heap.size=W.heap.size:=by rw[A];exact gK _ _ _
 have H:Ext O Z:=by rw[E];exact (ExtR O).alloc _
 have Q:Blk Z W.heap.size (.cells (jad.cells ⟨0,q,v,rs⟩).toArray 94):=by rw[<-a0,E];exact Blk.new O _
 have J:RdAt Z rb s k:=X.ext H;have K:jaf (fun z=>z=rb) W Z:=(show jaf (fun z=>z=rb) W O by rw[A];exact jaf.oneSet _ ⟨rb,1,none⟩ _).trans (H.mono (fun _ _ e=>e.elim));have a1:=Hd (bB J (bB K Q));have hA:=hr.ext ((ExtR W).alloc (.cells (jad.cells ⟨0,q,v,rs⟩).toArray 94));unfold RdAt at hA;have q1:=hA.cell (i:=1) (v:=.int .i64 ((k:Int)+1)) vF;have f1:(W.alloc (.cells (jad.cells ⟨0,q,v,rs⟩).toArray 94)).frozen? ⟨rb,1,none⟩=false:=hA.frozen;have e0:(jad.cells ⟨0,q,v,rs⟩)[0]?=some (.int .i64 0):=rfl;have HW:=Hd (bB A E);clear hr hA X H J K Q A E;unfold jad.V;unfold vQ;go_in;go_wp2_with fail
 go_ret2
 obtain⟨A,E⟩:=HW.o
 rw[<-A, <-E]
 obtain⟨J,K,Q⟩:=a1.o
 exact⟨K,_,_,rfl,rfl,J⟩
theorem jvK(w0:vW)(s:Nat)(S:vT)(rb f:Nat)(hRef:RefC w0 s S rb f)(hnew:w0.heap.size<=rb)(W:vW)(k:Nat)(hE0:Ext w0 W)(hk:k<=f)(h160:k<=159)(q v r:vB)(rs:vM)(d:Nat)(hm:MayP (InlD d) r)(hr:RdAt W rb s (k+1)):vQ 136 #[.pointer (some ⟨rb,0,none⟩),(jad.mk 2 q v (r :: rs)).V] W (RdO W rb s ((gRef S r).bind fun m=>(jbV (gRef S) f m k).map fun x=>(.ext q x.1,x.2))):=by
 have b9:=hr.lt;have b4:W.heap.size≠rb:=vO
 obtain⟨W1,E⟩:=vE (W.setCell ⟨rb,1,none⟩ (.int .i64 (k:Int)))
 obtain⟨J,H⟩:=vE (W1.alloc (.cells (jad.cells ⟨2,q,v,r :: rs⟩).toArray 94))
 have a4:RdAt W1 rb s k:=by rw[E];exact Blk.set_same (i:=1) hr _
 have a5:W1.heap.size=W.heap.size:=by rw[E];exact gK _ _ _
 have K:Ext W1 J:=by rw[H];exact (ExtR W1).alloc _
 have a6:Blk J W.heap.size (.cells (jad.cells ⟨2,q,v,r :: rs⟩).toArray 94):=by rw[<-a5,H];exact Blk.new W1 _
 have X:RdAt J rb s k:=a4.ext K;have a1:jaf (fun z=>z=rb) W J:=(show jaf (fun z=>z=rb) W W1 by rw[E];exact jaf.oneSet _ ⟨rb,1,none⟩ _).trans (K.mono (fun _ _ e=>e.elim));have a2:=Hd (bB X (bB a1 a6));have hA:=hr.ext ((ExtR W).alloc (.cells (jad.cells ⟨2,q,v,r :: rs⟩).toArray 94));unfold RdAt at hA;have q1:=hA.cell (i:=1) (v:=.int .i64 ((k:Int)+1)) vF;have f1:(W.alloc (.cells (jad.cells ⟨2,q,v,r :: rs⟩).toArray 94)).frozen? ⟨rb,1,none⟩=false:=hA.frozen;have e0:(jad.cells ⟨2,q,v,r :: rs⟩)[0]?=some (.int .i64 2):=rfl;have e1:(jad.cells ⟨2,q,v,r :: rs⟩)[1]?=some (.string q):=rfl;have e3:(jad.cells ⟨2,q,v,r :: rs⟩)[3]?=some (.string r):=rfl;have a7:Ext w0 J:=hE0.trans' a1 (fun x hx e=>by have e:x=rb:=e;omega);have HC:=Hd (hRef r d hm J k a7 X hk vO);have b5:(jad.cells ⟨2,q,v,r :: rs⟩).toArray.size=(jad.cells ⟨2,q,v,r :: rs⟩).length:=by simp
 have a0:rb < J.heap.size:=X.lt;have c0:=Hd a0
 obtain⟨o,ho⟩:=vE ((gRef S r).bind fun m=>jbV (gRef S) f m k)
 have a8:((gRef S r).bind fun m=>(jbV (gRef S) f m k).map fun x=>(PA.ext q x.1,x.2))=o.map fun x=>(PA.ext q x.1,x.2):=by
  rw[ho];cases gRef S r with
  | none=>rfl
  | some m=>rfl
 rw[<-ho]at HC;rw[a8];have HW:=Hd (bB E H);have a9:J.heap.size=W.heap.size+1:=by rw[H,bR,a5]
 have b6:=Hd a9;have b7:=hr;clear hRef hnew hE0 hm hr hA a4 K X a1 a6 a7 ho a8 a9 b5 a0 b7;unfold jad.V;unfold vQ;go_in;go_wp2_with fail
 rw[<-E, <-H];clear E H q1 f1;refine HC.o.mono ?_;intro e O hO
 obtain⟨Q,b0⟩:=hO
 have b1:=a2.o.2.2.keeps Q (fun e=>b4 (by exact e));have q7:=b1.cellL (i:=1) e1;have a3:=Hd (a2.o.2.1.trans Q);have b2:=a2.o.2.2.lt;have b8:=Hd (show W.heap.size<=O.heap.size/\W.heap.size+1=J.heap.size/\J.heap.size<=O.heap.size from⟨bK (Nat.le_of_lt b2) Q.size,b6.o.symm,Q.size⟩);clear Q b1 b2;cases o with
 | none =>
  obtain⟨v7,l,rfl,hv,A⟩:=b0
  have HZ:=Hd A;clear A;rcases hv with rfl |⟨T,x,rfl⟩
  ·go_wp2_with fail
   go_ret2
   exact⟨a3.o.trans (((ExtR O).alloc _).mono (fun _ _ e=>e.elim)),_,l,rfl,.inr ⟨_,_,rfl⟩,HZ.o.ext ((ExtR O).alloc _)⟩
  ·go_wp2_with fail
   go_ret2
   exact⟨a3.o.trans (((ExtR O).alloc _).mono (fun _ _ e=>e.elim)),_,l,rfl,.inr ⟨_,_,rfl⟩,HZ.o.ext ((ExtR O).alloc _)⟩
 | some Pl =>
  obtain⟨P,l⟩:=Pl
  obtain⟨T,x,rfl,hP,A⟩:=b0
  have HZ:=Hd (bB hP A);clear hP A;go_wp2_with fail
  go_ret2
  obtain⟨hP,A⟩:=HZ.o
  have Z:Ext O (O.alloc (.cells #[.string q,.iface T x] 234)):=(ExtR O).alloc _;have b3:=Blk.new O (.cells #[.string q,.iface T x] 234)
  obtain⟨z1,z2,z3⟩:=b8.o
  refine⟨a3.o.trans (Z.mono (fun _ _ e=>e.elim)),_,_,rfl,⟨_,T,x,jlu J O,rfl,⟨by omega,b3.lt⟩,b3,hP.keeps Z _ _ _ (fun _ _ e=>e),fun e=>by have:=e.2;omega,fun z hz=>⟨by have:=hz.1;omega,bQ hz.2 Z.size⟩⟩,A.ext Z⟩
theorem jj5{R:jad->Nat->Option (PA × Nat)}{G:vB->Option jad}{rs:vM}{k left:Nat}(h:jfm R G rs k left=none):∀ d,jfm R G rs (k+d) left=none
 | 0=>h
 | d+1=>by
  show jfm R G rs (k+d+1) left=none;rw[jfL,jj5 h d];rfl
structure jzj(W:World)(rb s bb:Nat)(G:vB->Option jad)(R:jad->Nat->Option (PA × Nat))(v:vB)(rs:vM)(left:Nat)(iv:Value)(wr:World)(k:Nat)(ks:Nat->PA)(l:Nat)(vk:Nat->Value)(Dk:Nat->Nat->Prop)(D:Nat->Prop):Prop where
 le:k<=16
 iv:iv=.int .i64 (k:Int)
 rd:jfm R G rs k left=some (ks,l)
 br:BrAt v ks bb vk Dk D wr
 since:∀ z,D z->W.heap.size<=z
 rdr:RdAt wr rb s l
 kp:jaf (fun z=>z=rb) W wr
theorem jld{W:vW}{b:Nat}{n:jad}(hr:n.refs.length=16)(hB:Blk W b (.cells n.cells.toArray 94)):(Instr.loadAt 92 (.pointer (some ⟨b,3,none⟩))).run Tryz.prog W=.ok (.agg (n.refs.map Value.string).toArray) W:=by
 have e:W.rangeAt b 3 (n.refs.map Value.string):=fun j v z=>hB.cellL (by
  unfold jad.cells;rw[show 3+j=j+3 by omega];simpa using z)
 have o:=run_loadVar_mid (P:=Tryz.prog) W b 3 92 _ _ e Tryz.uRefs rfl (by simp only[cC,hr];exact Tryz.iRefs);simp[Instr.loadAt,Instr.sureAddr,bX,Result.andThen,o]
theorem jya(w0:vW)(s:Nat)(S:vT)(rb f:Nat)(hRef:RefC w0 s S rb f)(hnew:w0.heap.size<=rb)(W:vW)(k0:Nat)(hE0:Ext w0 W)(hk:k0<=f)(h160:k0<=159)(q v:vB)(rs:vM)(d:Nat)(hrl:rs.length=16)(hm:∀ r∈rs,r.size≠0->MayP (InlD d) r)(hr:RdAt W rb s (k0+1)):vQ 136 #[.pointer (some ⟨rb,0,none⟩),(jad.mk 3 q v rs).V] W (RdO W rb s ((jfm (jbV (gRef S) f) (gRef S) rs 16 k0).map fun x=>(.br v x.1,x.2))):=by
 have d7:=hr.lt;have e9:W.heap.size≠rb:=vO
 obtain⟨W1,A⟩:=vE (W.setCell ⟨rb,1,none⟩ (.int .i64 (k0:Int)))
 obtain⟨W2,E⟩:=vE (W1.alloc (.cells (jad.cells ⟨3,q,v,rs⟩).toArray 94))
 have c2:RdAt W1 rb s k0:=by rw[A];exact Blk.set_same (i:=1) hr _
 have b0:W1.heap.size=W.heap.size:=by rw[A];exact gK _ _ _
 have Z:Ext W1 W2:=by rw[E];exact (ExtR W1).alloc _
 have b1:Blk W2 W.heap.size (.cells (jad.cells ⟨3,q,v,rs⟩).toArray 94):=by rw[<-b0,E];exact Blk.new W1 _
 have b2:RdAt W2 rb s k0:=c2.ext Z;have b3:jaf (fun z=>z=rb) W W2:=(show jaf (fun z=>z=rb) W W1 by rw[A];exact jaf.oneSet _ ⟨rb,1,none⟩ _).trans (Z.mono (fun _ _ e=>e.elim));have d8:=Hd (bB b2 (bB b3 b1));have hA:=hr.ext ((ExtR W).alloc (.cells (jad.cells ⟨3,q,v,rs⟩).toArray 94));unfold RdAt at hA;have q1:=hA.cell (i:=1) (v:=.int .i64 ((k0:Int)+1)) vF;have f1:(W.alloc (.cells (jad.cells ⟨3,q,v,rs⟩).toArray 94)).frozen? ⟨rb,1,none⟩=false:=hA.frozen;have e0:(jad.cells ⟨3,q,v,rs⟩)[0]?=some (.int .i64 3):=rfl;have e2:(jad.cells ⟨3,q,v,rs⟩)[2]?=some (.string v):=rfl
 obtain⟨W3,J⟩:=vE (W2.alloc (.cells #[.string v,.nilIface,.nilIface,.nilIface,.nilIface,.nilIface,.nilIface,.nilIface,.nilIface,.nilIface,.nilIface,.nilIface,.nilIface,.nilIface,.nilIface,.nilIface,.nilIface] 238))
 have Q:Ext W2 W3:=by rw[J];exact (ExtR W2).alloc _
 have c3:W2.heap.size=W.heap.size+1:=by rw[E,bR,b0]
 have b4:Blk W3 (W.heap.size+1) (.cells (brC v (fun _=>.nilIface)).toArray 238):=by rw[<-c3,J];exact Blk.new W2 _
 have a0:BrAt v (fun _=>.nil) (W.heap.size+1) (fun _=>.nilIface) (fun _ _=>False) (fun x=>x=W.heap.size+1) W3:=
  ⟨rfl,b4,fun i _=>⟨rfl,fun e=>e,fun _ e=>e.elim⟩,fun _ _ _ _ _ _ e=>e.elim,fun x e=>by rw[e];exact b4.lt⟩
 have b5:=jld (n:=⟨3,q,v,rs⟩) hrl (b1.keeps Q (fun e=>e));have c4:=Hd (show jzj W rb s (W.heap.size+1) (gRef S) (jbV (gRef S) f) v rs k0 (.int .i64 0) W3 0 (fun _=>.nil) k0 (fun _=>.nilIface) (fun _ _=>False) (fun x=>x=W.heap.size+1)from⟨by omega,rfl,rfl,a0,fun z e=>by rw[e];omega,b2.ext Q,b3.trans (Q.mono (fun _ _ e=>e.elim))⟩);have c1:=Hd hRef;have HM:=Hd hm;have d9:=Hd hrl;have e1:=Hd hE0;have e3:=Hd hnew;have e4:=Hd d7;have HF:=Hd hk
 obtain⟨o,ho⟩:=vE ((jfm (jbV (gRef S) f) (gRef S) rs 16 k0).map fun x=>(PA.br v x.1,x.2))
 have HO:=Hd ho;rw[<-ho];have HW:=Hd (bB A (bB E J));have c5:=Hd (show W.heap.size+1≠rb by omega);rw[J,E,A]at b5;clear hRef hnew hE0 hm hr hA c2 Z b2 b3 b1 A E J Q b4 a0 hrl ho c3 hk;unfold jad.V;unfold vQ;go_in;go_wp2_with (refine jae 92 (.tmp 59) rfl rfl _ _ rfl b5 ?_)
 obtain⟨A,E,J⟩:=HW.o
 rw[<-A, <-E, <-J]
 obtain⟨bb,c6⟩:=vE (W.heap.size+1)
 rw[<-c6]at c4 c5 ⊢;clear A E J HW b5 q1 f1 b0 c6 d8;go_loopw [61] (fun iv wr=>∃ k ks l vk Dk D,jzj W rb s bb (gRef S) (jbV (gRef S) f) v rs k0 iv wr k ks l vk Dk D) (fun iv _=>16 - (intOf iv).toNat)
 case atStart=>exact⟨0,_,_,_,_,_,c4.o⟩
 case round =>
  obtain⟨k,ks,l,vk,Dk,D,h⟩:=hrel
  obtain⟨f0,rfl,c7,a0,c8,c9,d0⟩:=h
  have b6:=Hd c7;have K:=Hd a0;have a1:=Hd c8;have b7:=Hd c9;have O:=Hd d0;clear c7 a0 c8 c9 d0
  by_cases hlt:k < 16
  ·obtain⟨r,a2⟩:∃ r,rs[k]?=some r:=⟨_,bA (by have:=d9.o;omega)⟩
   have f2:(Instr.index 92 (.agg (rs.map Value.string).toArray) (.int .i64 (k:Int))).run Tryz.prog wr=.ok (.string r) wr:=jeV Tryz.uRefs Tryz.strOne Tryz.strAgg _ k hlt _ (by rw[cA,a2];rfl) wr;have b8:rs.getD k ⟨#[]⟩=r:=by rw[bG,a2];rfl
   have H:=jfL (jbV (gRef S) f) (gRef S) rs k k0;rw[b6.o,b8]at H;have H:jfm (jbV (gRef S) f) (gRef S) rs (k+1) k0=if r.size=0 then some (ks,l)else (gRef S r).bind fun m=>(jbV (gRef S) f m l).map fun y=>(setK ks k y.1,y.2):=H
   by_cases hr0:r.size=0
   ·rw[if_pos hr0]at H
    have e5:=jbq hr0;subst e5;have f3:(⟨#[]⟩:vB).toList.isEmpty=true:=by rw[bO];rfl
    have a6:=Hd H;clear H a2 hr0 b8;go_wp2;go_roundw
    case rel=>exact⟨k+1,ks,l,vk,Dk,D,by omega,by go_num,a6.o,K.o,a1.o,b7.o,O.o⟩
    case measure=>exact vJ
   ·rw[if_neg hr0]at H
    have e8:=jc2 hr0;have d1:Ext w0 wr:=e1.o.trans' O.o (fun x hx e=>by have e:x=rb:=e;have:=e3.o;omega);have e6:l<=k0:=jk4 (fun m l y h=>bK (jk5 (gRef S) f m l y h) (Nat.sub_le _ _)) k k0 _ b6.o;have HC:=Hd (c1.o r d (HM.o r (bI a2) hr0) wr l d1 b7.o (by have:=HF.o;omega) vO)
    obtain⟨o1,b9⟩:=vE ((gRef S r).bind fun m=>jbV (gRef S) f m l)
    rw[<-b9]at HC;have a4:jfm (jbV (gRef S) f) (gRef S) rs (k+1) k0=o1.map fun y=>(setK ks k y.1,y.2):=by
     rw[H,b9];cases gRef S r with
     | none=>rfl
     | some m=>rfl
    have a6:=Hd a4;have f4:=Hd (K.o.lt bb K.o.mem);clear H a4 a2 hr0 b8 d1 e6 b9;go_wp2_with fail
    refine HC.o.mono ?_;intro e w7 hO
    obtain⟨d2,d3⟩:=hO
    have a7:=Hd d2;clear d2;cases o1 with
    | none =>
     obtain⟨v7,l7,rfl,hv,a3⟩:=d3
     have HZ:=Hd a3;clear a3;have d4:=Hd (show o=none by
      rw[HO.o]
      have:=jj5 (k:=k+1) a6.o (15 - k)
      rw[show k+1+(15 - k)=16 by omega]at this;rw[this];rfl)
     rcases hv with rfl |⟨T,x,rfl⟩
     ·go_wp2_with fail
      go_ret2;rw[d4.o]
      exact⟨O.o.trans a7.o,_,l7,rfl,.inl rfl,HZ.o⟩
     ·go_wp2_with fail
      go_ret2;rw[d4.o]
      exact⟨O.o.trans a7.o,_,l7,rfl,.inl rfl,HZ.o⟩
    | some Pl =>
     obtain⟨P,l7⟩:=Pl
     obtain⟨T,x,rfl,hP,a3⟩:=d3
     have a5:∀ z,D z->¬ z=rb:=fun z X e=>by have:=a1.o z X;have:=e4.o;omega
     have a8:=K.o.keeps a7.o (fun z X=>a5 z X);have hg:=a8.give hlt hP (fun z X=>⟨fun e=>by have:=K.o.lt z e;have:=X.1;omega,X.2⟩)
     obtain⟨W8,a9⟩:=vE (w7.setCell ⟨bb,1+k,none⟩ (.iface T x))
     rw[<-a9]at hg;have c0:jaf (fun z=>z=bb) w7 W8:=by rw[a9];exact jaf.oneSet w7 ⟨bb,1+k,none⟩ (.iface T x)
     have d5:RdAt W8 rb s l7:=a3.keeps c0 (fun e=>c5.o e.symm);have d6:jaf (fun z=>z=rb) W W8:=(O.o.trans a7.o).trans' c0 (fun z X e=>by have e:z=bb:=e;have:=a1.o bb K.o.mem;omega)
     obtain⟨old,q7⟩:∃ v,w7.cell? ⟨bb,1+k,none⟩=some v:=⟨_,a8.blk.cellL (bA (by rw[jg9];omega))⟩
     have f7:w7.frozen? ⟨bb,1+k,none⟩=false:=a8.blk.frozen;have HG:=Hd (bB hg (bB d5 (bB d6 (show ∀ z,(D z\/jlu wr w7 z)->W.heap.size<=z from fun z X=>X.elim (a1.o z) (fun e=>bK O.o.size e.1)))));have e7:=Hd a9;clear hP a3 a5 a8 hg c0 d5 d6 a9;go_wp2_with fail
     rw[<-e7.o];clear q7 f7;go_roundw
     case rel=>exact⟨k+1,_,l7,_,_,_,by omega,by go_num,a6.o,HG.o.1,HG.o.2.2.2,HG.o.2.1,HG.o.2.2.1⟩
     case measure=>exact vJ
  ·obtain rfl:k=16:=vO
   go_wp2_with fail
   go_ret2;rw[HO.o,b6.o]
   exact⟨O.o,_,_,rfl,K.o.pa.at'.mono (fun z X=>⟨a1.o z X,K.o.lt z X⟩),b7.o⟩
theorem jtQ(w0:vW)(s bm:Nat)(room:Int)(S:vT)(rb:Nat)(hR:RdS0 w0 s bm room S rb):∀ f,jrj w0 s S rb f
 | 0=>fun n d H W left A o J z=>by
  obtain rfl:left=0:=vO
  rw[jj6];exact jmq W rb s n o
 | f+1=>fun n d H W left A o J z=>by
  have e:=jAH w0 s bm room S rb hR f (jtQ w0 s bm room S rb hR f);cases left with
  | zero =>
   rw[jj6];exact jmq W rb s n o
  | succ k =>
   rw[jez,if_neg (iH k)];cases H with
   | none=>exact jtd W rb s k vO _ _ _ o
   | leaf p v h1 h2 h3=>exact jtc W rb s k vO p v _ o
   | ext p r h1 h2 h3 =>
    have E:MayP (InlD d) r:=h3.imp id (fun ⟨m,E,_⟩=>⟨m,E⟩);exact jvK w0 s S rb f e hR.new W k A vO vO p ⟨#[]⟩ r (jam 15) d E o
   | branch v rs h1 h2 h3 h4=>exact jya w0 s S rb f e hR.new W k A vO vO ⟨#[]⟩ v rs d h1 h3 o
def jA9(W:vW)(o:Option (PA × Nat))(e:Ending)(w':vW):Prop:=Ext W w'/\match o with
 | some (P,_)=>∃ T x,e=.returned (.tuple #[.iface T x,.bool true])/\PaAt P (.iface T x) (jlu W w') w'
 | none=>∃ v,e=.returned (.tuple #[v,.bool false])/\(v=.nilIface\/∃ T x,v=.iface T x)
noncomputable def readR(S:vT)(root:vB):Option (PA × Nat):=(gHash S root).bind fun m=>jbV (gRef S) 160 m 160
theorem jyO(W:vW)(s bm:Nat)(room:Int)(S:vT)(hs:jaS W s bm room S)(hN:jjs S)(root:vB) :
  vQ 64 #[.pointer (some ⟨s,0,none⟩),.string root] W (jA9 W (readR S root)):=by
 obtain⟨J,A⟩:=vE (W.alloc (.cells #[.pointer (some ⟨s,0,none⟩),.int .i64 160] 182))
 have E:Ext W J:=by rw[A];exact (ExtR W).alloc _
 have K:RdAt J W.heap.size s 160:=by rw[A];exact Blk.new W _
 have X:RdS0 W s bm room S W.heap.size:=⟨hs,hN,bL _⟩;have Q:=jtN W s bm room S W.heap.size X 160 (jtQ W s bm room S W.heap.size X 160) root J 160 E K (bL _) (bL _)
 obtain⟨o,Z⟩:=vE (readR S root)
 have Q:vQ 103 #[.pointer (some ⟨W.heap.size,0,none⟩),.string root] J (RdO J W.heap.size s o):=by rw[Z];exact Q
 have HC:=Hd Q;have HE:=Hd E;have HW:=Hd A;rw[<-Z];clear hs hN K X Q Z E A;go_enter Tryz.func64,Tryz.ntmps64;go_wp2_with fail
 rw[<-HW.o];refine HC.o.mono ?_;intro e w7 hO
 obtain⟨hk,O⟩:=hO
 have hX:Ext W w7:=HE.o.trans' hk (fun x hx e=>by have e:x=W.heap.size:=e;omega);have HX:=Hd hX;clear hk hX;cases o with
 | none =>
  obtain⟨v,l,rfl,hv,H⟩:=O
  clear H;rcases hv with rfl |⟨T,x,rfl⟩
  ·go_wp2_with fail
   go_ret2
   exact⟨HX.o,_,rfl,.inl rfl⟩
  ·go_wp2_with fail
   go_ret2
   exact⟨HX.o,_,rfl,.inr ⟨T,x,rfl⟩⟩
 | some Pl =>
  obtain⟨P,l⟩:=Pl
  obtain⟨T,x,rfl,hP,H⟩:=O
  have HZ:=Hd hP;clear hP H;go_wp2_with fail
  go_ret2
  exact⟨HX.o,T,x,rfl,HZ.o.mono (fun z hz=>⟨bK HE.o.size hz.1,hz.2⟩)⟩
theorem joV(w:vW){S:vT}{f:Nat}{m:vL}(h:jas f m)(hn:m≠[])(hS:32<=(jac (f+1) m).text.size->HasS S (jac (f+1) m).text):gRef S (refB (jac (f+1) m).text)=some (jap (jac f) m):=by
 have e:=(good f m h).2.1 hn;unfold gRef
 by_cases hz:(jac (f+1) m).text.size < 32
 ·have z:=e.may.2 hz
  rw[jdT (inlP (f+1)) z,jo4 w z]
 ·rw[jgS hz,jeq (jbk _)]
  obtain⟨x,o,E⟩:=hS vO
  have o:atL S (shaB (jac (f+1) m).text).data.toList=some x:=o;show (atL S (shaB (jac (f+1) m).text).data.toList).map (fun x=>nodeOf x.2.2.text)=_;rw[o];show some (nodeOf x.2.2.text)=_;have A:jbr (jac (f+1) m).text (jap (jac f) m):=⟨e.text,f,e.good⟩;rw[E,jet w (jdm A) A]
theorem jq0(w:vW)(S:vT):∀ (g:Nat) (l:vL),jas g l->(∀ x∈jaH (jav (jac g) l),32<=x.size->HasS S x)->∀ (f left:Nat),cntT g l<=left->left<=f->jbV (gRef S) f (jap (jac g) l) left=some (ja4 (g+1) l,left - cntT g l):=by
 intro g;have z:∀ (g:Nat) (l:vL),l.length<=1->cntT g l=1->∀ (f left:Nat),cntT g l<=left->left<=f->jbV (gRef S) f (jap (jac g) l) left=some (ja4 (g+1) l,left - cntT g l):=by
  intro g l hl hc f left O h2;rw[hc]at O ⊢;cases f with
  | zero=>omega
  | succ f =>
   rw[jez,if_neg vO]
   by_cases h0:l.length=0
   ·have e:jap (jac g) l=jaG:=by unfold jap;rw[if_pos h0]
    rw[e,jbW _ h0];rfl
   ·have a1:l.length=1:=vO
    have e:jap (jac g) l=⟨1,(l.getD 0 pd).1,(l.getD 0 pd).2,jam 16⟩:=by unfold jap;rw[if_neg h0,if_pos a1]
    rw[e,jb0 _ a1];rfl
 induction g with
 | zero =>
  intro l h hS f left O h2;exact z 0 l (jbI h) rfl f left O h2
 | succ g ih =>
  intro l h hS f left O h2
  by_cases hl:l.length<=1
  ·exact z (g+1) l hl (by unfold cntT;rw[if_pos hl]) f left O h2
  have Q:2<=l.length:=vO
  have E:∀ m,jas g m->m≠[]->(∀ x∈jaH (jbF (jac (g+1) m)),x∈jaH (jav (jac (g+1)) l))->(32<=(jac (g+1) m).text.size->HasS S (jac (g+1) m).text)/\∀ x∈jaH (jav (jac g) m),32<=x.size->HasS S x:=by
   intro m hm a4 H
   refine⟨fun hz=>hS _ (H _ ?_) hz,fun x X hz=>?_⟩
   ·rw[jgF vO];exact jbX _
   ·by_cases hs:(jac (g+1) m).text.size < 32
    ·have a5:=(good g m hm).2.1 a4
     have e:(jac (g+1) m).kids=[]:=a5.small hs;have e:jav (jac g) m=[]:=e;rw[e]at X;cases X
    ·refine hS x (H x ?_) hz
     rw[jgF hs];exact bE _ X
  cases f with
  | zero =>
   exfalso
   have:1<=cntT (g+1) l:=by unfold cntT;omega
   omega
  | succ f =>
   by_cases hk:0 < comK l
   ·obtain⟨J,Z,_,_⟩:=jef h Q hk
    have eB:jav (jac (g+1)) l=jbF (jac (g+1) (jak (comK l) l)):=by unfold jav;rw[if_neg vO,if_pos hk]
    have eN:jap (jac (g+1)) l=⟨2,(l.getD 0 pd).1.extract 0 (comK l),⟨#[]⟩,refB (jac (g+1) (jak (comK l) l)).text :: jam 15⟩:=by unfold jap;rw[if_neg vO,if_neg vO,if_pos hk]
    have eC:cntT (g+1) l=1+cntT g (jak (comK l) l):=by
     show 1+(if l.length<=1 then 0 else if 0 < comK l then cntT g (jak (comK l) l)else _)=_;rw[if_neg vO,if_pos hk]
    obtain⟨s1,s2⟩:=E _ J Z (fun x X=>by rw[eB];exact X)
    rw[eC]at O ⊢;rw[jez,if_neg vO,eN,jdB _ Q hk];show ((gRef S (refB (jac (g+1) (jak (comK l) l)).text)).bind fun m=>(jbV (gRef S) f m (left - 1)).map fun x=>(PA.ext ((l.getD 0 pd).1.extract 0 (comK l)) x.1,x.2))=_;rw[joV w J Z s1];show (jbV (gRef S) f (jap (jac g) (jak (comK l) l)) (left - 1)).map _=_;rw[ih _ J s2 f (left - 1) vO vO];show some (_,left - 1 - cntT g (jak (comK l) l))=some (_,left - (1+cntT g (jak (comK l) l)))
    congr 2
    omega
   ·have eB:jav (jac (g+1)) l=(List.range 16).flatMap fun i=>if (cutL i l).length=0 then []else jbF (jac (g+1) (jak 1 (cutL i l))):=by unfold jav;rw[if_neg vO,if_neg hk]
    obtain⟨rs,a2⟩:=vE ((List.range 16).map fun i=>if (cutL i l).length=0 then (⟨#[]⟩:vB)else refB (jac (g+1) (jak 1 (cutL i l))).text)
    have eN:jap (jac (g+1)) l=⟨3,⟨#[]⟩,if (l.getD 0 pd).1.size=0 then (l.getD 0 pd).2 else ⟨#[]⟩,rs⟩:=by rw[a2];unfold jap;rw[if_neg vO,if_neg vO,if_neg hk]
    obtain⟨c,hc⟩:∃ c:Nat->Nat,c=fun i=>if (cutL i l).length=0 then 0 else cntT g (jak 1 (cutL i l)):=⟨_,rfl⟩
    have eC:cntT (g+1) l=1+sumF c 16:=by
     rw[hc];show 1+(if l.length<=1 then 0 else if 0 < comK l then _ else _)=_;rw[if_neg vO,if_neg hk]
    obtain⟨o,A⟩:∃ o:Nat->PA,o=fun i=>if (cutL i l).length=0 then PA.nil else ja4 (g+1) (jak 1 (cutL i l)):=⟨_,rfl⟩
    rw[eC]at O ⊢;have a0:∀ k,k<=16->jfm (jbV (gRef S) f) (gRef S) rs k (left - 1)=some (fun i=>if i < k then o i else .nil,left - 1 - sumF c k):=by
     intro k;induction k with
     | zero=>intro _;simp[jfm,sumF]
     | succ k ihk =>
      intro a6;rw[jfL,ihk vO];have a3:rs.getD k ⟨#[]⟩=if (cutL k l).length=0 then (⟨#[]⟩:vB)else refB (jac (g+1) (jak 1 (cutL k l))).text:=by rw[a2,jfF _ vO]
      show (if (rs.getD k ⟨#[]⟩).size=0 then some (_,left - 1 - sumF c k)else (gRef S (rs.getD k ⟨#[]⟩)).bind fun m=>(jbV (gRef S) f m (left - 1 - sumF c k)).map fun y=>(setK (fun i=>if i < k then o i else .nil) k y.1,y.2))=_;have K:sumF c (k+1)=sumF c k+c k:=rfl
      by_cases hc0:(cutL k l).length=0
      ·rw[a3,if_pos hc0,if_pos (show (⟨#[]⟩:vB).size=0 from rfl),K]
       have e1:c k=0:=by rw[hc];exact if_pos hc0
       have e2:o k=.nil:=by rw[A];exact if_pos hc0
       rw[e1,fR]
       congr 2
       funext i
       by_cases hi:i < k
       ·rw[if_pos hi,if_pos vO]
       ·rw[if_neg hi]
        by_cases he:i=k
        ·rw[he,if_pos vO,e2]
        ·rw[if_neg vO]
      ·obtain⟨J,Z⟩:=je3 h hc0
       obtain⟨s1,s2⟩:=E _ J Z (fun x X=>by
        rw[eB,jhl];exact cR.2 ⟨k,dW.2 vO,by rw[if_neg hc0];exact X⟩)
       have e1:c k=cntT g (jak 1 (cutL k l)):=by rw[hc];exact if_neg hc0
       have e2:o k=ja4 (g+1) (jak 1 (cutL k l)):=by rw[A];exact if_neg hc0
       have a7:sumF c (k+1)<=sumF c 16:=by
        have:=jeA c (k+1) (15 - k)
        rwa [show k+1+(15 - k)=16 by omega]at this
       rw[a3,if_neg hc0,if_neg (jk6 J Z),joV w J Z s1];show (jbV (gRef S) f (jap (jac g) (jak 1 (cutL k l))) (left - 1 - sumF c k)).map _=_;rw[ih _ J s2 f _ vO vO, <-e1, <-e2,K];show some (setK _ k (o k),_)=some (_,_)
       congr 2
       ·funext i
        unfold setK
        by_cases he:i=k
        ·rw[if_pos he,he,if_pos vO]
        ·rw[if_neg he]
         show (if i < k then o i else PA.nil)=_
         by_cases hi:i < k
         ·rw[if_pos hi,if_pos vO]
         ·rw[if_neg hi,if_neg vO]
       ·omega
    rw[jez,if_neg vO,eN,jeT _ Q hk];show (jfm (jbV (gRef S) f) (gRef S) rs 16 (left - 1)).map (fun x=>(PA.br (if (l.getD 0 pd).1.size=0 then (l.getD 0 pd).2 else ⟨#[]⟩) x.1,x.2))=_;rw[a0 16 (bL _), <-A];show some (PA.br _ (fun i=>if i < 16 then o i else .nil),left - 1 - sumF c 16)=some (PA.br _ o,left - (1+sumF c 16));have e3:(fun i=>if i < 16 then o i else .nil)=o:=by
     funext i
     by_cases hi:i < 16
     ·rw[if_pos hi]
     ·rw[if_neg hi,A]
      show PA.nil=if (cutL i l).length=0 then PA.nil else _
      rw[if_pos (by
       cases hz:(cutL i l).length with
       | zero=>rfl
       | succ n=>exact absurd (jzN h (i:=i) vO) hi)]
    rw[e3]
    congr 2
    omega
theorem jkt:∀ (g:Nat) (l:vL),jas g l->cntP (ja4 (g+1) l)=cntT g l:=by
 intro g;have e:∀ (g:Nat) (l:vL),l.length<=1->cntP (ja4 (g+1) l)=1:=by
  intro g l z
  by_cases h0:l.length=0
  ·rw[jbW _ h0];rfl
  ·rw[jb0 _ vO];rfl
 induction g with
 | zero=>intro l h;exact e 0 l (jbI h)
 | succ g ih =>
  intro l h
  by_cases z:l.length<=1
  ·rw[e _ l z]
   show 1=1+(if l.length<=1 then 0 else _);rw[if_pos z]
  have o:2<=l.length:=vO
  show _=1+(if l.length<=1 then 0 else if 0 < comK l then cntT g (jak (comK l) l)else sumF (fun i=>if (cutL i l).length=0 then 0 else cntT g (jak 1 (cutL i l))) 16);rw[if_neg z]
  by_cases hk:0 < comK l
  ·rw[if_pos hk,jdB _ o hk]
   show 1+cntP (ja4 (g+1) (jak (comK l) l))=_;rw[ih _ (jef h o hk).1]
  ·rw[if_neg hk,jeT _ o hk]
   show 1+sumF (fun i=>cntP (if (cutL i l).length=0 then PA.nil else ja4 (g+1) (jak 1 (cutL i l)))) 16=_
   congr 2
   funext i
   by_cases hc:(cutL i l).length=0
   ·rw[if_pos hc,if_pos hc];rfl
   ·rw[if_neg hc,if_neg hc,ih _ (je3 h hc).1]
theorem jks{l:vL}(h:jux l):cntT 12 (jaR l)<=118:=by
 have e:=jbw h
 by_cases hn:jaR l=[]
 ·rw[hn];decide
 ·have o:=(jwM 12 _ e hn).all
  have z:=h.len;have A:(jaR l).length=l.length:=by unfold jaR;rw[cC]
  omega
theorem jtE(w:vW){S:vT}{l:vL}(h:HasM S l):∃ k,readR S (shaB (jaF l).text)=some (ja4 13 (jaR l),k):=by
 have o:=jbw (jaA h.ok)
 obtain⟨x,e,A⟩:=h.has _ (jbX _)
 have e:atL S (shaB (jaF l).text).data.toList=some x:=e;have z:jbr (jaF l).text (jap (jac 12) (jaR l)):=⟨rfl,12,(good 12 _ o).1⟩;unfold readR gHash;rw[e];show ∃ k,jbV (gRef S) 160 (nodeOf x.2.2.text) 160=_;rw[A,jet w (jdm z) z];have H:=jks (jaA h.ok)
 exact⟨_,jq0 w S 12 _ o (fun y E _=>h.has y (bE _ E)) 160 160 vO (bL _)⟩
end
section
open Go Go.RowKit
end
section
open Go Go.RowKit
attribute [local go_sem] Oper.semAt_some
def ErrT(w:vW):Prop:=w.cell? ⟨1,0,none⟩=some (.iface 169 (.agg #[.pointer (some ⟨3,76,none⟩)]))
theorem ErrT.ext{w w':vW}(h:ErrT w)(k:Ext w w'):ErrT w':=jaa h k
structure WrAt(z g:Nat)(v:Value)(T:vM)(W:World):Prop where
 lo:z<=g
 var:Blk W g (.cells #[v] 139)
 row:W.ownsRow 0 9 1 v T.length (T.map Value.string)
 own:∀ b,v.ownBlock=some b->z<=b/\b≠g/\b < W.heap.size
 nil:T=[]->v=.slice none 0 0
theorem WrAt.ext{z g:Nat}{v:vV}{T:vM}{W W':vW}(h:WrAt z g v T W)(e:Ext W W'):WrAt z g v T W':=
 ⟨h.lo,h.var.keeps e (fun g=>g),jbo h.row e,fun b hb=>⟨(h.own b hb).1,(h.own b hb).2.1,bQ (h.own b hb).2.2 e.size⟩,h.nil⟩
theorem WrAt.off{z g:Nat}{v:vV}{T:vM}{W W':vW}{F:BSet}(h:WrAt z g v T W)(e:jaf F W W')(h1:¬ F g)(h2:∀ b,v.ownBlock=some b->¬ F b):WrAt z g v T W':=
 ⟨h.lo,h.var.keeps e h1,jbc h.row e h2,fun b hb=>⟨(h.own b hb).1,(h.own b hb).2.1,bQ (h.own b hb).2.2 e.size⟩,h.nil⟩
structure WrTo(z g:Nat)(v:Value)(W W':World)(v':Value)(T':vM):Prop where
 at':WrAt z g v' T' W'
 kp:jaf (fun b=>b=g\/v.ownBlock=some b) W W'
 sub:∀ b,v'.ownBlock=some b->v.ownBlock=some b\/W.heap.size<=b
theorem WrTo.refl{z g:Nat}{v:vV}{T:vM}{W W':vW}(h:WrAt z g v T W)(e:Ext W W'):WrTo z g v W W' v T:=⟨h.ext e,e.mono (fun _ _ h=>h.elim),fun b hb=>.inl hb⟩
theorem WrTo.trans{z g:Nat}{v v' v'':vV}{T T':vM}{W W' W'':vW}(h:WrTo z g v W W' v' T)(k:WrTo z g v' W' W'' v'' T'):WrTo z g v W W'' v'' T':=
 ⟨k.at',h.kp.trans' k.kp (fun x o e=>by
  rcases e with e | e
  ·exact .inl e
  ·rcases h.sub x e with e | e
   ·exact .inr e
   ·omega),fun b hb=>by
  rcases k.sub b hb with e | e
  ·exact h.sub b e
  ·exact .inr (bK h.kp.size e)⟩
theorem WrTo.ext{z g:Nat}{v v':vV}{T:vM}{W W' W'':vW}(h:WrTo z g v W W' v' T)(e:Ext W' W''):WrTo z g v W W'' v' T:=h.trans (WrTo.refl h.at' e)
theorem WrTo.blk{z g:Nat}{v v':vV}{T:vM}{W W':vW}(h:WrTo z g v W W' v' T){b:Nat}{o:Obj}(hB:Blk W b o)(h1:b≠g)(h2:v.ownBlock≠some b):Blk W' b o:=hB.keeps h.kp (fun e=>e.elim h1 h2)
theorem WrTo.ext0{z g:Nat}{v v':vV}{T T':vM}{W0 W W':vW}(h:WrTo z g v W W' v' T')(k:WrAt z g v T W)(e:Ext W0 W)(hz:W0.heap.size<=z):Ext W0 W':=
 e.trans' h.kp (fun x o e=>by
  rcases e with e | e
  ·have:=k.lo;omega
  ·have:=(k.own x e).1;omega)
theorem WrTo.fill{z g:Nat}{v v':vV}{T:vM}{W W' W'':vW}(h:WrTo z g v W W' v' T){L:Nat}(e:jaf (fun b=>b=L) W' W'')(h1:L≠g)(h2:v'.ownBlock≠some L)(h3:W.heap.size<=L):WrTo z g v W W'' v' T:=
 ⟨h.at'.off e (fun x=>h1 x.symm) (fun b hb x=>h2 (by rw[hb,x])),h.kp.trans' e (fun x o y=>by have y:x=L:=y;omega),h.sub⟩
theorem WrTo.ahead{z g:Nat}{v v':vV}{T:vM}{W0 W W':vW}(e:Ext W0 W)(h:WrTo z g v W W' v' T):WrTo z g v W0 W' v' T:=
 ⟨h.at',(e.mono (fun _ _ h=>h.elim)).trans' h.kp (fun x o e=>e),fun b hb=>(h.sub b hb).imp id (fun k=>bK e.size k)⟩
def FoP(z g:Nat)(v:vV)(W:vW)(r:vV)(T:vM)(e:Ending)(w':vW):Prop:=e=.returned r/\∃ v',WrTo z g v W w' v' T
structure jp9(n:jad):Prop where
 refs:n.refs.length=16
 call:∀ w,jbY w->ErrT w->vQ 52 #[n.V] w fun e w'=>(∃ k:Int,e=.returned (.tuple #[.string (putN n),.int .i64 k]))/\Ext w w'
theorem jmE{d:Nat}{n:jad}(h:jbT (InlD d) n):jp9 n:=⟨(h.one (inlP d)).refs,fun w _ _=>by
 rw[jmA h];exact (jjX (inlP d) w n h).mono fun e w' h=>⟨⟨0,h.1⟩,h.2⟩⟩
def PutP:PA->Prop
 | .nil=>True
 | .no=>jp9 jaG
 | .leaf q v=>jp9 ⟨1,q,v,jam 16⟩
 | .ext q n=>jp9 (nodeP (.ext q n))/\PutP n
 | .br v ks=>jp9 (nodeP (.br v ks))/\∀ i,PutP (ks i)
theorem PutP.node{P:PA}(h:PutP P)(hn:P.isNil=false):jp9 (nodeP P):=by
 cases P with
 | nil=>cases hn
 | no=>exact h
 | leaf q v=>exact h
 | ext q n=>exact h.1
 | br v ks=>exact h.1
theorem jeC:∀ (P:PA),P.isNil=false->(underP P).length+1<=cntP P
 | .nil,h=>by cases h
 | .no,_=>bL _
 | .leaf _ _,_=>bL _
 | .ext q n,_=>by
  show (bigs (textP n)++underP n).length+1<=1+cntP n;rw[bC];have e:=jkn (textP n);cases hn:n.isNil with
  | true=>rw[jbE hn];exact bL _
  | false =>
   have:=jeC n hn
   omega
 | .br v ks,_=>by
  show ((List.range 16).flatMap fun i=>if (ks i).isNil then []else bigs (textP (ks i))++underP (ks i)).length+1<=1+sumF (fun i=>cntP (ks i)) 16
  have:=jgE (fun i=>if (ks i).isNil then []else bigs (textP (ks i))++underP (ks i)) (fun i=>cntP (ks i)) (fun i=>by
   show (if (ks i).isNil=true then ([]:vM)else bigs (textP (ks i))++underP (ks i)).length<=cntP (ks i);cases hn:(ks i).isNil with
   | true=>rw[if_pos rfl];exact cE _
   | false =>
    rw[if_neg ff,bC];have e:=jkn (textP (ks i))
    have:=jeC (ks i) hn
    omega) 16
  omega
def jy6(P:PA):Prop:=∀ (w0 W:vW) (T:TypeId) (x:vV) (D:Nat->Prop) (g:Nat) (v:vV) (Tx:vM),jbY w0->ErrT w0->PaO P (.iface T x) D w0->Ext w0 W->WrAt w0.heap.size g v Tx W->Tx.length+cntP P<=100000 ->
 vQ (jmv P) #[x,.pointer (some ⟨g,0,none⟩)] W (FoP w0.heap.size g v W (nodeP P).V (Tx++underP P))
def TopC(P:PA):Prop:=∀ (w0 W:vW) (T:TypeId) (x:vV) (D:Nat->Prop) (g:Nat) (v:vV) (Tx:vM),jbY w0->ErrT w0->PaO P (.iface T x) D w0->Ext w0 W->WrAt w0.heap.size g v Tx W->Tx.length+cntP P<=100000 ->
 vQ 75 #[.pointer (some ⟨g,0,none⟩),.iface T x] W (FoP w0.heap.size g v W (.string (textP P)) (Tx++underP P))
def jxl(P:PA):Prop:=∀ (w0 W:vW) (T:TypeId) (x:vV) (D:Nat->Prop) (g:Nat) (v:vV) (Tx:vM),jbY w0->ErrT w0->PaO P (.iface T x) D w0->Ext w0 W->WrAt w0.heap.size g v Tx W->Tx.length+cntP P<=100000 ->
 vQ 222 #[.pointer (some ⟨g,0,none⟩),.iface T x] W (FoP w0.heap.size g v W (.string (refB (textP P))) (Tx++(bigs (textP P)++underP P)))
theorem jvM(z g:Nat)(v:vV)(Tx:vM)(W:vW)(h:WrAt z g v Tx W):vQ 253 #[.agg #[],.pointer (some ⟨g,0,none⟩)] W (FoP z g v W jaG.V Tx):=by
 have H:=Hd h;clear h;unfold vQ;go_in;go_wp2_with (first |(refine jaj Tryz.allocNode rfl rfl ?_;intro X A E;simp only[bR]at A) |(refine jai (vs:=jaG.cells) rfl rfl rfl rfl A rfl Tryz.szNode jaG.one ?_;intro Q J K))
 have O:Ext W (W.alloc (.cells #[] 240)):=(ExtR W).alloc _;refine bodyPost_ret (jbJ rfl rfl (jau Q _ jaG rfl J)) rfl ?_
 exact⟨rfl,v,WrTo.refl H.o ((O.trans E).trans' K (fun x Z e=>by have e:x=W.heap.size+1:=e;omega))⟩
def jBE(q u:vB):List vV:=jcd 1 q u ⟨#[]⟩
theorem jx1(w0:vW)(z g:Nat)(v:vV)(Tx:vM)(W:vW)(hE:Ext w0 W)(q u:vB)(b:Nat)(hB:Blk w0 b (.cells #[.string q,.string u] 231))(h:WrAt z g v Tx W):vQ 236 #[.pointer (some ⟨b,0,none⟩),.pointer (some ⟨g,0,none⟩)] W (FoP z g v W (jad.V ⟨1,q,u,jam 16⟩) Tx):=by
 have H:=Hd h;have Q0:=Hd (jaa (hB.cell (i:=0) (v:=.string q) vF) hE);have Q1:=Hd (jaa (hB.cell (i:=1) (v:=.string u) vF) hE);have a0:=hB.lt;have J:=Hd (show ¬ b=W.heap.size by have:=hE.size;omega);clear h hB hE a0;unfold vQ;go_in;go_wp2_with (refine jaj Tryz.allocNode rfl rfl ?_;intro W4 O Q)
 have a1:=Hd O;have A:=Hd Q;clear O Q;refine vS ?_;refine jaC [0,1,2,3,4,5,6,7,8,9] [9] Ext (jaf (fun z=>z=W.heap.size)) ExtR ExtT (fun x y z h k=>jaf.trans h k) (fun x y h=>h.mono (fun _ _ h=>h.elim)) vY vY vY ?_
 refine vD ?_
 refine qDV _ ((.pointer (some ⟨b,0,none⟩))) rfl (fun w1 _=>by kernel_rfl) ?_;refine vS ?_
 refine vD ?_
 refine qDL ⟨b,0,none⟩ _ rfl (fun w1 h1=>jaD (fun w=>by kernel_rfl) (jar (jaa Q0.o A.o) (((jaf.refl (fun z=>z=W.heap.size) W4).drew).trans h1) (by exact J.o))) ?_;refine vS ?_
 refine vD ?_
 refine qDV _ ((.pointer (some ⟨b,0,none⟩))) rfl (fun w1 _=>by kernel_rfl) ?_;refine vS ?_
 refine vD ?_
 refine qDL ⟨b,1,none⟩ _ rfl (fun w1 h1=>jaD (fun w=>by kernel_rfl) (jar (jaa Q1.o A.o) (((jaf.refl (fun z=>z=W.heap.size) W4).drew).trans h1) (by exact J.o))) ?_;refine vS ?_
 refine vD ?_
 refine qDH _ rfl (fun w5 X K hK=>?_);have hX:=(jah W4).trans X;refine jjj (vs:=jBE q u) rfl rfl rfl (a1.o.keeps hX (fun h=>h)) rfl Tryz.szNode (jce _ _ _ _) ?_;intro W6 Z E;have H6:=Hd (bB Z ((A.o.trans hX).trans' E (fun x hx e=>by have e:x=W.heap.size:=e;omega)));refine vS ?_;refine hK _ _ E ?_;clear hK K X hX Z E;refine qDE (fun w7 X=>?_);have a2:=H6.o.1.keeps X (fun h=>h);have a3:=H6.o.2.trans X;go_wp2_with fail
 refine bodyPost_ret (jbJ rfl rfl (jau w7 _ ⟨1,q,u,jam 16⟩ rfl a2)) rfl ?_
 exact⟨rfl,v,WrTo.refl H.o a3⟩
theorem jur(P:PA)(hn:P.isNil=false)(hp:PutP P)(hF:jy6 P):TopC P:=by
 intro w0 W T x D g v Tx H J K O Q hl;have hf:=hF w0 W T x D g v Tx H J K O Q hl;have hm:=K.at'.meth.form;have hm:∀ w,(Go.method (420+1) T x "guilloche/trie.form").run Tryz.prog w=.ok (jmv P,x) w:=hm;have a2:=jqu P;have z:=hp.node hn;rw[jm3 hn];have HN:Hid (∀ w,Ext w0 w->vQ 52 #[(nodeP P).V] w fun e w'=>(∃ k:Int,e=.returned (.tuple #[.string (putN (nodeP P)),.int .i64 k]))/\Ext w w'):=fun w e=>z.call w (H.ext e) (J.ext e);have X:=Hd hf;have HW:=Hd (bB Q O)
 obtain⟨U,hU⟩:=vE (Tx++underP P)
 rw[<-hU]at X ⊢
 obtain⟨n,A⟩:=vE (nodeP P)
 rw[<-A]at X HN ⊢;clear hf H J K O Q hl z hn hp hF hU A;go_enter Tryz.func75,Tryz.ntmps75;go_wp2_with fail
 refine X.o.mono ?_;rintro e w1 ⟨rfl,v1,Z⟩;have HT:=Hd Z;have a0:=Hd (Z.ext0 HW.o.1 HW.o.2 (bL _));clear Z;go_wp2_with fail
 refine (HN.o w1 a0.o).mono ?_;rintro e w2 ⟨⟨k,rfl⟩,E⟩;have a1:=Hd E;clear E;go_wp2_with fail
 go_ret
 exact⟨rfl,v1,HT.o.ext a1.o⟩
end
section
open Go Go.RowKit
end
section
open Go Go.RowKit
attribute [local go_sem] Oper.semAt_some
end
section
open Go Go.RowKit
end
section
open Go Go.RowKit
attribute [local go_sem] Oper.semAt_some
end
section
open Go Go.RowKit
end
section
open Go Go.RowKit
attribute [local go_sem] Oper.semAt_some
theorem jxQ{y h:vB}(A:jkB y=some h):je7 y:=by
 unfold jkB at A;cases z:cutN y with
 | none=>rw[z]at A;cases A
 | some r =>
  rw[z]at A;have A:jfc y r=some h:=A;unfold jfc at A;rw[Option.filter_eq_some_iff]at A
  obtain⟨E,H⟩:=A
  have H:h.size=32:=by simpa using H
  unfold jfk at E
  by_cases hr:r.1=false/\r.2.1+r.2.2=y.size
  case neg=>rw[if_neg hr]at E;cases E
  rw[if_pos hr]at E;have E:=bS E
  obtain⟨b,o,n⟩:=r
  obtain⟨hb,J⟩:=hr
  have hb:b=false:=hb;have J:o+n=y.size:=J;subst hb
  refine⟨h,H,?_⟩
  have Q:n=32:=by
   have e:=congrArg ByteArray.size E;rw[cL]at e;simp only at e;omega
  obtain⟨⟨l⟩⟩:=y
  cases l with
  | nil=>exact absurd (jkv z).1 vI
  | cons a t =>
   have z:cutN ⟨(a :: t).toArray⟩=some (false,o,n):=z;rw[jgA]at z
   obtain⟨m,K⟩:=vE (if a.toNat < 192 then a.toNat - 128 else a.toNat - 192)
   rw[<-K]at z
   by_cases h4:a.toNat < 128
   ·rw[if_pos h4]at z
    have:=(Prod.mk.inj (Prod.mk.inj (bS z)).2).2;omega
   rw[if_neg h4]at z
   by_cases h5:m<=55
   ·rw[if_pos h5]at z
    split at z
    ·have O:=(Prod.mk.inj (bS z)).1
     have X:=(Prod.mk.inj (Prod.mk.inj (bS z)).2).1;have Z:=(Prod.mk.inj (Prod.mk.inj (bS z)).2).2;have O:¬ 192<=a.toNat:=of_decide_eq_false O;rw[if_pos vO]at K;have ha:a=160:=dP.1 (by show a.toNat=160;omega);have ht:h=⟨t.toArray⟩:=by
      rw[<-E, <-X,Q];apply ByteArray.ext;apply Array.ext';have a0:o+n=t.length+1:=J;rw[dA,fL,dU];show ((a :: t).drop 1).take (1+32 - 1)=t;rw[iN,List.drop_zero,bN vO]
     unfold jan;rw[if_neg vO,H,ht,ha];apply ByteArray.ext;apply Array.ext';rw[cY,fW];rfl
    ·cases z
   ·rw[if_neg h5]at z
    split at z
    ·rename_i n' hl
     split at z
     ·have Z:=(Prod.mk.inj (Prod.mk.inj (bS z)).2).2
      have:=(jdi hl).2.2.2.1
      omega
     ·cases z
    ·cases z
def GetE(s:vB):Prop:=∀ w,ErrT w->vQ 90 #[.string s] w (jy8 w)
theorem WrAt.push{z g:Nat}{v v':vV}{Tx New:vM}{W w6:vW}(h:WrAt z g v Tx W){n:Nat}(hn:n=(Tx++New).length)(r1:w6.ownsRow 0 9 1 v' n ((Tx++New).map Value.string))(r2:jaf (fun b=>v.ownBlock=some b) W w6)(r3:v'.ownBlock=v.ownBlock\/∀ b,v'.ownBlock=some b->W.heap.size<=b)(hz:z<=W.heap.size)(h0:New≠[]) :
  WrTo z g v W (w6.setCell ⟨g,0,none⟩ v') v' (Tx++New):=by
 subst hn;have E:=h.var.keeps r2 (fun e=>(h.own g e).2.1 rfl);have H:=jaf.oneSet w6 ⟨g,0,none⟩ v';have J:=h.var.lt;have o:∀ b,v'.ownBlock=some b->v.ownBlock=some b\/W.heap.size<=b:=fun b hb=>by
  rcases r3 with r3 | r3
  ·exact .inl (r3 ▸ hb)
  ·exact .inr (r3 b hb)
 have A:∀ b,v'.ownBlock=some b->b≠g:=fun b hb=>by
  rcases o b hb with e | e
  ·exact (h.own b e).2.1
  ·omega
 refine⟨⟨h.lo,E.set_same (i:=0) _,jbc r1 H (fun b hb e=>A b hb e),fun b hb=>⟨?_,A b hb,bQ (jAq r1 hb) H.size⟩,fun e=>?_⟩,?_,o⟩
 ·rcases o b hb with e | e
  ·exact (h.own b e).1
  ·omega
 ·exact absurd (List.append_eq_nil_iff.1 e).2 h0
 ·exact ((r2.mono (fun x _ e=>.inr e):jaf (fun b=>b=g\/v.ownBlock=some b) W w6)).trans' H (fun x K e=>.inl e)
theorem WrAt.sameTo{z g:Nat}{v:vV}{Tx:vM}{W:vW}(h:WrAt z g v Tx W):WrTo z g v W (W.setCell ⟨g,0,none⟩ v) v Tx:=by
 have K:=jaf.oneSet W ⟨g,0,none⟩ v;have o:=h.var.set_same (i:=0) v
 exact⟨⟨h.lo,o,jbc h.row K (fun b hb e=>(h.own b hb).2.1 e),fun b hb=>⟨(h.own b hb).1,(h.own b hb).2.1,bQ (h.own b hb).2.2 K.size⟩,h.nil⟩,K.mono (fun x _ e=>.inl e),fun b hb=>.inl hb⟩
theorem WrAt.same{z g:Nat}{v:vV}{Tx:vM}{W:vW}(h:WrAt z g v Tx W):WrAt z g v Tx (W.setCell ⟨g,0,none⟩ v):=h.sameTo.at'
theorem jnW{W:vW}{T:TypeId}{sz:Nat}{a:Option Addr}{n c:Nat}{xs:List vV}(h:W.ownsRow 0 T sz (.slice a n c) n xs)(h0:n≠0):∃ b,a=some ⟨b,0,none⟩:=by
 obtain⟨_,⟨o,e⟩ |⟨g,z,A,e,_⟩⟩:=h
 ·injection o with _ o _
  exact absurd o h0
 ·injection e with e _ _
  exact⟨g,e⟩
theorem jev{W:vW}{T:TypeId}{b n c:Nat}{xs:List vV}(h:W.ownsRow 0 T 1 (.slice (some ⟨b,0,none⟩) n c) n xs){j:Nat}{u:vV}(hj:xs[j]?=some u):W.cell? ⟨b,j,none⟩=some u:=by
 have e:=(bP.1 hj).1;have o:=h.1;rw[h.cellAt j vO,hj]
theorem jvq(t:vB)(h:¬ t.size < 32):jkB (refB t)=some (shaB t):=by
 rw[jnM];unfold refB;rw[if_neg h];exact jeq (jbk _)
theorem jnN(t:vB)(h:t.size < 32):jkB (refB t)=none:=by
 unfold refB;rw[if_pos h];cases e:jkB t with
 | none=>rfl
 | some x =>
  have:=(jxQ (y:=t) (h:=x) e).size
  omega
theorem jtF(t:vB):(refB t).size<=33:=by
 unfold refB;split
 ·omega
 ·exact Nat.le_of_eq (je7.size ⟨_,jbk t,rfl⟩)
theorem jtl{W:vW}{T:TypeId}{sz:Nat}{a:Option Addr}{n c:Nat}{xs:List vV}(h:W.ownsRow 0 T sz (.slice a n c) n xs):n<=c:=by
 obtain⟨_,⟨A,e⟩ |⟨g,o,z,e,E,H,J,K⟩⟩:=h
 ·omega
 ·injection e with _ _ e
  omega
theorem jrd(P:PA)(hT:TopC P)(hz:(textP P).size < 32)(w0 W:vW)(T:TypeId)(x:vV)(D:Nat->Prop)(g:Nat)(v:vV)(Tx:vM)(hc:jbY w0)(J:ErrT w0)(hP:PaO P (.iface T x) D w0)(hE:Ext w0 W)(hW:WrAt w0.heap.size g v Tx W)(hl:Tx.length+cntP P<=100000) :
  vQ 222 #[.pointer (some ⟨g,0,none⟩),.iface T x] W (FoP w0.heap.size g v W (.string (refB (textP P))) (Tx++underP P)):=by
 obtain⟨W1,b1⟩:=vE (W.alloc (.cells #[.slice none 0 0] 139))
 have b4:Ext W W1:=by rw[b1];exact (ExtR W).alloc _
 have b5:WrAt w0.heap.size W.heap.size (.slice none 0 0) [] W1:=⟨hE.size,by rw[b1];exact Blk.new W _,gA _ _ _ _,fun b hb=>(by cases hb),fun _=>rfl⟩;have a0:=hT w0 W1 T x D W.heap.size (.slice none 0 0) [] hc J hP (hE.trans b4) b5 (by have:([]:vM).length=0:=rfl;omega);rw[cP]at a0;have a8:=Hd a0;clear a0;have c3:=Hd b1;have d7:=c3;have HG:=Hd hW;have O:=Hd (bB b5 (bB b4 hE));have d8:=hc;have a9:=Hd (fun w (e:Ext w0 w)=>jyo w (textP P) (hc.ext e));have a3:=Hd (fun w=>jh2 w (refB (textP P)) (by have:=jtF (textP P);omega));rw[jnN _ hz]at a3;have c4:Tx.length+(underP P).length<=100000:=by
  cases hn:P.isNil with
  | true=>rw[jbE hn];show Tx.length+0<=_;omega
  | false=>have:=jeC P hn;omega
 have c5:=Hd c4
 obtain⟨U,hU⟩:=vE (underP P)
 obtain⟨t,ht⟩:=vE (textP P)
 rw[<-ht, <-hU]at a8;rw[<-ht]at a9 a3 ⊢;rw[<-hU]at c5 ⊢;clear hT hz hc J hP hE hW hl b4 b5 c4 hU ht b1 d7 d8;go_enter Tryz.func222,Tryz.ntmps222;go_wp2_with fail
 rw[<-c3.o];refine a8.o.mono ?_;rintro e w2 ⟨rfl,v2,Q⟩;have b6:g≠W.heap.size:=by have:=HG.o.var.lt;omega
 have b0:=Q.ext0 O.o.1 (O.o.2.2.trans O.o.2.1) (bL _);have c6:WrAt w0.heap.size g v Tx w2:=(HG.o.ext O.o.2.1).off Q.kp (fun e=>e.elim b6 (fun e=>by cases e)) (fun b hb e=>e.elim (fun e=>by have:=(HG.o.own b hb).2.2;omega) (fun e=>by cases e));have c7:Ext W w2:=O.o.2.1.trans' Q.kp (fun x hx e=>e.elim (fun e=>by omega) (fun e=>by cases e));have e5:Hid (∀ b,v2.ownBlock=some b->W.heap.size<=b):=(fun b hb=>(Q.sub b hb).elim (fun e=>by cases e) (fun e=>bK O.o.2.1.size e));have a5:=Hd (bB Q.at' (bB c6 (bB c7 b0)));clear Q c6 c7 b0
 obtain⟨h,hh⟩:=vE W.heap.size
 have e6:=Hd (bB b6 hh);rw[<-hh]at a5 ⊢;clear b6 hh;go_wp2_with fail
 refine vH (a9.o w2 a5.o.2.2.2) fun w3 d9=>?_;go_wp2_with fail
 refine vC (a3.o w3) fun w4 X=>?_;have X:=d9.o.trans X;have z:=Hd (bB (a5.o.1.ext X) (bB (a5.o.2.1.ext X) (a5.o.2.2.1.trans X)));clear X;unfold optV;go_wp2_with fail
 obtain⟨i0,c8,e0,e1,e2⟩:=info_parts Tryz.infoStr
 obtain⟨a1,c1,c9⟩:=jaU z.o.2.1.row
 obtain⟨Z,b3⟩:∃ n,n=List.length Tx:=⟨_,rfl⟩
 rw[<-b3]at c9;subst c9;have d0:=Hd b3;have d1:=Hd (show World.ownsRow w4 0 9 1 (.slice a1 Z c1) Z (List.map Value.string Tx) by have h9:=z.o.2.1.row;rw[<-b3]at h9;exact h9);have c0:=Hd (jtl d1.o);have QG:=Hd (z.o.2.1.var.cell (i:=0) (v:=.slice a1 Z c1) vF);clear b3
 by_cases hU0:U=[]
 ·have a6:=z.o.1.nil hU0
  subst a6;have QH:=Hd (z.o.1.var.cell (i:=0) (v:=.slice none 0 0) vF);have b7:=Hd hU0;clear hU0;refine jaz [0,1,2,3,4,5,6,7,8,9,10,11,12] [9,12] (Ext) ExtR ExtT vY vY vY ?_;iterate 2 refine vP ?_
  refine qA _ ((.pointer (some ⟨g,0,none⟩))) rfl (fun w1=>by kernel_rfl) ?_;refine vS ?_
  refine vP ?_
  refine qL ⟨g,0,none⟩ _ rfl (fun w1 h1=>jaD (fun w=>by kernel_rfl) (jaa QG.o ((jah _).trans h1))) ?_;refine vS ?_
  refine vP ?_
  refine qA _ ((.pointer (some ⟨h,0,none⟩))) rfl (fun w1=>by kernel_rfl) ?_;refine vS ?_
  refine vP ?_
  refine qL ⟨h,0,none⟩ _ rfl (fun w1 h1=>jaD (fun w=>by kernel_rfl) (jaa QH.o ((jah _).trans h1))) ?_;refine vS ?_;refine qH _ rfl (fun w5 J K hK=>?_);refine jcb (v:=.slice a1 Z c1) (w':=w5) (jdR (jcn (i:=i0) Tryz.uStrs c8 a1 Z c1 c0.o 0 w5) vY) (hK _ _ ?_);have d2:=Hd ((jah _).trans J);clear hK K J;refine vS ?_;refine qA _ ((.pointer (some ⟨g,0,none⟩))) rfl (fun w1=>by kernel_rfl) ?_;refine vS ?_
  refine vP ?_
  refine qH _ rfl (fun w8 E K hK=>?_);have A:=z.o.2.1.ext (d2.o.trans E);have q8:w8.cell? ⟨g,0,none⟩=some (.slice a1 Z c1):=A.var.cell (i:=0) vF;have f8:w8.frozen? ⟨g,0,none⟩=false:=A.var.frozen;have d3:WrAt w0.heap.size g (.slice a1 Z c1) Tx (w8.setCell ⟨g,0,none⟩ (.slice a1 Z c1)):=A.same;have H8:=Hd (bB d3 (bB (d2.o.trans E) A));clear A d3 E;go_simp;refine hK _ _ ?_;clear hK K q8 f8;refine qE (fun w7 J=>?_);have H9:=Hd (H8.o.1.ext J);have b8:=Hd J;clear J;go_wp2_with fail
  go_ret;rw[b7.o,bW]
  exact⟨rfl,_,(WrTo.refl HG.o (z.o.2.2.trans H8.o.2.1)).trans ((H8.o.2.2.sameTo).ext b8.o)⟩
 ·obtain⟨a2,c2,a6⟩:=jaU z.o.1.row
  have a7:=z.o.1.row
  obtain⟨n2,b9⟩:∃ n,n=List.length U:=⟨_,rfl⟩
  rw[<-b9]at a6 a7;rw[a6]at a7
  obtain⟨b2,rfl⟩:=jnW a7 (fun e=>hU0 (bD vO))
  subst a6;have e3:=Hd a7;have d4:=Hd b9.symm;have b7:=Hd hU0;have d5:=Hd (show Z+n2<=200000 by have:=c5.o;have:=d0.o;omega);have QH:=Hd (z.o.1.var.cell (i:=0) (v:=.slice (some ⟨b2,0,none⟩) n2 c2) vF);clear hU0 a7 b9;refine jaz [0,1,2,3,4,5,6,7,8,9,10,11,12] [9,12] (Ext) ExtR ExtT vY vY vY ?_;iterate 2 refine vP ?_
  refine qA _ ((.pointer (some ⟨g,0,none⟩))) rfl (fun w1=>by kernel_rfl) ?_;refine vS ?_
  refine vP ?_
  refine qL ⟨g,0,none⟩ _ rfl (fun w1 h1=>jaD (fun w=>by kernel_rfl) (jaa QG.o ((jah _).trans h1))) ?_;refine vS ?_
  refine vP ?_
  refine qA _ ((.pointer (some ⟨h,0,none⟩))) rfl (fun w1=>by kernel_rfl) ?_;refine vS ?_
  refine vP ?_
  refine qL ⟨h,0,none⟩ _ rfl (fun w1 h1=>jaD (fun w=>by kernel_rfl) (jaa QH.o ((jah _).trans h1))) ?_;refine vS ?_;refine qH _ rfl (fun w5 J K hK=>?_);have H:=(jah _).trans J;refine jdE w5 (.tmp 37) (.tmp 41) 28 rfl 9 i0 _ 1 16 Tryz.uStrs c8 e0 e1 e2 rfl vI (.slice a1 Z c1) Z _ rfl (jbo d1.o H) ⟨b2,0,none⟩ n2 c2 (U.map Value.string) rfl (by rw[cC,d4.o,jG]) (fun j u hj=>by rw[Addr.add_lit,cG];exact (jev (jbo e3.o H) hj)) (by intro u hu;obtain⟨y,_,rfl⟩:=bJ.1 hu;rfl) (by have:=d5.o;unfold maxLen;omega) (by have:=d5.o;omega) ?_;intro v' w6 r1 r2 r3;have HA:=Hd (bB H (bB r1 (bB r2 r3)))
  obtain⟨a',c',e4⟩:=jaU r1
  subst e4;refine hK _ _ ?_;clear hK K J H r1 r2 r3;refine vS ?_;refine qA _ ((.pointer (some ⟨g,0,none⟩))) rfl (fun w1=>by kernel_rfl) ?_;refine vS ?_
  refine vP ?_
  refine qH _ rfl (fun w8 E K hK=>?_)
  obtain⟨H,r1,r2,r3⟩:=HA.o
  have a4:=z.o.2.1.ext H;have d6:w0.heap.size<=w5.heap.size:=bK a4.lo (Nat.le_of_lt a4.var.lt);have hp:=a4.push (n:=Z+n2) (by rw[bC, <-d0.o,d4.o]) (by rw[cB];exact jbo r1 E) (r2.trans (E.mono (fun _ _ e=>e.elim))) r3 d6 b7.o;have A:=(a4.var.keeps r2 (fun e=>(a4.own g e).2.1 rfl)).keeps E (fun e=>e);have q8:w8.cell? ⟨g,0,none⟩=some (.slice a1 Z c1):=A.cell (i:=0) vF;have f8:w8.frozen? ⟨g,0,none⟩=false:=A.frozen;have H8:=Hd (bB hp H);clear H r1 r2 r3 a4 d6 hp A E;go_simp;refine hK _ _ ?_;clear hK K q8 f8;refine qE (fun w7 J=>?_);have b8:=Hd J;clear J;go_wp2_with fail
  go_ret
  exact⟨rfl,_,((WrTo.refl HG.o (z.o.2.2.trans H8.o.2)).trans H8.o.1).ext b8.o⟩
theorem jwD(P:PA)(hT:TopC P)(hz:¬(textP P).size < 32)(w0 W:vW)(T:TypeId)(x:vV)(D:Nat->Prop)(g:Nat)(v:vV)(Tx:vM)(hc:jbY w0)(J:ErrT w0)(hP:PaO P (.iface T x) D w0)(hE:Ext w0 W)(hW:WrAt w0.heap.size g v Tx W)(hl:Tx.length+cntP P<=100000) :
  vQ 222 #[.pointer (some ⟨g,0,none⟩),.iface T x] W (FoP w0.heap.size g v W (.string (refB (textP P))) (Tx++(textP P :: underP P))):=by
 obtain⟨W1,b8⟩:=vE (W.alloc (.cells #[.slice none 0 0] 139))
 have c7:Ext W W1:=by rw[b8];exact (ExtR W).alloc _
 have c8:WrAt w0.heap.size W.heap.size (.slice none 0 0) [] W1:=⟨hE.size,by rw[b8];exact Blk.new W _,gA _ _ _ _,fun b hb=>(by cases hb),fun _=>rfl⟩;have a3:=hT w0 W1 T x D W.heap.size (.slice none 0 0) [] hc J hP (hE.trans c7) c8 (by have:([]:vM).length=0:=rfl;omega);rw[cP]at a3;have b3:=Hd a3;clear a3;have d7:=Hd b8;have f5:=d7;have HG:=Hd hW;have O:=Hd (bB c8 (bB c7 hE));have f6:=hc;have b4:=Hd (fun w (e:Ext w0 w)=>jyo w (textP P) (hc.ext e));have a4:=Hd (fun w=>jh2 w (refB (textP P)) (by have:=jtF (textP P);omega));rw[jvq _ hz]at a4;have d8:Tx.length+(underP P).length<=100000:=by
  cases hn:P.isNil with
  | true=>rw[jbE hn];show Tx.length+0<=_;omega
  | false=>have:=jeC P hn;omega
 have c9:=Hd d8
 obtain⟨U,hU⟩:=vE (underP P)
 obtain⟨t,ht⟩:=vE (textP P)
 rw[<-ht, <-hU]at b3;rw[<-ht]at b4 a4 ⊢;rw[<-hU]at c9 ⊢;clear hT hz hc J hP hE hW hl c7 c8 d8 hU ht b8 f5 f6;go_enter Tryz.func222,Tryz.ntmps222;go_wp2_with fail
 rw[<-d7.o];refine b3.o.mono ?_;rintro e w2 ⟨rfl,v2,Q⟩;have d0:g≠W.heap.size:=by have:=HG.o.var.lt;omega
 have b5:=Q.ext0 O.o.1 (O.o.2.2.trans O.o.2.1) (bL _);have d9:WrAt w0.heap.size g v Tx w2:=(HG.o.ext O.o.2.1).off Q.kp (fun e=>e.elim d0 (fun e=>by cases e)) (fun b hb e=>e.elim (fun e=>by have:=(HG.o.own b hb).2.2;omega) (fun e=>by cases e));have e0:Ext W w2:=O.o.2.1.trans' Q.kp (fun x hx e=>e.elim (fun e=>by omega) (fun e=>by cases e));have d5:Hid (∀ b,v2.ownBlock=some b->W.heap.size<=b):=(fun b hb=>(Q.sub b hb).elim (fun e=>by cases e) (fun e=>bK O.o.2.1.size e));have a6:=Hd (bB Q.at' (bB d9 (bB e0 b5)));clear Q d9 e0 b5
 obtain⟨h,hh⟩:=vE W.heap.size
 have e1:=Hd (bB d0 hh);rw[<-hh]at a6 ⊢;clear d0 hh;go_wp2_with fail
 refine vH (b4.o w2 a6.o.2.2.2) fun w3 f7=>?_;go_wp2_with fail
 refine vC (a4.o w3) fun w4 X=>?_;have X:=f7.o.trans X;have z:=Hd (bB (a6.o.1.ext X) (bB (a6.o.2.1.ext X) (a6.o.2.2.1.trans X)));clear X;unfold optV
 obtain⟨i0,a7,b9,c3,c4⟩:=info_parts Tryz.infoStr
 have a8:=z.o.2.1
 obtain⟨a0,c0,f9⟩:=jaU a8.row
 have q4:=a8.var.cell (i:=0) (v:=v) vF;have e2:=Hd (show Tx.length<=100000 by have:=c9.o;omega);have g0:=Hd a8.row;have a9:=Hd a8;clear a8;subst f9;go_wp2_with (at_builtin;refine jcy _ rfl (.tmp 27) (.tmp 29) 28 rfl 9 i0 _ 1 16 Tryz.uStrs a7 b9 c3 c4 rfl vI (.slice a0 Tx.length c0) Tx.length _ rfl (jbo g0.o ((ExtR w4).alloc _)) ⟨w4.heap.size,0,none⟩ 1 1 [.string t] rfl rfl (jaI (Blk.new w4 _)) (by simp[Value.oneCell']) (by have:=e2.o;unfold maxLen;omega) (by have:=e2.o;omega) ?_;intro v' w6 r1 r2 r3;obtain⟨e3,e4,rfl⟩:=jaU r1;have g1:=a9.o.var.lt;have d1:=(a9.o.var.alloc (.cells #[.string t] 9)).keeps r2 (fun e=>(a9.o.own g e).2.1 rfl);have g2:w6.cell? ⟨g,0,none⟩=some (.slice a0 Tx.length c0):=d1.cell (i:=0) vF;have g3:w6.frozen? ⟨g,0,none⟩=false:=d1.frozen)
 obtain⟨wS,e5⟩:=vE (w6.setCell ⟨g,0,none⟩ (.slice e3 (Tx.length+1) e4))
 have b6:=a9.o.ext ((ExtR w4).alloc (.cells #[.string t] 9));have hp:=b6.push (n:=Tx.length+1) (New:=[t]) (by simp) (by rw[cB];exact r1) r2 r3 (by have:=a9.o.lo;rw[bR];omega) (by simp);rw[<-e5]at hp ⊢;have hp:=WrTo.ahead ((ExtR w4).alloc (.cells #[.string t] 9)) hp;have e6:=z.o.1.off hp.kp (fun e=>e.elim (fun e=>by have:=HG.o.var.lt;have:=e1.o.2;omega) (fun e=>by have:=(HG.o.own h e).2.2;have:=e1.o.2;omega)) (fun b hb e=>by
  have h1:=d5.o b hb;rcases e with e | e
  ·have:=HG.o.var.lt;omega
  ·have:=(HG.o.own b e).2.2;omega)
 have b7:WrTo w0.heap.size g (.slice a0 Tx.length c0) W wS (.slice e3 (Tx.length+1) e4) (Tx++[t]):=(WrTo.refl HG.o z.o.2.2).trans hp;have c5:∃ v1,WrAt w0.heap.size h v2 U wS/\WrAt w0.heap.size g v1 (Tx++[t]) wS/\WrTo w0.heap.size g (.slice a0 Tx.length c0) W wS v1 (Tx++[t]):=⟨_,e6,hp.at',b7⟩
 obtain⟨v1,c5⟩:=c5
 clear z hp b6 e5 e6 b7 g2 g3 d1 r1 r2 r3 g1 q4;have z:=Hd c5;clear c5 a7 b9 c3 c4
 obtain⟨i0,a7,b9,c3,c4⟩:=info_parts Tryz.infoStr
 obtain⟨a1,c1,e7⟩:=jaU z.o.2.1.row
 obtain⟨Z,c6⟩:∃ n,n=List.length (Tx++[t]):=⟨_,rfl⟩
 rw[<-c6]at e7;subst e7;have e8:=Hd c6;have e9:=Hd (show World.ownsRow wS 0 9 1 (.slice a1 Z c1) Z (List.map Value.string (Tx++[t])) by have h9:=z.o.2.1.row;rw[<-c6]at h9;exact h9);have d6:=Hd (jtl e9.o);have QG:=Hd (z.o.2.1.var.cell (i:=0) (v:=.slice a1 Z c1) vF);clear c6
 by_cases hU0:U=[]
 ·have b0:=z.o.1.nil hU0
  subst b0;have QH:=Hd (z.o.1.var.cell (i:=0) (v:=.slice none 0 0) vF);have d2:=Hd hU0;clear hU0;refine jaz [0,1,2,3,4,5,6,7,8,9,10,11,12] [9,12] (Ext) ExtR ExtT vY vY vY ?_;iterate 2 refine vP ?_
  refine qA _ ((.pointer (some ⟨g,0,none⟩))) rfl (fun w1=>by kernel_rfl) ?_;refine vS ?_
  refine vP ?_
  refine qL ⟨g,0,none⟩ _ rfl (fun w1 h1=>jaD (fun w=>by kernel_rfl) (jaa QG.o ((jah _).trans h1))) ?_;refine vS ?_
  refine vP ?_
  refine qA _ ((.pointer (some ⟨h,0,none⟩))) rfl (fun w1=>by kernel_rfl) ?_;refine vS ?_
  refine vP ?_
  refine qL ⟨h,0,none⟩ _ rfl (fun w1 h1=>jaD (fun w=>by kernel_rfl) (jaa QH.o ((jah _).trans h1))) ?_;refine vS ?_;refine qH _ rfl (fun w5 J K hK=>?_);refine jcb (v:=.slice a1 Z c1) (w':=w5) (jdR (jcn (i:=i0) Tryz.uStrs a7 a1 Z c1 d6.o 0 w5) vY) (hK _ _ ?_);have f0:=Hd ((jah _).trans J);clear hK K J;refine vS ?_;refine qA _ ((.pointer (some ⟨g,0,none⟩))) rfl (fun w1=>by kernel_rfl) ?_;refine vS ?_
  refine vP ?_
  refine qH _ rfl (fun w8 E K hK=>?_);have A:=z.o.2.1.ext (f0.o.trans E);have q8:w8.cell? ⟨g,0,none⟩=some (.slice a1 Z c1):=A.var.cell (i:=0) vF;have f8:w8.frozen? ⟨g,0,none⟩=false:=A.var.frozen;have f1:WrAt w0.heap.size g (.slice a1 Z c1) (Tx++[t]) (w8.setCell ⟨g,0,none⟩ (.slice a1 Z c1)):=A.same;have H8:=Hd (bB f1 (bB (f0.o.trans E) A));clear A f1 E;go_simp;refine hK _ _ ?_;clear hK K q8 f8;refine qE (fun w7 J=>?_);have H9:=Hd (H8.o.1.ext J);have d3:=Hd J;clear J;go_wp2_with fail
  go_ret;rw[d2.o]
  exact⟨rfl,_,(z.o.2.2.ext H8.o.2.1).trans ((H8.o.2.2.sameTo).ext d3.o)⟩
 ·obtain⟨a2,c2,b0⟩:=jaU z.o.1.row
  have b1:=z.o.1.row
  obtain⟨n2,d4⟩:∃ n,n=List.length U:=⟨_,rfl⟩
  rw[<-d4]at b0 b1;rw[b0]at b1
  obtain⟨b2,rfl⟩:=jnW b1 (fun e=>hU0 (bD vO))
  subst b0;have g4:=Hd b1;have f2:=Hd d4.symm;have d2:=Hd hU0;have f3:=Hd (show Z+n2<=200000 by have:=c9.o;have h9:=e8.o;rw[bC,jE]at h9;omega);have QH:=Hd (z.o.1.var.cell (i:=0) (v:=.slice (some ⟨b2,0,none⟩) n2 c2) vF);clear hU0 b1 d4;refine jaz [0,1,2,3,4,5,6,7,8,9,10,11,12] [9,12] (Ext) ExtR ExtT vY vY vY ?_;iterate 2 refine vP ?_
  refine qA _ ((.pointer (some ⟨g,0,none⟩))) rfl (fun w1=>by kernel_rfl) ?_;refine vS ?_
  refine vP ?_
  refine qL ⟨g,0,none⟩ _ rfl (fun w1 h1=>jaD (fun w=>by kernel_rfl) (jaa QG.o ((jah _).trans h1))) ?_;refine vS ?_
  refine vP ?_
  refine qA _ ((.pointer (some ⟨h,0,none⟩))) rfl (fun w1=>by kernel_rfl) ?_;refine vS ?_
  refine vP ?_
  refine qL ⟨h,0,none⟩ _ rfl (fun w1 h1=>jaD (fun w=>by kernel_rfl) (jaa QH.o ((jah _).trans h1))) ?_;refine vS ?_;refine qH _ rfl (fun w5 J K hK=>?_);have H:=(jah _).trans J;refine jdE w5 (.tmp 37) (.tmp 41) 28 rfl 9 i0 _ 1 16 Tryz.uStrs a7 b9 c3 c4 rfl vI (.slice a1 Z c1) Z _ rfl (jbo e9.o H) ⟨b2,0,none⟩ n2 c2 (U.map Value.string) rfl (by rw[cC,f2.o,jG]) (fun j u hj=>by rw[Addr.add_lit,cG];exact (jev (jbo g4.o H) hj)) (by intro u hu;obtain⟨y,_,rfl⟩:=bJ.1 hu;rfl) (by have:=f3.o;unfold maxLen;omega) (by have:=f3.o;omega) ?_;intro v' w6 r1 r2 r3;have HA:=Hd (bB H (bB r1 (bB r2 r3)))
  obtain⟨a',c',g5⟩:=jaU r1
  subst g5;refine hK _ _ ?_;clear hK K J H r1 r2 r3;refine vS ?_;refine qA _ ((.pointer (some ⟨g,0,none⟩))) rfl (fun w1=>by kernel_rfl) ?_;refine vS ?_
  refine vP ?_
  refine qH _ rfl (fun w8 E K hK=>?_)
  obtain⟨H,r1,r2,r3⟩:=HA.o
  have a5:=z.o.2.1.ext H;have f4:w0.heap.size<=w5.heap.size:=bK a5.lo (Nat.le_of_lt a5.var.lt);have hp:=a5.push (n:=Z+n2) (by rw[bC, <-e8.o,f2.o]) (by rw[cB];exact jbo r1 E) (r2.trans (E.mono (fun _ _ e=>e.elim))) r3 f4 d2.o;have A:=(a5.var.keeps r2 (fun e=>(a5.own g e).2.1 rfl)).keeps E (fun e=>e);have q8:w8.cell? ⟨g,0,none⟩=some (.slice a1 Z c1):=A.cell (i:=0) vF;have f8:w8.frozen? ⟨g,0,none⟩=false:=A.frozen;have H8:=Hd (bB hp H);clear H r1 r2 r3 a5 f4 hp A E;go_simp;refine hK _ _ ?_;clear hK K q8 f8;refine qE (fun w7 J=>?_);have d3:=Hd J;clear J;go_wp2_with fail
  go_ret;rw[show Tx++t :: U=Tx++[t]++U by rw[cD];rfl]
  exact⟨rfl,_,((z.o.2.2.ext H8.o.2).trans H8.o.1).ext d3.o⟩
theorem jw5(P:PA)(hT:TopC P):jxl P:=by
 intro e W T x D g v o z A E H J K;unfold bigs
 by_cases hz:(textP P).size < 32
 ·rw[if_pos hz]
  exact jrd P hT hz e W T x D g v o z A E H J K
 ·rw[if_neg hz]
  exact jwD P hT hz e W T x D g v o z A E H J K
theorem jnx(k:Int)(p v r r':vB):(jcd k p v r).toArray.setIfInBounds 3 (.string r')=(jcd k p v r').toArray:=by simp[jcd]
theorem jxG(w0 W:vW)(q:vB)(n:PA)(T:TypeId)(x:vV)(Dn:Nat->Prop)(b:Nat)(hB:Blk w0 b (.cells #[.string q,.iface T x] 234))(hv:PaO n (.iface T x) Dn w0)(hR:jxl n)(g:Nat)(v:vV)(Tx:vM)(hc:jbY w0)(he:ErrT w0)(hE:Ext w0 W)(hW:WrAt w0.heap.size g v Tx W)(hl:Tx.length+cntP n<=100000) :
  vQ 242 #[.pointer (some ⟨b,0,none⟩),.pointer (some ⟨g,0,none⟩)] W (FoP w0.heap.size g v W (jad.V ⟨2,q,⟨#[]⟩,refB (textP n) :: jam 15⟩) (Tx++(bigs (textP n)++underP n))):=by
 have Q0:=Hd (hB.cell (i:=0) (v:=.string q) vF);have Q1:=Hd (hB.cell (i:=1) (v:=.iface T x) vF);have X:=Hd (bB hW hE);have Z:=Hd (fun w (e:Ext w0 w) (k:WrAt w0.heap.size g v Tx w)=>hR w0 w T x Dn g v Tx hc he hv e k hl)
 obtain⟨t,ht⟩:=vE (refB (textP n))
 obtain⟨U,hU⟩:=vE (Tx++(bigs (textP n)++underP n))
 rw[<-ht, <-hU]at Z;rw[<-ht, <-hU];clear hB hv hR hc he hE hW hl ht hU;have c4:∀ w,(Instr.build 94 #[(0,.int .i64 2),(1,.string q)]).run Tryz.prog w=.ok (.agg (jcd 2 q ⟨#[]⟩ ⟨#[]⟩).toArray) w:=fun w=>by kernel_rfl
 go_enter Tryz.func242,Tryz.ntmps242;go_wp2_with (first |(refine jaj (w:=W) Tryz.allocNode rfl rfl ?_;intro A b1 a3;have b2:=Hd b1;have b3:=Hd a3;have q0:=jaa Q0.o (X.o.2.trans a3);clear b1 a3) |(refine jaj (w:=A) Tryz.allocNode rfl rfl ?_;intro W2 b4 a4) |(refine jai (vs:=jcd 2 q ⟨#[]⟩ ⟨#[]⟩) rfl rfl rfl rfl b4 rfl Tryz.szNode (jce _ _ _ _) ?_;intro W3 a5 a6;have q1:=jaa (jaa Q1.o (X.o.2.trans b3.o)) (a4.trans' a6 (fun x hx e=>by have e:x=A.heap.size:=e;omega))))
 have H:Ext A W3:=a4.trans' a6 (fun x hx e=>by have e:x=A.heap.size:=e;omega);have J:=Hd (bB a5 (bB (b2.o.keeps H (fun e=>e)) (b3.o.trans H)));have b5:=b2.o.lt;have HN:=Hd (show W.heap.size < A.heap.size/\A.heap.size < W3.heap.size from⟨b5,a5.lt⟩);clear b4 a4 a5 a6 H b5;refine (Z.o W3 (X.o.2.trans J.o.2.2) (X.o.1.ext J.o.2.2)).mono ?_;rintro e w4 ⟨rfl,v4,E⟩;have b9:=X.o.1.var.lt;have a7:A.heap.size≠g:=by have:=HN.o.1;omega
 have a8:v.ownBlock≠some A.heap.size:=fun e=>by have:=(X.o.1.own _ e).2.2;have:=HN.o.1;omega
 have K:=E.blk J.o.1 a7 a8;have a0:=E.blk J.o.2.1 vO (fun e=>by have:=(X.o.1.own _ e).2.2;omega);have qf:w4.cell? ⟨A.heap.size,3,none⟩=some (.string ⟨#[]⟩):=K.cellL (i:=3) vF;have ff:w4.frozen? ⟨A.heap.size,3,none⟩=false:=K.frozen
 obtain⟨W5,O⟩:=vE (w4.setCell ⟨A.heap.size,3,none⟩ (.string t))
 have c0:Blk W5 A.heap.size (.cells (jcd 2 q ⟨#[]⟩ t).toArray 94):=by
  have:=K.set_same (i:=3) (.string t)
  rw[jnx]at this;rw[O];exact this
 have a9:jaf (fun z=>z=A.heap.size) w4 W5:=by rw[O];exact jaf.oneSet w4 ⟨A.heap.size,3,none⟩ (.string t)
 have a1:Blk W5 W.heap.size (.cells jaG.cells.toArray 94):=a0.keeps a9 (fun e=>by have:=HN.o.1;have e:W.heap.size=A.heap.size:=e;omega);have b6:v4.ownBlock≠some A.heap.size:=fun e=>by
  rcases E.sub _ e with e | e
  ·exact a8 e
  ·have:=HN.o.2;omega
 have b7:=(WrTo.ahead J.o.2.2 E).fill a9 a7 b6 (by have:=HN.o.1;omega);have a2:v4.ownBlock≠some W.heap.size:=fun e=>by
  rcases E.sub _ e with e | e
  ·have:=(X.o.1.own _ e).2.2;omega
  ·have:=HN.o.1;have:=HN.o.2;omega
 have Q:=Hd (bB b7 (bB a1 (bB a2 (show W.heap.size≠g by omega))));have b0:=Hd O;clear E b9 a7 a8 K a0 a9 b6 b7 a2 O a1 q0 q1;have c1:Blk (w4.setCell ⟨A.heap.size,3,none⟩ (.string t)) A.heap.size (.cells (jad.cells ⟨2,q,⟨#[]⟩,t :: jam 15⟩).toArray 94):=by rw[<-b0.o];exact c0
 have c2:Blk (w4.setCell ⟨A.heap.size,3,none⟩ (.string t)) W.heap.size (.cells jaG.cells.toArray 94):=by rw[<-b0.o];exact Q.o.2.1
 go_wp2_with (refine jae 94 (.tmp 5) rfl rfl _ _ rfl (jao _ _ ⟨2,q,⟨#[]⟩,t :: jam 15⟩ rfl c1) ?_;refine jai (vs:=jad.cells ⟨2,q,⟨#[]⟩,t :: jam 15⟩) rfl rfl rfl rfl c2 rfl Tryz.szNode (jad.one _) ?_;intro W8 c3 b8)
 rw[<-b0.o]at b8;refine bodyPost_ret (jbJ rfl rfl (jau W8 _ ⟨2,q,⟨#[]⟩,t :: jam 15⟩ rfl c3)) rfl ?_
 exact⟨rfl,v4,Q.o.1.fill b8 Q.o.2.2.2 Q.o.2.2.1 (bL _)⟩
def bfN(u:vB)(rs:vM)(k:Nat):jad:=⟨3,⟨#[]⟩,u,rs.take k++jam (16 - k)⟩
theorem jxr(u:vB){rs:vM}(h:rs.length=16){k:Nat}(hk:k < 16)(r:vB)(hr:rs[k]?=some r):(bfN u rs k).cells.set (3+k) (.string r)=(bfN u rs (k+1)).cells:=by
 have e:(rs.take k++jam (16 - k)).set k r=rs.take (k+1)++jam (16 - (k+1)):=by
  rw[fJ _ _ (by simp[h];omega)]
  have:k - (rs.take k).length=0:=by simp[h];omega
  rw[this,show 16 - k=(16 - (k+1))+1 by omega];unfold jam;rw[fH,dM,bY,hr];simp
 unfold jad.cells bfN;simp only;rw[show 3+k=k+1+1+1 by omega,dF,dF,dF, <-e,iA]
theorem juN(u:vB){rs:vM}(h:rs.length=16){k:Nat}(hk:k < 16)(hr:rs[k]?=some ⟨#[]⟩):bfN u rs (k+1)=bfN u rs k:=by
 unfold bfN;rw[bY,hr,show 16 - k=(16 - (k+1))+1 by omega];unfold jam;rw[fH];simp
theorem jxq(u:vB){rs:vM}(h:rs.length=16){k:Nat}(hk:k<=16):(bfN u rs k).refs.length=16:=by
 unfold bfN jam;simp[h];omega
theorem jBn(u:vB)(rs:vM):(bfN u rs 0).cells=jcd 3 ⟨#[]⟩ u ⟨#[]⟩:=rfl
theorem jzH(u:vB){rs:vM}(h:rs.length=16):bfN u rs 16=⟨3,⟨#[]⟩,u,rs⟩:=by
 unfold bfN jam;rw[bN vO];simp
noncomputable def underK(ks:Nat->PA)(k:Nat):vM:=(List.range k).flatMap fun i=>if (ks i).isNil then []else bigs (textP (ks i))++underP (ks i)
theorem jol(ks:Nat->PA)(k:Nat):underK ks (k+1)=underK ks k++(if (ks k).isNil then []else bigs (textP (ks k))++underP (ks k)):=by
 unfold underK;rw[fS,dR]
 simp
theorem jra(ks:Nat->PA)(k:Nat):(underK ks k).length<=sumF (fun i=>cntP (ks i)) k:=jgE _ _ (fun i=>by
 show (if (ks i).isNil=true then ([]:vM)else bigs (textP (ks i))++underP (ks i)).length<=cntP (ks i);cases hn:(ks i).isNil with
 | true=>rw[if_pos rfl];exact cE _
 | false =>
  rw[if_neg ff,bC];have e:=jkn (textP (ks i))
  have:=jeC (ks i) hn
  omega) k
noncomputable def refsK(ks:Nat->PA):vM:=(List.range 16).map fun i=>if (ks i).isNil then ⟨#[]⟩else refB (textP (ks i))
theorem jdp(ks:Nat->PA):(refsK ks).length=16:=by unfold refsK;simp
theorem jv9(ks:Nat->PA){k:Nat}(hk:k < 16):(refsK ks)[k]?=some (if (ks k).isNil then ⟨#[]⟩else refB (textP (ks k))):=by
 unfold refsK;rw[cA,fA hk];rfl
def jAU(z g:Nat)(v:vV)(W:vW)(L:Nat)(u:vB)(rs:vM)(Tx:vM)(ks:Nat->PA)(iv:vV)(wr:vW):Prop:=
 ∃ k:Nat,k<=16/\iv=.int .i64 k/\∃ v',WrTo z g v W wr v' (Tx++underK ks k)/\Blk wr L (.cells (bfN u rs k).cells.toArray 94)/\Blk wr W.heap.size (.cells jaG.cells.toArray 94)/\v'.ownBlock≠some L/\v'.ownBlock≠some W.heap.size
theorem jxs(w0 W:vW)(u:vB)(ks:Nat->PA)(b:Nat)(vk:Nat->vV)(Dk:Nat->Nat->Prop)(hb:BrRd u ks b vk Dk w0)(hR:∀ i,i < 16->(ks i).isNil=false->jxl (ks i))(g:Nat)(v:vV)(Tx:vM)(hc:jbY w0)(he:ErrT w0)(hE:Ext w0 W)(hW:WrAt w0.heap.size g v Tx W)(hl:Tx.length+(1+sumF (fun i=>cntP (ks i)) 16)<=100000) :
  vQ 249 #[.pointer (some ⟨b,0,none⟩),.pointer (some ⟨g,0,none⟩)] W (FoP w0.heap.size g v W (jad.V ⟨3,⟨#[]⟩,u,refsK ks⟩) (Tx++underK ks 16)):=by
 have q0:=jaa (hb.blk.cellL (i:=0) (v:=.string u) vF) hE;have HB:=Hd hb;have HW:=Hd (bB hW hE);have b0:=Hd (fun(k:Nat) (hk:k < 16) (hn:(ks k).isNil=false) (T:TypeId) (x:vV) (hx:vk k=.iface T x) (w:vW) (v':vV) (e:Ext w0 w) (h:WrAt w0.heap.size g v' (Tx++underK ks k) w)=>hR k hk hn w0 w T x (Dk k) g v' (Tx++underK ks k) hc he (hx ▸ hb.kid k hk) e h (by
  have h1:=jra ks k;have h2:=jeA (fun i=>cntP (ks i)) (k+1) (15 - k);rw[show k+1+(15 - k)=16 by omega]at h2;have h3:sumF (fun i=>cntP (ks i)) k+cntP (ks k)<=sumF (fun i=>cntP (ks i)) 16:=h2;rw[bC];omega))
 have d3:=jkN;clear hR hc he hl;have d4:∀ w,(Instr.build 94 #[(0,.int .i64 3),(2,.string u)]).run Tryz.prog w=.ok (.agg (jcd 3 ⟨#[]⟩ u ⟨#[]⟩).toArray) w:=fun w=>by kernel_rfl
 clear hb hW hE;go_enter Tryz.func249,Tryz.ntmps249;go_wp2_with (first |(refine jaj (w:=W) Tryz.allocNode rfl rfl ?_;intro W1 b1 a2;have a3:=Hd b1;have a4:=Hd a2;have q1:=jaa q0 a2;clear b1 a2) |(refine jaj (w:=W1) Tryz.allocNode rfl rfl ?_;intro W2 b3 b4) |(refine jai (vs:=jcd 3 ⟨#[]⟩ u ⟨#[]⟩) rfl rfl rfl rfl b3 rfl Tryz.szNode (jce _ _ _ _) ?_;intro W3 a5 b5;have K:Ext W1 W3:=b4.trans' b5 (fun x hx e=>by have e:x=W1.heap.size:=e;omega);have b6:=jbi (HB.o.blk.keeps ((HW.o.2.trans a4.o).trans K) (fun e=>e))) |(refine jae 236 (.tmp 15) rfl rfl _ _ rfl b6 ?_))
 have X:=Hd (bB a5 (bB (a3.o.keeps K (fun e=>e)) (a4.o.trans K)));have A:=a3.o.lt;have HN:=Hd (show W.heap.size < W1.heap.size/\W1.heap.size < W3.heap.size from⟨A,a5.lt⟩);clear b3 b4 a5 b5 K A b6 q0 q1
 obtain⟨L,hL⟩:=vE W1.heap.size
 rw[<-hL]at X HN ⊢;clear hL a3 a4;have HG:=Hd HW.o.1.var.lt;go_loopw [17] (fun iv wr=>jAU w0.heap.size g v W L u (refsK ks) Tx ks iv wr) (fun iv _=>16 - (intOf iv).toNat)
 case atStart =>
  have:=HN.o
  have hg:=HG.o
  exact⟨0,by omega,rfl,v,by rw[show underK ks 0=[]from rfl,bW];exact WrTo.refl HW.o.1 X.o.2.2,by rw[jBn];exact X.o.1,X.o.2.1,fun e=>by have:=(HW.o.1.own _ e).2.2;omega,fun e=>by have:=(HW.o.1.own _ e).2.2;omega⟩
 case round =>
  obtain⟨k,hk,rfl,v1,hT,b7,b8,b9,c0⟩:=hrel
  have E:=Hd (bB hT (bB b7 (bB b8 (bB b9 c0))));clear hT b7 b8 b9 c0
  by_cases A:k < 16
  ·have c1:=jeW vk A
   have O:=jol ks k;have H:=jv9 ks A;rcases (HB.o.kid k A).at'.kid with⟨hn,hv⟩ |⟨hn,T,x,hv⟩
   ·rw[hn,if_pos rfl,bW]at O
    rw[hn,if_pos rfl]at H;rw[hv]at c1;have c6:=Hd O;have c7:=Hd (juN u (jdp ks) A H);clear O hn hv H;go_wp2;go_roundw
    case rel=>exact⟨k+1,by omega,by go_num,v1,by rw[c6.o];exact E.o.1,by rw[c7.o];exact E.o.2.1,E.o.2.2.1,E.o.2.2.2⟩
    case measure=>exact vJ
   ·rw[hn,if_neg ff]at O
    rw[hn,if_neg ff]at H;rw[hv]at c1;have hq:=jdA T x;have J:=Hd (b0.o k A hn T x hv wr v1 (E.o.1.ext0 HW.o.1 HW.o.2 (bL _)) E.o.1.at');rw[cD, <-O]at J
    obtain⟨r,hr⟩:=vE (refB (textP (ks k)))
    rw[<-hr]at H J;have c8:=Hd H;clear O hn hv H hr;have b2:(k:Int) < 16:=vO
    go_wp2_with fail
    refine J.o.mono ?_;rintro e w4 ⟨rfl,v4,Q⟩;have a6:L≠g:=by have:=HN.o.1;have:=HG.o;omega
    have c2:W.heap.size≠g:=by have:=HG.o;omega
    have Z:=Q.blk E.o.2.1 a6 E.o.2.2.2.1;have a0:=Q.blk E.o.2.2.1 c2 E.o.2.2.2.2;have a7:∀ y,y < wr.heap.size->v1.ownBlock≠some y->v4.ownBlock≠some y:=fun y hy h1 e=>by
     rcases Q.sub y e with e | e
     ·exact h1 e
     ·omega
    have a8:=a7 L E.o.2.1.lt E.o.2.2.2.1;have c3:=a7 W.heap.size E.o.2.2.1.lt E.o.2.2.2.2;have c9:(bfN u (refsK ks) k).cells.length=19:=jad.cells_len _ (jxq u (jdp ks) hk)
    obtain⟨old,qf⟩:∃ v,w4.cell? ⟨L,3+k,none⟩=some v:=⟨_,Z.cellL (bA vO)⟩
    have d5:w4.frozen? ⟨L,3+k,none⟩=false:=Z.frozen;have a9:=Z.set_same (i:=3+k) (.string r);rw[show (bfN u (refsK ks) k).cells.toArray.setIfInBounds (3+k) (.string r)=((bfN u (refsK ks) k).cells.set (3+k) (.string r)).toArray by simp,jxr u (jdp ks) A r c8.o]at a9;have K5:jaf (fun z=>z=L) w4 (w4.setCell ⟨L,3+k,none⟩ (.string r)):=jaf.oneSet w4 ⟨L,3+k,none⟩ (.string r);have a1:=a0.keeps K5 (fun e=>by have e:W.heap.size=L:=e;have:=HN.o.1;omega);have c4:=(E.o.1.trans Q).fill K5 a6 a8 (by have:=HN.o.1;omega);have H5:=Hd (bB c4 (bB a9 (bB a1 (bB a8 c3))));clear Q a6 c2 Z a0 a7 a8 c3 c9 a9 K5 a1 c4;go_wp2_with fail
    go_roundw
    case rel=>exact⟨k+1,by omega,by go_num,v4,H5.o⟩
    case measure=>exact vJ
  ·obtain rfl:k=16:=vO
   have c5:=E.o.2.1;rw[jzH u (jdp ks)]at c5;have d0:=E.o.2.2.1;go_wp2_with (refine jae 94 (.tmp 5) rfl rfl _ _ rfl (jao _ _ ⟨3,⟨#[]⟩,u,refsK ks⟩ (jdp ks) c5) ?_;refine jai (vs:=jad.cells ⟨3,⟨#[]⟩,u,refsK ks⟩) rfl rfl rfl rfl d0 (by rw[jad.cells_len _ (jdp ks)];rfl) (by rw[jad.cells_len _ (jdp ks)];exact Tryz.szNode) (jad.one _) ?_;intro W8 d1 d2)
   refine bodyPost_ret (jbJ rfl rfl (jau W8 _ ⟨3,⟨#[]⟩,u,refsK ks⟩ (jdp ks) d1)) rfl ?_
   exact⟨rfl,v1,E.o.1.fill d2 (by have:=HG.o;omega) E.o.2.2.2.2 (bL _)⟩
end
section
open Go Go.RowKit
theorem jkU:∀ (P:PA),PutP P->jy6 P
 | .nil=>fun _ A W T x D g v o K O h H E J=>by cases h.at'
 | .no=>fun _ A W T x D g v o K O h H E J=>by
  have e:Value.iface T x=noV:=h.at';unfold noV at e;injection e with e1 e2;subst e1 e2;show Calls _ _ _ W (FoP A.heap.size g v W jaG.V (o++[]));rw[bW];exact jvM _ g v o W E
 | .leaf q u=>fun _ A W T x D g v o K O h H E J=>by
  obtain⟨b,e,h1,Q⟩:=h.at'
  unfold jjo at e;injection e with e1 e2;subst e1 e2;show Calls _ _ _ W (FoP A.heap.size g v W (jad.V ⟨1,q,u,jam 16⟩) (o++[]));rw[bW];exact jx1 A _ g v o W H q u b Q E
 | .ext q m=>fun X A W T x D g v o K O h H E J=>by
  obtain⟨b,T',x',Dn,e,h1,Q,Z,h4,h5⟩:=h.at'
  unfold extV at e;injection e with e1 e2;subst e1 e2;have J:o.length+(1+cntP m)<=100000:=J;have hn:m.isNil=false:=by
   cases m with
   | nil=>cases Z
   | _=>rfl
  exact jxG A W q m T' x' Dn b Q ⟨Z,fun z hz=>h.lt z (h5 z hz)⟩ (jw5 m (jur m hn X.2 (jkU m X.2))) g v o K O H E vO
 | .br u ks=>fun X A W T x D g v o K O h H E J=>by
  obtain⟨b,vk,Dk,e,h1,Q,Z,h4⟩:=h.at'
  unfold brV at e;injection e with e1 e2;subst e1 e2;have hb:BrRd u ks b vk Dk A:=⟨Q,fun i hi=>⟨(Z i hi).1,fun z hz=>h.lt z ((Z i hi).2.2 z hz)⟩⟩;exact jxs A W u ks b vk Dk hb (fun i _ hn=>jw5 (ks i) (jur (ks i) hn (X.2 i) (jkU (ks i) (X.2 i)))) g v o K O H E J
theorem jmw:∀ (f:Nat) (l:vL),jas f l->PutP (ja4 (f+1) l):=by
 intro f;induction f with
 | zero =>
  intro l h;have H:=jbI h;have o:=(good 0 l h).1;have z:=(jfK 0 l h).1;rw[<-z]at o;have e:=jmE o
  by_cases h0:l.length=0
  ·rw[jbW _ h0]at e ⊢;exact e
  ·rw[jb0 _ vO]at e ⊢;exact e
 | succ f ih =>
  intro l h;have o:=(good (f+1) l h).1;have z:=(jfK (f+1) l h).1;rw[<-z]at o;have e:=jmE o
  by_cases h0:l.length=0
  ·rw[jbW _ h0]at e ⊢;exact e
  by_cases h1:l.length=1
  ·rw[jb0 _ h1]at e ⊢;exact e
  have A:2<=l.length:=vO
  by_cases hk:0 < comK l
  ·obtain⟨E,J,_,_⟩:=jef h A hk
   rw[jdB _ A hk]at e ⊢
   exact⟨e,ih _ E⟩
  ·rw[jeT _ A hk]at e ⊢
   refine⟨e,fun i=>?_⟩
   show PutP (if (cutL i l).length=0 then PA.nil else ja4 (f+1) (jak 1 (cutL i l)))
   by_cases hc:(cutL i l).length=0
   ·rw[if_pos hc];exact trivial
   ·rw[if_neg hc];exact ih _ (je3 h hc).1
theorem jts(f:Nat)(l:vL)(h:jas f l):TopC (ja4 (f+1) l):=jur _ jdJ (jmw f l h) (jkU _ (jmw f l h))
end
section
open Go Go.RowKit
attribute [local go_sem] Oper.semAt_some
noncomputable def rootM(l:vL):vB:=shaB (jaF l).text
theorem jve{l:vL}(h:jaw l=0):entP (ja4 13 (jaR l)) ⟨#[]⟩=l:=by
 have e:∀ q:vB,(⟨#[]⟩:vB)++q=q:=fun q=>jbC (by rw[jlC];rfl);rw[jtp 12 _ (jbw (jaA h)) ⟨#[]⟩ (fun q o=>by
  obtain⟨p,z,rfl⟩:=bJ.1 o
  rw[e];exact jpx p.1)]
 unfold jaR;rw[dJ]
 conv=>rhs;rw[<-List.map_id l]
 refine dI fun p z=>?_;show (jbt (⟨#[]⟩++jbu p.1),p.2)=p;rw[e,jfJ]
structure PaM(w w1:World)(l:vL)(T:TypeId)(x:Value):Prop where
 ext:Ext w w1
 pa:PaO (ja4 13 (jaR l)) (.iface T x) (jlu w w1) w1
theorem js4(w:vW)(s bm:Nat)(room:Int)(S:vT)(hs:jaS w s bm room S)(hN:jjs S)(l:vL)(h:HasM S l) :
  vQ 64 #[.pointer (some ⟨s,0,none⟩),.string (rootM l)] w fun e w'=>∃ T x,e=.returned (.tuple #[.iface T x,.bool true])/\PaM w w' l T x:=by
 refine (jyO w s bm room S hs hN (rootM l)).mono ?_;rintro e w' ⟨A,o⟩
 obtain⟨k,E⟩:=jtE w h
 unfold rootM at o;rw[E]at o
 obtain⟨T,x,rfl,H⟩:=o
 exact⟨T,x,rfl,A,H,fun z J=>J.2⟩
theorem jwV(w1 W:vW)(l:vL)(h:jaw l=0)(T:TypeId)(x:vV)(D:Nat->Prop)(hp:PaO (ja4 13 (jaR l)) (.iface T x) D w1)(hE:Ext w1 W) :
  vQ (jgf (ja4 13 (jaR l))) #[x,.string ⟨#[]⟩,.slice none 0 0] W fun e w'=>∃ v,e=.returned v/\ERow w1 w' v l.length l:=by
 have o:=jbw (jaA h);have A:=jks (jaA h);refine (jnX _ w1 W T x D ⟨#[]⟩ (.slice none 0 0) 0 12 [] hp (ORow.nil _ _ hE) (jto 12 _ 12 o o) (by have:(⟨#[]⟩:vB).size=0:=rfl;omega) (by rw[jkt 12 _ o];omega)).mono ?_;rintro e w' ⟨v,n,rfl,z⟩;rw[cP,jve h]at z
 have:=z.len'
 subst this
 exact⟨v,rfl,z⟩
theorem jAL(w:vW)(s bm:Nat)(room:Int)(S:vT)(hs:jaS w s bm room S)(hN:jjs S)(l:vL)(h:HasM S l) :
  vQ 34 #[.pointer (some ⟨s,0,none⟩),.string (rootM l)] w fun e w'=>∃ v,e=.returned (.tuple #[v,.int .i64 0])/\ERow w w' v l.length l:=by
 have X:=Hd (js4 w s bm room S hs hN l h);have Z:=Hd h.ok
 obtain⟨P,J⟩:=vE (ja4 13 (jaR l))
 have K:=Hd J;have a0:=jep P;clear hs hN h J;go_enter Tryz.func34,Tryz.ntmps34;go_wp2_with fail
 refine X.o.mono ?_;rintro e w1 ⟨T,x,rfl,A⟩;have O:=Hd A;have z:=A.pa.at'.meth;rw[<-K.o]at z;have a1:∀ w,(Go.method (420+1) T x "guilloche/trie.entries").run Tryz.prog w=.ok (jgf P,x) w:=z.ent;have Q:=Hd (jwV w1 w1 l Z.o T x _ A.pa (ExtR w1));rw[<-K.o]at Q;clear A z;go_wp2_with fail
 refine Q.o.mono ?_;rintro e w2 ⟨v,rfl,E⟩;have H:=Hd E
 obtain⟨a,c,hv⟩:=E.sl
 subst hv;clear E;go_wp2_with fail
 go_ret2
 exact⟨_,rfl,⟨_,_,rfl⟩,H.o.own,O.o.ext.trans H.o.ext,fun b hb=>bK O.o.ext.size (H.o.new b hb)⟩
end
section
open Go Go.RowKit
theorem jeL:∀ (xs:List Chg) (j:Nat) (p:Chg),xs[j]?=some p->(jd1 xs)[j * 3]?=some (.string p.key)/\(jd1 xs)[j * 3+1]?=some (.string p.value)/\(jd1 xs)[j * 3+2]?=some (.bool p.gone)
 | [],j,p,h=>by simp at h
 | x :: r,0,p,h=>by simp at h;subst h;exact⟨rfl,rfl,rfl⟩
 | x :: r,j+1,p,h=>by
  obtain⟨e,o,z⟩:=jeL r j p (by simpa using h)
  rw[show (j+1) * 3=j * 3+3 by omega]
  exact⟨e,o,z⟩
theorem CRow.rdT{w0 w:vW}{v:vV}{n:Nat}{xs:List Chg}(h:CRow w0 w v n xs):RdC w v xs:=by
 have z:xs.length=n:=by have:=h.len;rw[jjB]at this;omega
 obtain⟨_,⟨rfl,Q⟩ |⟨g,e,A,rfl,X,E,H,Z,h7⟩⟩:=h.own
 ·exact .inl ⟨none,0,rfl,bD vO⟩
 ·subst z
  refine .inr ⟨g,0,e,rfl,(dK.1 E).1,H,fun j x o=>?_⟩;have hj:=(bP.1 o).1
  obtain⟨J,K,O⟩:=jeL xs j x o
  exact⟨by rw[cG,h.own.cellAt (j * 3) vO,J],by rw[cG,h.own.cellAt (j * 3+1) vO,K],by rw[cG,h.own.cellAt (j * 3+2) vO,O]⟩
theorem jjI{l m:vL}(h1:l.length<=40)(h2:m.length<=40):(jcf l m).length<=80:=by
 have e:∀ l m:vL,(ja2 l m).length<=l.length+m.length:=fun l m=>by
  fun_induction ja2 l m <;> simp only[bF,cF]at * <;> omega
 unfold jcf;split
 ·have:=e l m;omega
 ·simp
theorem joZ{c:Chg}(h:c.bad=false):c.key.size<=6:=by
 unfold Chg.bad at h;have o:jcj c.key=true:=by
  cases e:jcj c.key with
  | true=>rfl
  | false=>rw[e]at h;simp at h
 unfold jcj at o;exact (of_decide_eq_true o).2
structure OkP(P:PA):Prop where
 can:P=.no\/CanP P
 dp:Dp P 12
theorem OkP.va{P:PA}(h:OkP P):VaP P:=by
 rcases h.can with h | h
 ·subst h;trivial
 ·exact jrR P h
theorem OkP.there{P:PA}(h:OkP P):P.isNil=false:=by
 rcases h.can with h | h
 ·subst h;rfl
 ·cases P with
  | nil=>exact h.elim
  | _=>rfl
theorem OkP.dp9{P:PA}(h:OkP P):Dp P 900000:=jcg P 12 _ h.dp vO
theorem OkP.step{P:PA}(h:OkP P){c:Chg}(hc:c.bad=false):OkP (jcq P c):=by
 refine⟨(jt7 h.can hc).1,?_⟩
 have e:=joZ hc;have o:=jgQ c.key;unfold jcq;split
 ·exact jiv P 12 _ h.dp
 ·exact joK P 12 _ _ h.dp vO
theorem jAm{l:vL}(h:jaw l=0):OkP (ja4 13 (jaR l)):=⟨jpv (jbw (jaA h)),jto 12 _ 12 (jbw (jaA h)) (jbw (jaA h))⟩
noncomputable def lackB(S:vT)(t:vB):Bool:=(atL S (shaB t).data.toList).isNone
noncomputable def freshU(S:vT)(U:vM):vM:=(jbf U).filter (lackB S)
theorem jqy(S:vT)(U:vM)(x:vB):freshU S (U++[x])=freshU S U++(if memB (jbf U) x=true then []else if lackB S x=true then [x]else []):=by
 unfold freshU;rw[jga];unfold addF
 by_cases h:memB (jbf U) x=true
 ·rw[if_pos h,if_pos h,bW]
 ·rw[if_neg h,if_neg h,gM]
  congr 1
  cases e:lackB S x <;> simp[e]
theorem jl2(S:vT)(U:vM):(freshU S U).length<=U.length:=bK (dQ _ _) (jhj U)
noncomputable def belowM(m:vL):vM:=underP (ja4 13 (jaR m))
theorem jkm{m:vL}(h:jaw m=0):belowM m=jaH (jav (jac 12) (jaR m)):=(jfK 12 _ (jbw (jaA h))).2.2
theorem jyN{m:vL}(h:jaw m=0):textP (ja4 13 (jaR m))=(jaF m).text:=(jfK 12 _ (jbw (jaA h))).2.1
theorem jlD{m:vL}(h:jaw m=0):(belowM m).length<=118:=by
 have e:=jeC (ja4 13 (jaR m)) jdJ;have o:cntP (ja4 13 (jaR m))=cntT 12 (jaR m):=jkt 12 _ (jbw (jaA h));have z:=jks (jaA h);unfold belowM;omega
noncomputable def newM(S:vT)(m:vL):vM:=(jaF m).text :: freshU S (belowM m)
def ja6(l:vL)(cs:List Chg):vL:=jcH (jcT l cs)
def UpdP(w:vW)(S:vT)(l:vL)(cs:List Chg)(e:Ending)(w':vW):Prop:=
 if jaW l cs=0 then ∃ r,e=.returned (.tuple #[r,.int .i64 0])/\SRow w w' r (newM S (ja6 l cs)).length (newM S (ja6 l cs))else e=.returned (.tuple #[.slice none 0 0,.int .i64 (jaW l cs)])/\Ext w w'
def jzx(W3:vW)(D0:Nat->Prop)(P0:PA)(ds:List Chg)(pv iv:vV)(wr:vW):Prop:=∃ (k:Nat) (T:TypeId) (x:vV) (D:Nat->Prop),k<=ds.length/\iv=.int .i64 k/\pv=.iface T x/\PaO ((ds.take k).foldl jcq P0) (.iface T x) D wr/\(∀ z,D z->D0 z\/W3.heap.size<=z)/\jaf D0 W3 wr
theorem joR{P:PA}(h:OkP P):∀ (ds:List Chg),(∀ c∈ds,c.bad=false)->OkP (ds.foldl jcq P)
 | [],_=>h
 | c :: ds,hc=>joR (h.step (hc c bH)) ds (fun d e=>hc d (bE _ e))
theorem jvm{P:PA}(h:OkP P)(ds:List Chg)(hc:ds.any Chg.bad=false)(k:Nat):OkP ((ds.take k).foldl jcq P):=joR h _ fun c o=>by
 have:=List.any_eq_false.1 hc c (iJ o)
 cases e:c.bad with
 | false=>rfl
 | true=>exact absurd e this
structure UpB(W7:World)(S:vT)(mb:Nat)(t:vB)(U:vM)(k:Nat)(rv:Value)(wr:World):Prop where
 row:∃ n,SRow W7 wr rv n (t :: freshU S (U.take k))
 out:rv.ownBlock≠some mb
 tab:∃ es ck,Blk wr mb (.map (Tryz.ES.arr es) ck)/\∀ x:vB,jaZ es x.data.toList=cntV (cntB (U.take k) x)
def jzy(W7:vW)(S:vT)(mb:Nat)(t:vB)(U:vM)(rv iv:vV)(wr:vW):Prop:=∃ k:Nat,k<=U.length/\iv=.int .i64 k/\UpB W7 S mb t U k rv wr
theorem jqm(L:vM)(x y:vB):cntB (L++[x]) y=cntB L y+(if x.data.toList=y.data.toList then 1 else 0):=by
 unfold cntB;rw[cB,List.count_append,bV,iO,List.count_singleton]
 simp
theorem joi{α:Type}{l:List α}{k:Nat}{x:α}(h:l[k]?=some x):l.take (k+1)=l.take k++[x]:=by rw[bY,h];rfl
end
