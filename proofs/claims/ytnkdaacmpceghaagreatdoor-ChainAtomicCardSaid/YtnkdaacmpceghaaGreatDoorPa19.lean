/- Lemmas; each is under no condition but those that it states. -/
import Derived.Test.YtnkdaacmpceghaaGreatDoorPa18
import Derived.Stop.Asserts
namespace Go.Proofs.YtnkdaacmpceghaaGreatDoor
set_option linter.unusedSimpArgs false
set_option linter.unusedVariables false
set_option maxRecDepth 100000
set_option maxHeartbeats 16000000
open Go Go.RowKit
variable (T:vM)(k:Key)(r q u u' v:vB)(vk:Nat->vV)(wr w0 w W:vW)(ks:Nat->PA)(s p:vB){room:Int}{i m bg bm c f b n:Nat}{Dk:Nat->Nat->Prop}{D E:Nat->Prop}{y x:Nd5}{P:PA}{name pos:String}{a:vB}{F:vM}{A S G S1 B L:vT}{W' W1 w5 w4:vW}
section
attribute [local go_sem] Oper.semAt_some
theorem jcy{p:vB}(h:p.size≠0):p.toList.isEmpty=false:=by
 rw[dM];intro e;rw[gC,bR]at e;exact h (by rw[<-jbp,e];rfl)
theorem PaEx.mk1{W:vW}{v:vV}(h:PaAt P v (Grow D W W') W')(e:Ext W W'):PaEx D W P (.returned v) W':=⟨v,rfl,h,e⟩
theorem jyr(D:Nat->Prop)(P:PA)(v:vV)(h:PaAt P v D W):vQ 288 #[.string ⟨#[]⟩,v] W (PaEx D W P):=by
 have H:=Hd h;clear h;unfold vQ;go_in;have e:(⟨#[]⟩:vB).toList.isEmpty=true:=by rw[bR];rfl
 go_wp2_with fail
 go_ret;exact PaEx.mk1 (H.o.mono (fun x q=>.inl q)) (ExtR W)
theorem jwc(D:Nat->Prop)(a q u:vB)(b:Nat)(hB:Blk W b (.cells #[.string q,.string u] 378))(h0:a.size≠0)(ha:a.size<=1000000)(hq:q.size<=1000000) :
  vQ 288 #[.string a,jh4 b] W (PaEx D W (.leaf (a++q) u)):=by
 have a0:=jcy h0;have q0:=hB.cell (i:=0) (v:=.string q) vF;have q1:=hB.cell (i:=1) (v:=.string u) vF;have Q0:=Hd q0;have Q1:=Hd q1;have hT:=jvQ b;unfold jh4 at hT ⊢;clear hB h0 q0 q1;go_enter Tryz.func288,Tryz.ntmps288;go_wp2_with fail
 refine jaj [0,1,2,3,4,5,6,7,8,9,10,11,12,13] (Ext) ExtR ExtT vY vY vY ?_;iterate 2 refine vK ?_
 refine qKV _ ((.pointer (some ⟨b,0,none⟩))) rfl (fun w1 _=>by kernel_rfl) ?_;refine vS ?_
 refine vK ?_
 refine qKL ⟨b,0,none⟩ _ rfl (fun w1 X=>jag (fun w=>by kernel_rfl) (jaa Q0.o ((jak _).trans X))) ?_;refine vS ?_;iterate 2 refine vK ?_
 refine qKV _ ((.pointer (some ⟨b,0,none⟩))) rfl (fun w1 _=>by kernel_rfl) ?_;refine vS ?_
 refine vK ?_
 refine qKL ⟨b,1,none⟩ _ rfl (fun w1 X=>jag (fun w=>by kernel_rfl) (jaa Q1.o ((jak _).trans X))) ?_;refine vS ?_
 refine vK ?_
 refine jcH _ rfl vY rfl (fun A hb K hK=>?_);refine jbk (v:=.pointer (some ⟨A.heap.size,0,none⟩)) (w':=A.alloc (.cells #[.string (a++q),.string u] 378)) vY (hK _ _ ((ExtR A).alloc _) ?_);clear hK K;have hN:=Blk.new A (.cells #[.string (a++q),.string u] 378);refine vS ?_;iterate 2 refine vK ?_
 refine qKE (fun w5 Z=>?_);have J:Ext W w5:=(((jak W).trans hb).trans ((ExtR A).alloc _)).trans Z;have e:=hN.keeps Z (fun h=>h);have H:=hb.size;have H:W.heap.size<=A.heap.size:=H;have O:=e.lt;have HX:=Hd (bA J (bA e (bA H O)));clear Z hN hb J e H O;go_wp2_with fail
 go_ret
 obtain⟨J,e,H,O⟩:=HX.o
 exact PaEx.mk1 ⟨_,rfl,.inr ⟨H,O⟩,e⟩ J
theorem jyq(D:Nat->Prop)(a q:vB)(n:PA)(T:TypeId)(x:vV)(Dn:Nat->Prop)(b:Nat)(hB:Blk W b (.cells #[.string q,.iface T x] 381))(Z:PaAt n (.iface T x) Dn W)(O:∀ x,Dn x->D x/\x < W.heap.size)(h0:a.size≠0)(ha:a.size<=1000000)(hq:q.size<=1000000) :
  vQ 288 #[.string a,extV b] W (PaEx D W (.ext (a++q) n)):=by
 have a1:=jcy h0;have q0:=hB.cell (i:=0) (v:=.string q) vF;have q1:=hB.cell (i:=1) (v:=.iface T x) vF;have Q0:=Hd q0;have Q1:=Hd q1;have HV:=Hd (bA Z O);have hT:=jxN b;have a0:=jlu (extV b) (.inl ⟨b,rfl⟩);unfold extV at hT a0 ⊢;clear hB h0 q0 q1 Z O;go_enter Tryz.func288,Tryz.ntmps288;go_wp2_with fail
 refine jaj [0,1,2,3,4,5,6,7,8,9,10,11,12,13] (Ext) ExtR ExtT vY vY vY ?_;iterate 2 refine vK ?_
 refine qKV _ ((.pointer (some ⟨b,0,none⟩))) rfl (fun w1 _=>by kernel_rfl) ?_;refine vS ?_
 refine vK ?_
 refine qKL ⟨b,0,none⟩ _ rfl (fun w1 h1=>jag (fun w=>by kernel_rfl) (jaa Q0.o ((jak _).trans h1))) ?_;refine vS ?_;iterate 2 refine vK ?_
 refine qKV _ ((.pointer (some ⟨b,0,none⟩))) rfl (fun w1 _=>by kernel_rfl) ?_;refine vS ?_
 refine vK ?_
 refine qKL ⟨b,1,none⟩ _ rfl (fun w1 h1=>jag (fun w=>by kernel_rfl) (jaa Q1.o ((jak _).trans h1))) ?_;refine vS ?_
 refine vK ?_
 refine jcH _ rfl vY rfl (fun H hb K hK=>?_);refine jbk (v:=.pointer (some ⟨H.heap.size,0,none⟩)) (w':=H.alloc (.cells #[.string (a++q),.iface T x] 381)) vY (hK _ _ ((ExtR H).alloc _) ?_);clear hK K;have hN:=Blk.new H (.cells #[.string (a++q),.iface T x] 381);refine vS ?_;iterate 2 refine vK ?_
 refine qKE (fun w5 he=>?_);have X:Ext W w5:=(((jak W).trans hb).trans ((ExtR H).alloc _)).trans he;have A:=hN.keeps he (fun h=>h);have J:=hb.size;have J:W.heap.size<=H.heap.size:=J;have hl:=A.lt;have HX:=Hd (bA X (bA A (bA J hl)));clear he hN hb X A J hl;go_wp2_with fail
 go_ret
 obtain⟨X,A,J,hl⟩:=HX.o
 obtain⟨Z,O⟩:=HV.o
 exact PaEx.mk1 ⟨_,T,x,Dn,rfl,.inr ⟨J,hl⟩,A,Z.keeps X n (.iface T x) Dn (fun _ _ e=>e),fun e=>by have:=(O _ e).2;omega,fun x hx=>.inl (O x hx).1⟩ X
theorem jzq(D:Nat->Prop)(a:vB)(u:vB)(ks:Nat->PA)(b:Nat)(h:PaO (.br u ks) (brV b) D W)(h0:a.size≠0) :
  vQ 288 #[.string a,brV b] W (PaEx D W (.ext a (.br u ks))):=by
 have O:=jcy h0;have H:=Hd h;have X:=jze b;have q:=jlu (brV b) (.inr (.inl ⟨b,rfl⟩));have A:=juB (brV b) (.inl ⟨b,rfl⟩);unfold brV at X q A ⊢;clear h h0;go_enter Tryz.func288,Tryz.ntmps288;go_wp2_with fail
 go_ret;have J:Ext W (W.alloc (.cells #[.string a,brV b] 381)):=(ExtR W).alloc _;have K:=Blk.new W (.cells #[.string a,brV b] 381);exact PaEx.mk1 ⟨_,_,_,D,rfl,.inr ⟨bL _,K.lt⟩,K,H.o.at'.keeps J _ _ _ (fun _ _ e=>e),fun e=>by have:=H.o.lt _ e;omega,fun x Z=>.inl Z⟩ J
theorem jzr(D:Nat->Prop)(a:vB)(h0:a.size≠0):vQ 288 #[.string a,noV] W (PaEx D W .no):=by
 have H:=jcy h0;have e:=jlu noV (.inr (.inr rfl));have q:=juB noV (.inr rfl);have A:=jzf;unfold noV at e q A ⊢;clear h0;unfold vQ;go_in;go_wp2_with fail
 go_ret;exact PaEx.mk1 rfl (ExtR W)
theorem pj_c(D:Nat->Prop)(a:vB)(P:PA)(v:vV)(h:PaO P v D W)(hn:P.isNil=false)(ha:a.size<=1000000)(hd:Dp P 1000000) :
  vQ 288 #[.string a,v] W (PaEx D W (jbT a P)):=by
 unfold jbT
 by_cases h0:a.size=0
 ·rw[if_pos h0,ja5 h0];exact jyr W D P v h.at'
 rw[if_neg h0];cases P with
 | nil=>cases hn
 | no=>obtain rfl:v=noV:=h.at';exact jzr W D a h0
 | leaf q u =>
  obtain⟨b,rfl,A,e⟩:=h.at'
  exact jwc W D a q u b e h0 ha hd
 | ext q n =>
  obtain⟨b,T,x,O,rfl,A,e,H,X,J⟩:=h.at'
  exact jyq W D a q n T x O b e H (fun x K=>⟨J x K,h.lt x (J x K)⟩) h0 ha hd.1
 | br u ks =>
  obtain⟨b,Z,Dk,rfl,A,e,H,X⟩:=h.at'
  exact jzq W D a u ks b h h0
end
section
attribute [local go_sem] Oper.semAt_some
theorem jc5(h:P.isNil=false):(jbT a P).isNil=false:=by
 unfold jbT;split
 ·exact h
 ·cases P <;> rfl
theorem jfM:∀ (P:PA) (p u:vB),(putP P p u).isNil=false
 | .nil,_,_=>rfl
 | .no,_,_=>rfl
 | .leaf q v,p,u=>by
  unfold putP;split
  ·rfl
  ·refine jc5 ?_
   rw[jb8];split
   ·rw[jb8];split <;> rfl
   ·rw[jb8];split <;> rfl
 | .ext q n,p,u=>by
  unfold putP;split
  ·exact jc5 (jfM n _ _)
  ·refine jc5 ?_
   rw[jb8];split <;> rfl
 | .br v ks,p,u=>by
  unfold putP;split <;> rfl
theorem jcg{P:Program}{a:Act}{w:vW}{d:Option Tmp}{x:Operand}{args:Array Operand}{ats:Array TypeId}{ty:TypeId}{af:Array Edge}{g:Option (Nat × Bool)}{T:TypeId}{v r:vV}{f:FuncId}{vs:Array vV}(hx:a.eval x=.iface T v)
  (hm:(Go.method (P.types.size+Made.depth) T v name).run P w=.ok (f,r) w) (eg:∀ args w,(callFunc f args).run P w=.ok (.enter f args) w) (hv:args.map a.eval=vs) :
  (execOp a.eval ⟨d,.call { callee:=.invoke x name,args:=args,argTypes:=ats },ty,pos,af,g⟩).run P w=.ok (.enter f (#[r]++vs)) w:=by
 subst hv;have e:(#[Value.iface T v]++args.map a.eval)[0]?=some (.iface T v):=by simp[Array.getElem?_append]
 have q:(#[Value.iface T v]++args.map a.eval).extract 1 (#[Value.iface T v]++args.map a.eval).size=args.map a.eval:=by simp
 simp only[execOp,resolve,hx,bK,cP,Result.andThen,invoke,e,q,callMethod,run_program,hm,eg]
def jjq:PA->FuncId
 | .leaf _ _=>286
 | .ext _ _=>292
 | .br _ _=>287
 | _=>300
def jey:PA->FuncId
 | .leaf _ _=>283
 | .ext _ _=>289
 | .br _ _=>293
 | _=>297
def jfI:PA->FuncId
 | .leaf _ _=>284
 | .ext _ _=>290
 | .br _ _=>294
 | _=>298
def jkG:PA->FuncId
 | .leaf _ _=>285
 | .ext _ _=>291
 | .br _ _=>295
 | _=>299
set_option maxRecDepth 100000
theorem jhq(P:PA):∀ args w,(callFunc (jjq P) args).run Tryz.prog w=.ok (.enter (jjq P) args) w:=by intro args w;cases P <;> kernel_rfl
theorem jeT(P:PA):∀ args w,(callFunc (jey P) args).run Tryz.prog w=.ok (.enter (jey P) args) w:=by intro args w;cases P <;> kernel_rfl
theorem jeo(P:PA):∀ args w,(callFunc (jfI P) args).run Tryz.prog w=.ok (.enter (jfI P) args) w:=by intro args w;cases P <;> kernel_rfl
theorem jnY(P:PA):∀ args w,(callFunc (jkG P) args).run Tryz.prog w=.ok (.enter (jkG P) args) w:=by intro args w;cases P <;> kernel_rfl
structure jxb(P:PA)(T:TypeId)(x:Value):Prop where
 put:∀ w,(Go.method (Tryz.prog.types.size+Made.depth) T x "guilloche/trie.put").run Tryz.prog w=.ok (jjq P,x) w
 drop:∀ w,(Go.method (Tryz.prog.types.size+Made.depth) T x "guilloche/trie.drop").run Tryz.prog w=.ok (jey P,x) w
 ent:∀ w,(Go.method (Tryz.prog.types.size+Made.depth) T x "guilloche/trie.entries").run Tryz.prog w=.ok (jfI P,x) w
 form:∀ w,(Go.method (Tryz.prog.types.size+Made.depth) T x "guilloche/trie.form").run Tryz.prog w=.ok (jkG P,x) w
theorem PaAt.meth{T:TypeId}{x:vV}{W:vW}(h:PaAt P (.iface T x) D W):jxb P T x:=by
 cases P with
 | nil=>cases h
 | no =>
  have h:Value.iface T x=noV:=h;unfold noV at h;injection h with h1 h2;subst h1 h2
  exact⟨fun w=>by kernel_rfl,fun w=>by kernel_rfl,fun w=>by kernel_rfl,fun w=>by kernel_rfl⟩
 | leaf q u =>
  obtain⟨b,h,_⟩:=h
  unfold jh4 at h;injection h with h1 h2;subst h1 h2
  exact⟨fun w=>by kernel_rfl,fun w=>by kernel_rfl,fun w=>by kernel_rfl,fun w=>by kernel_rfl⟩
 | ext q n =>
  obtain⟨b,_,_,_,h,_⟩:=h
  unfold extV at h;injection h with h1 h2;subst h1 h2
  exact⟨fun w=>by kernel_rfl,fun w=>by kernel_rfl,fun w=>by kernel_rfl,fun w=>by kernel_rfl⟩
 | br u ks =>
  obtain⟨b,_,_,h,_⟩:=h
  unfold brV at h;injection h with h1 h2;subst h1 h2
  exact⟨fun w=>by kernel_rfl,fun w=>by kernel_rfl,fun w=>by kernel_rfl,fun w=>by kernel_rfl⟩
theorem jv2:jxb .no 387 (.agg #[]):=PaAt.meth (D:=fun _=>True) (W:={ (default:vW)with heap:=#[] }) rfl
def PutC(P:PA):Prop:=∀ (W:vW) (T:TypeId) (x:vV) (D:Nat->Prop) (p u:vB),PaO P (.iface T x) D W->p.size<=900000->jaE p=true->Dp P 900000 ->
 vQ (jjq P) #[x,.string p,.string u] W (PaTo D W (putP P p u))
theorem PaTo.mk1{W:vW}{v:vV}(h:PaAt P v (Grow D W W') W')(e:jac D W W'):PaTo D W P (.returned v) W':=⟨v,rfl,h,e⟩
theorem jln(T:TypeId)(x:vV)(w:vW):(binOp .eql 239 (.iface T x) .nilIface).run Tryz.prog w=.ok (.bool false) w:=vY
theorem jxL:(binOp .eql 239 .nilIface .nilIface).run Tryz.prog w=.ok (.bool true) w:=vY
theorem jf2:(brC u vk).length=17:=by simp[brC]
theorem jdR(h:i < 16):(brC u vk)[1+i]?=some (vk i):=by
 rw[iL];show ((List.range 16).map vk)[i]?=_;rw[bV,fF h];rfl
def setV(vk:Nat->vV)(i:Nat)(v:vV):Nat->vV:=fun j=>if j=i then v else vk j
theorem jpg(h:i < 16)(v:vV):(brC u vk).toArray.setIfInBounds (1+i) v=(brC u (setV vk i v)).toArray:=by
 have e:(brC u vk).set (1+i) v=brC u (setV vk i v):=by
  rw[iL];show Value.string u ::((List.range 16).map vk).set i v=Value.string u ::(List.range 16).map (setV vk i v)
  congr 1
  apply iI;intro j;rw[List.getElem?_set]
  by_cases hj:i=j
  ·subst hj
   rw[if_pos rfl,if_pos (by simpa using h),bV,fF h];simp[setV]
  ·rw[if_neg hj]
   by_cases hj16:j < 16
   ·rw[bV,bV,fF hj16]
    simp[setV,Ne.symm hj]
   ·rw[iO (by simp;omega),iO (by simp;omega)]
 rw[<-e];simp
theorem jvg:(brC u vk).toArray.setIfInBounds 0 (.string u')=(brC u' vk).toArray:=by simp[brC]
structure BrAt(u:vB)(ks:Nat->PA)(b:Nat)(vk:Nat->Value)(Dk:Nat->Nat->Prop)(D:Nat->Prop)(W:World):Prop where
 mem:D b
 blk:Blk W b (.cells (brC u vk).toArray 385)
 kid:∀ i,i < 16->PaAt (ks i) (vk i) (Dk i) W/\¬ Dk i b/\∀ x,Dk i x->D x
 apart:∀ i j,i < 16->j < 16->i≠j->∀ x,Dk i x->¬ Dk j x
 lt:∀ x,D x->x < W.heap.size
theorem BrAt.pa{u:vB}{ks:Nat->PA}{vk:Nat->vV}{W:vW}(h:BrAt u ks b vk Dk D W):PaO (.br u ks) (brV b) D W:=
 ⟨⟨b,vk,Dk,rfl,h.mem,h.blk,h.kid,h.apart⟩,h.lt⟩
theorem PaO.br{u:vB}{ks:Nat->PA}{W:vW}(h:PaO (.br u ks) (brV b) D W):∃ q A,BrAt u ks b q A D W:=by
 obtain⟨X,q,A,e,H,J,K,O⟩:=h.at'
 unfold brV at e;injection e with _ e;injection e with e;injection e with e;injection e with e;subst e
 exact⟨q,A,H,J,K,O,h.lt⟩
theorem BrAt.keeps{F:BSet}{u:vB}{ks:Nat->PA}{vk:Nat->vV}{W:vW}(h:BrAt u ks b vk Dk D W)(k:jac F W W')(hF:∀ x,D x->¬ F x):BrAt u ks b vk Dk D W':=
 ⟨h.mem,h.blk.keeps k (hF b h.mem),fun i hi=>⟨(h.kid i hi).1.keeps k _ _ _ (fun x e=>hF x ((h.kid i hi).2.2 x e)),(h.kid i hi).2⟩,h.apart,fun x e=>bC (h.lt x e) k.size⟩
theorem BrAt.val{u:vB}{ks:Nat->PA}{vk:Nat->vV}{W:vW}(h:BrAt u ks b vk Dk D W)(u':vB):BrAt u' ks b vk Dk D (W.setCell ⟨b,0,none⟩ (.string u')):=by
 have K:=jac.oneSet W ⟨b,0,none⟩ (.string u');have A:=h.blk.set_same (i:=0) (.string u');rw[jvg]at A
 exact⟨h.mem,A,fun i hi=>⟨(h.kid i hi).1.keeps K _ _ _ (fun x q e=>(h.kid i hi).2.1 (by have e:x=b:=e;rw[<-e];exact q)),(h.kid i hi).2⟩,h.apart,fun x q=>bC (h.lt x q) K.size⟩
theorem BrAt.turn{u:vB}{ks:Nat->PA}{vk:Nat->vV}{W:vW}(h:BrAt u ks b vk Dk D W)(hi:i < 16){v:vV}(k:jac (Dk i) W W1)(hP:PaAt P v (Grow (Dk i) W W1) W1) :
  BrAt u (setK ks i P) b (setV vk i v) (fun j=>if j=i then Grow (Dk i) W W1 else Dk j) (Grow D W W1) (W1.setCell ⟨b,1+i,none⟩ v):=by
 have K:=jac.oneSet W1 ⟨b,1+i,none⟩ v;have hB:=(h.blk.keeps k (h.kid i hi).2.1).set_same (i:=1+i) v;rw[jpg u vk hi]at hB;have a0:=h.lt b h.mem
 refine⟨.inl h.mem,hB,fun j H=>?_,fun j l H Z O x q A=>?_,fun x q=>?_⟩
 ·by_cases e:j=i
  ·subst e
   simp only[if_pos,jcr];rw[show setV vk j v j=v from if_pos rfl]
   refine⟨hP.keeps K _ _ _ (fun x q e=>?_),fun e=>?_,fun x q=>?_⟩
   ·have e:x=b:=e
    rw[e]at q;rcases q with q | q
    ·exact (h.kid j hi).2.1 q
    ·omega
   ·rcases e with e | e
    ·exact (h.kid j hi).2.1 e
    ·omega
   ·rcases q with q | q
    ·exact .inl ((h.kid j hi).2.2 x q)
    ·exact .inr q
  ·simp only[if_neg e]
   rw[jd3 _ _ e,show setV vk i v j=vk j from if_neg e]
   refine⟨((h.kid j H).1.keeps k _ _ _ (fun x q A=>h.apart j i H hi e x q A)).keeps K _ _ _ (fun x q e=>?_),(h.kid j H).2.1,fun x q=>.inl ((h.kid j H).2.2 x q)⟩
   have e:x=b:=e;rw[e]at q;exact (h.kid j H).2.1 q
 ·have X:∀ m,m < 16->Dk m x->¬(W.heap.size<=x/\x < W1.heap.size):=fun m hm hd e=>by have:=h.lt x ((h.kid m hm).2.2 x hd);omega
  by_cases e:j=i
  ·subst e
   have g1:Grow (Dk j) W W1 x:=by simpa using q
   have J:Dk l x:=by simpa [Ne.symm O]using A
   rcases g1 with g1 | g1
   ·exact h.apart j l H Z O x g1 J
   ·exact X l Z J g1
  ·have g1:Dk j x:=by simpa [e]using q
   by_cases e2:l=i
   ·subst e2
    have J:Grow (Dk l) W W1 x:=by simpa using A
    rcases J with J | J
    ·exact h.apart j l H Z O x g1 J
    ·exact X j H g1 J
   ·have J:Dk l x:=by simpa [e2]using A
    exact h.apart j l H Z O x g1 J
 ·exact bC (jdX h.lt k x q) K.size
theorem BrAt.turn_keeps{u:vB}{ks:Nat->PA}{vk:Nat->vV}{W:vW}(h:BrAt u ks b vk Dk D W)(hi:i < 16)(k:jac (Dk i) W W1)(v:vV):jac D W (W1.setCell ⟨b,1+i,none⟩ v):=
 (k.mono (fun x _ q=>(h.kid i hi).2.2 x q)).trans' (jac.oneSet W1 ⟨b,1+i,none⟩ v) (fun x _ e=>by have e:x=b:=e;rw[e];exact h.mem)
theorem jq5(D:Nat->Prop)(p u:vB):vQ 300 #[.agg #[],.string p,.string u] W (PaTo D W (.leaf p u)):=by
 unfold vQ;go_in;go_wp2_with fail
 go_ret;have A:=((ExtR W).alloc (.cells #[] 387)).alloc (.cells #[.string p,.string u] 378);have q:=Blk.new (W.alloc (.cells #[] 387)) (.cells #[.string p,.string u] 378);rw[bF]at q;exact PaTo.mk1 ⟨_,rfl,.inr ⟨dV _,q.lt⟩,q⟩ (A.mono (fun _ _ e=>e.elim))
theorem jl6(D:Nat->Prop)(u0 u:vB)(ks:Nat->PA)(b:Nat)(h:PaO (.br u0 ks) (brV b) D W):vQ 287 #[.pointer (some ⟨b,0,none⟩),.string ⟨#[]⟩,.string u] W (fun e w'=>e=.returned (brV b)/\PaTo D W (.br u ks) e w'):=by
 obtain⟨J,O,hb⟩:=h.br
 have X:=hb.blk.cellL (i:=0) (v:=.string u0) vF;have Z:W.frozen? ⟨b,0,none⟩=false:=hb.blk.frozen;have H:=Hd hb;have q:(⟨#[]⟩:vB).toList.isEmpty=true:=by rw[bR];rfl
 clear h hb;unfold vQ;go_in;go_wp2_with fail
 go_ret;have K:=jac.oneSet W ⟨b,0,none⟩ (.string u)
 exact⟨rfl,PaTo.mk1 ((H.o.val u).pa.at'.mono (fun x A=>.inl A)) (K.mono (fun x _ e=>by have e:x=b:=e;rw[e];exact H.o.mem))⟩
theorem jss(D:Nat->Prop)(u0 u:vB)(ks:Nat->PA)(b:Nat)(h:PaO (.br u0 ks) (brV b) D W)(p:vB)(h0:p.size≠0)(hp:jaE p=true)(hs:p.size<=900000)(hn:(ks (jao p)).isNil=false)(hd:Dp (ks (jao p)) 900000)(hk:PutC (ks (jao p))) :
  vQ 287 #[.pointer (some ⟨b,0,none⟩),.string p,.string u] W (fun e w'=>e=.returned (brV b)/\PaTo D W (.br u0 (setK ks (jao p) (putP (ks (jao p)) (jbc p) u))) e w'):=by
 obtain⟨vk,Dk,hb⟩:=h.br
 obtain⟨y,t,hy⟩:=jd4 h0
 obtain⟨e1,e2⟩:=jcV hy
 have q:=jgj hp h0
 obtain⟨g0,a8⟩:=jcT hy
 have b3:=jcy h0;have X:=jcA hp;have a4:(jbc p).size<=900000:=by unfold jbc;rw[jaQ];omega
 have hI:jao p=(p[0]'g0).toNat:=by rw[e1,a8]
 have J:=hb.kid (jao p) q
 obtain⟨T,x,a2⟩:=J.1.form hn
 have q1:=hb.blk.cellL (jdR u0 vk q);rw[a2]at q1;have HK:=Hd hk;have HB:=Hd hb;have HM:=Hd ((show PaAt (ks (jao p)) (.iface T x) (Dk (jao p)) W by rw[<-a2];exact J.1).meth);have b0:=Hd (show PaAt (ks (jao p)) (.iface T x) (Dk (jao p)) W by rw[<-a2];exact J.1);have b1:=Hd hd;clear hb J hk hd;have a0:=Hd (show ∀ Z,Ext W Z->vQ (jjq (ks (jao p))) #[x,.string (jbc p),.string u] Z (PaTo (Dk (jao p)) Z (putP (ks (jao p)) (jbc p) u))from fun Z e=>HK.o Z T x _ _ _ ⟨b0.o.keeps e _ _ _ (fun _ _ e=>e),fun z hz=>bC (HB.o.lt z ((HB.o.kid _ q).2.2 z hz)) e.size⟩ a4 X b1.o);have hQ:=jln T x;have Q1:=Hd q1;have b2:=Hd (show ¬(Dk (jao p) b\/W.heap.size<=b)from fun e=>e.elim (HB.o.kid _ q).2.1 (fun e=>by have:=HB.o.lt b HB.o.mem;omega));have a5:=Hd hI;have A:=Hd q;have b4:=Hd (bA X a4);have c1:(0:Int) < (p.size:Int):=vO
 have c2:((p[0]'g0).toNat:Int) < 16:=vO
 have c3:(1:Int)<=(p.size:Int):=vO
 rw[hI]at q1;have a9:(p[0]'g0).toNat < 16:=vO
 obtain⟨i,hi⟩:=vE (p[0]'g0).toNat
 have b5:=Hd hi;clear h a2 hy e1 e2 h0 hp hn a8 X a4 q hI hi;go_enter Tryz.func287,Tryz.ntmps287;go_wp2_with fail
 refine jbm [0,1,2,3,4,5,6,7,8,9,10,11,12,14,15,13,16] 17 [13] Ext (jac (fun z=>Dk (jao p) z\/W.heap.size<=z)) ExtR ExtT (fun x y z h k=>jac.trans h k) (fun x y h=>h.mono (fun _ _ h=>h.elim)) vY vY vY ?_;iterate 4 refine vZ ?_
 refine qZA _ ((.pointer (some ⟨b,0,none⟩))) rfl (fun w1=>by kernel_rfl) ?_;refine vS ?_;iterate 2 refine vZ ?_
 refine qZL ⟨b,1+(p[0]'g0).toNat,none⟩ _ rfl (fun w1 h1=>jag (fun w=>by kernel_rfl) (by rw[<-a5.o];exact jai Q1.o (((jac.refl (fun z=>Dk (jao p) z\/W.heap.size<=z) W).drew).trans h1) (by exact b2.o))) ?_;refine vS ?_;iterate 3 refine vZ ?_
 refine qZA _ (.iface T x) rfl (fun w1=>by kernel_rfl) ?_;refine vS ?_
 refine vZ ?_
 refine qZA _ ((.pointer (some ⟨b,0,none⟩))) rfl (fun w1=>by kernel_rfl) ?_;refine vS ?_
 refine vZ ?_
 refine jcb _ rfl vY rfl (fun Z hb K hK=>?_);have kb:Ext W Z:=(jak _).trans hb;refine jaT (jcg (f:=jjq (ks (jao p))) (vs:=#[.string (jbc p),.string u]) rfl (HM.o.put _) (jhq _) vY) ?_;refine (a0.o Z kb).mono ?_;rintro e w2 ⟨v2,rfl,a1,O⟩
 refine⟨v2,rfl,hK _ _ (O.mono (fun z _ hz=>.inl hz)) ?_⟩
 have HS:=Hd (bA kb (bA a1 O));clear hK K hb kb a1 O;refine vS ?_
 refine vZ ?_
 refine jcI _ rfl vY rfl (fun wc hc K hK=>?_)
 obtain⟨hb,a1,O⟩:=HS.o
 have H:=HB.o.keeps (F:=fun _=>False) (hb) (fun _ _ e=>e);have kc:jac (Dk (jao p)) Z wc:=O.trans (hc.mono (fun _ _ e=>e.elim));have a7:PaAt (putP (ks (jao p)) (jbc p) u) v2 (Grow (Dk (jao p)) Z wc) wc:=(a1.keeps hc _ _ _ (fun _ _ e=>e)).mono (fun z hz=>hz.imp id (fun e=>⟨e.1,bC e.2 hc.size⟩))
 obtain⟨T2,x2,rfl⟩:=a7.form (jfM _ _ _)
 have ht:=H.turn A.o kc a7;have a3:=H.turn_keeps A.o kc (.iface T2 x2)
 obtain⟨old,q7⟩:∃ v,wc.cell? ⟨b,1+jao p,none⟩=some v:=⟨_,(H.blk.keeps kc (H.kid _ A.o).2.1).cellL (bB (by rw[jf2];have:=A.o;omega))⟩
 have f7:wc.frozen? ⟨b,1+jao p,none⟩=false:=(H.blk.keeps kc (H.kid _ A.o).2.1).frozen;have HT:=Hd (bA ht (bA a3 hb));rw[a5.o]at q7 f7;clear hb a1 O H kc a7 ht a3 hc;go_simp;refine hK _ _ ?_;clear hK K q7 f7;go_wp2_with fail
 go_ret
 obtain⟨ht,a3,hb⟩:=HT.o
 rw[<-a5.o]
 exact⟨rfl,PaTo.mk1 (ht.pa.at'.mono (fun z hz=>hz.imp id (fun e=>⟨bE hb.size e.1,bC e.2 (jac.oneSet wc ⟨b,1+jao p,none⟩ (.iface T2 x2)).size⟩))) (((hb.mono (fun _ _ e=>e.elim)):jac D W Z).trans a3)⟩
theorem jl5(D:Nat->Prop)(u0 u:vB)(ks:Nat->PA)(b:Nat)(h:PaO (.br u0 ks) (brV b) D W)(p:vB)(h0:p.size≠0)(hp:jaE p=true)(hs:p.size<=900000)(hn:(ks (jao p)).isNil=true) :
  vQ 287 #[.pointer (some ⟨b,0,none⟩),.string p,.string u] W (fun e w'=>e=.returned (brV b)/\PaTo D W (.br u0 (setK ks (jao p) (.leaf (jbc p) u))) e w'):=by
 obtain⟨vk,Dk,hb⟩:=h.br
 obtain⟨y,t,hy⟩:=jd4 h0
 obtain⟨e1,e2⟩:=jcV hy
 have q:=jgj hp h0
 obtain⟨g0,b2⟩:=jcT hy
 have c5:=jcy h0;have a4:=jcA hp;have b3:(jbc p).size<=900000:=by unfold jbc;rw[jaQ];omega
 have hI:jao p=(p[0]'g0).toNat:=by rw[e1,b2]
 have a5:=hb.kid (jao p) q;have b4:vk (jao p)=.nilIface:=by have:=a5.1;rw[jcW hn]at this;exact this
 have q1:=hb.blk.cellL (jdR u0 vk q);rw[b4]at q1;have f1:W.frozen? ⟨b,1+jao p,none⟩=false:=hb.blk.frozen
 obtain⟨W1,O⟩:=vE (W.setCell ⟨b,1+jao p,none⟩ noV)
 have a2:=hb.turn q (P:=.no) (v:=noV) (jac.refl _ W) rfl;rw[<-O]at a2
 obtain⟨X,a7⟩:=vE (fun j=>if j=jao p then Grow (Dk (jao p)) W W else Dk j)
 obtain⟨b9,a0⟩:=vE (setK ks (jao p) .no)
 have a8:setK b9 (jao p) (.leaf (jbc p) u)=setK ks (jao p) (.leaf (jbc p) u):=by
  funext j;unfold setK;rw[a0];unfold setK
  by_cases e:j=jao p
  ·rw[if_pos e,if_pos e]
  ·rw[if_neg e,if_neg e,if_neg e]
 rw[<-a7, <-a0]at a2;have b5:W1.cell? ⟨b,1+jao p,none⟩=some noV:=by
  have:=a2.blk.cellL (jdR u0 _ q)
  rw[this];show some (setV vk (jao p) noV (jao p))=_;unfold setV;rw[if_pos rfl]
 have c7:=Hd O;have c0:=Hd a8;have b6:Hid (∀ z,Grow D W W z->D z):=(fun z J=>J.elim id (fun e=>by omega));have b7:=Hd (show jac D W W1 by rw[O];exact (jac.oneSet W ⟨b,1+jao p,none⟩ noV).mono (fun z _ e=>by have e:z=b:=e;rw[e];exact hb.mem));have HB:=Hd a2;have Q1:=Hd b5;clear a7 a0 a2 b5 a8 hb a5;unfold noV at O Q1;have a1:=Hd (show ∀ wb,Ext W1 wb->vQ 300 #[.agg #[],.string (jbc p),.string u] wb (PaTo (X (jao p)) wb (.leaf (jbc p) u))from fun wb _=>jq5 wb _ _ _);have c4:=Hd (show ¬(X (jao p) b\/W1.heap.size<=b)from fun e=>e.elim (HB.o.kid _ q).2.1 (fun e=>by have:=HB.o.lt b HB.o.mem;omega));have b0:=Hd hI;have A:=Hd q;have c8:=Hd (bA a4 b3);have c1:(0:Int) < (p.size:Int):=vO
 have c2:((p[0]'g0).toNat:Int) < 16:=vO
 have c3:(1:Int)<=(p.size:Int):=vO
 rw[hI]at q1 f1 O;have b8:(p[0]'g0).toNat < 16:=vO
 obtain⟨i,hi⟩:=vE (p[0]'g0).toNat
 have c9:=Hd hi;clear h b4 hy e1 e2 h0 hp hn b2 a4 b3 q hI hi;go_enter Tryz.func287,Tryz.ntmps287;go_wp2_with fail
 rw[<-O];refine jbm [0,1,2,3,4,5,6,7,8,9,10,11,12,14,15,13,16] 17 [13] Ext (jac (fun z=>X (jao p) z\/W1.heap.size<=z)) ExtR ExtT (fun x y z h k=>jac.trans h k) (fun x y h=>h.mono (fun _ _ h=>h.elim)) vY vY vY ?_;iterate 4 refine vZ ?_
 refine qZA _ ((.pointer (some ⟨b,0,none⟩))) rfl (fun w1=>by kernel_rfl) ?_;refine vS ?_;iterate 2 refine vZ ?_
 refine qZL ⟨b,1+(p[0]'g0).toNat,none⟩ _ rfl (fun w1 h1=>jag (fun w=>by kernel_rfl) (by rw[<-b0.o];exact jai Q1.o (((jac.refl (fun z=>X (jao p) z\/W1.heap.size<=z) W1).drew).trans h1) (by exact c4.o))) ?_;refine vS ?_;iterate 3 refine vZ ?_
 refine qZA _ (.iface 387 (.agg #[])) rfl (fun w1=>by kernel_rfl) ?_;refine vS ?_
 refine vZ ?_
 refine qZA _ ((.pointer (some ⟨b,0,none⟩))) rfl (fun w1=>by kernel_rfl) ?_;refine vS ?_
 refine vZ ?_
 refine jcb _ rfl vY rfl (fun wb hb K hK=>?_);have kb:Ext W1 wb:=(jak _).trans hb;refine jaT (jcg (f:=300) (vs:=#[.string (jbc p),.string u]) rfl (jv2.put _) (fun args w=>by kernel_rfl) vY) ?_;refine (a1.o wb kb).mono ?_;rintro e w2 ⟨v2,rfl,a3,Z⟩
 refine⟨v2,rfl,hK _ _ (Z.mono (fun z _ J=>.inl J)) ?_⟩
 have HS:=Hd (bA kb (bA a3 Z));clear hK K hb kb a3 Z;refine vS ?_
 refine vZ ?_
 refine jcI _ rfl vY rfl (fun wc hc K hK=>?_)
 obtain⟨hb,a3,Z⟩:=HS.o
 have H:=HB.o.keeps (F:=fun _=>False) (hb) (fun _ _ e=>e);have kc:jac (X (jao p)) wb wc:=Z.trans (hc.mono (fun _ _ e=>e.elim));have b1:PaAt (PA.leaf (jbc p) u) v2 (Grow (X (jao p)) wb wc) wc:=(a3.keeps hc _ _ _ (fun _ _ e=>e)).mono (fun z J=>J.imp id (fun e=>⟨e.1,bC e.2 hc.size⟩))
 obtain⟨T2,x2,rfl⟩:=b1.form rfl
 have ht:=H.turn A.o kc b1;have a9:=H.turn_keeps A.o kc (.iface T2 x2)
 obtain⟨old,q7⟩:∃ v,wc.cell? ⟨b,1+jao p,none⟩=some v:=⟨_,(H.blk.keeps kc (H.kid _ A.o).2.1).cellL (bB (by rw[jf2];have:=A.o;omega))⟩
 have f7:wc.frozen? ⟨b,1+jao p,none⟩=false:=(H.blk.keeps kc (H.kid _ A.o).2.1).frozen;have HT:=Hd (bA ht (bA a9 hb));rw[b0.o]at q7 f7;clear hb a3 Z H kc b1 ht a9 hc;go_simp;refine hK _ _ ?_;clear hK K q7 f7;go_wp2_with fail
 go_ret
 obtain⟨ht,a9,hb⟩:=HT.o
 rw[<-b0.o];have a8:=c0.o
 refine⟨rfl,PaTo.mk1 (PaAt.mono (fun z J=>?_) (by rw[<-a8];exact ht.pa.at')) ((b7.o.trans (hb.mono (fun _ _ e=>e.elim))).trans (a9.mono (fun z _ J=>b6.o z J)))⟩
 rcases J with J | J
 ·exact .inl (b6.o z J)
 ·exact .inr ⟨bE (bE b7.o.size hb.size) J.1,bC J.2 (jac.oneSet wc ⟨b,1+jao p,none⟩ (.iface T2 x2)).size⟩
end
section
attribute [local go_sem] Oper.semAt_some
def AddP(D:Nat->Prop)(W:vW)(b:Nat)(P:PA)(e:Ending)(w':vW):Prop:=e=.returned (brV b)/\PaAt P (brV b) (Grow D W w') w'/\jac D W w'
theorem ji3(D:Nat->Prop)(v:vB)(ks:Nat->PA)(b:Nat)(h:PaO (.br v ks) (brV b) D W)(p u:vB)(hp:jaE p=true)(hs:p.size<=900000)(hf:∀ x t,p.data.toList=x :: t->(ks x.toNat).isNil=true) :
  vQ 287 #[.pointer (some ⟨b,0,none⟩),.string p,.string u] W (AddP D W b (addK (.br v ks) p u)):=by
 rw[jb8]
 by_cases h0:p.size=0
 ·rw[if_pos h0,ja5 h0]
  refine (jl6 W D v u ks b h).mono ?_;rintro e w' ⟨rfl,J,e,q,A⟩;injection e with e;subst e
  exact⟨rfl,q,A⟩
 ·rw[if_neg h0]
  obtain⟨x,t,H⟩:=jd4 h0
  refine (jl5 W D v u ks b h p h0 hp hs (by rw[(jcV H).1];exact hf x t H)).mono ?_;rintro e w' ⟨rfl,J,e,q,A⟩;injection e with e;subst e
  exact⟨rfl,q,A⟩
theorem juw{W:vW}(h:Blk W b (.cells #[.string ⟨#[]⟩,.nilIface,.nilIface,.nilIface,.nilIface,.nilIface,.nilIface,.nilIface,.nilIface,.nilIface,.nilIface,.nilIface,.nilIface,.nilIface,.nilIface,.nilIface,.nilIface] 385)) :
  BrAt ⟨#[]⟩ (fun _=>.nil) b (fun _=>.nilIface) (fun _ _=>False) (fun x=>x=b) W:=
 ⟨rfl,h,fun i _=>⟨rfl,fun e=>e,fun _ e=>e.elim⟩,fun _ _ _ _ _ _ e=>e.elim,fun x e=>by rw[e];exact h.lt⟩
theorem AddP.br{W w':vW}(h:PaAt P (brV b) (Grow D W w') w')(k:jac D W w')(hl:∀ x,D x->x < W.heap.size):PaO P (brV b) (Grow D W w') w':=⟨h,jdX hl k⟩
theorem jqF(D:Nat->Prop)(q v u:vB)(b:Nat)(A:Blk W b (.cells #[.string q,.string v] 378)):vQ 286 #[.pointer (some ⟨b,0,none⟩),.string q,.string u] W (PaTo D W (.leaf q u)):=by
 have J:=A.cell (i:=0) (v:=.string q) vF;clear A;have H:(q.toList == q.toList)=true:=by simp
 unfold vQ;go_in;go_wp2_with fail
 go_ret;have A:=Blk.new W (.cells #[.string q,.string u] 378);exact PaTo.mk1 ⟨_,rfl,.inr ⟨bL _,A.lt⟩,A⟩ (((ExtR W).alloc _).mono (fun _ _ e=>e.elim))
theorem jul(v:vB):(∀ x t,(q.extract (jar q p) q.size).data.toList=x :: t->PA.isNil ((fun _=>PA.nil) x.toNat)=true)/\∃ v1 ks1,addK (.br ⟨#[]⟩ fun _=>.nil) (q.extract (jar q p) q.size) v=.br v1 ks1/\∀ x t,(p.extract (jar q p) p.size).data.toList=x :: t->(ks1 x.toNat).isNil=true:=by
 refine⟨fun _ _ _=>rfl,?_⟩
 obtain⟨X,Z,ha,hb,A,H,J⟩:=jgC q.data.toList p.data.toList
 have e:(q.extract (jar q p) q.size).data.toList=X:=by rw[jn2,A];rfl
 have K:(p.extract (jar q p) p.size).data.toList=Z:=by rw[jn2,H];rfl
 obtain⟨x1,e1⟩:∃ x,x=q.extract (jar q p) q.size:=⟨_,rfl⟩
 rw[<-e1]at e ⊢;rw[jb8]
 by_cases h0:x1.size=0
 ·rw[if_pos h0];exact⟨_,_,rfl,fun _ _ _=>rfl⟩
 ·rw[if_neg h0]
  refine⟨_,_,rfl,fun y t hy=>?_⟩
  obtain⟨x,s,O⟩:=jd4 h0
  unfold setK;rw[(jcV O).1,if_neg (jnn (Ne.symm (J x s y t (by rw[<-e,O]) (by rw[<-K,hy]))))];rfl
theorem joi(D:Nat->Prop)(q v p u:vB)(b:Nat)(hB:Blk W b (.cells #[.string q,.string v] 378))(hne:p≠q)(hq:jaE q=true)(hp:jaE p=true)(hqs:q.size<=900000)(hps:p.size<=900000) :
  vQ 286 #[.pointer (some ⟨b,0,none⟩),.string p,.string u] W (PaTo D W (putP (.leaf q v) p u)):=by
 have q0:=hB.cell (i:=0) (v:=.string q) vF;have Q0:=Hd q0;have Q1:=Hd (hB.cell (i:=1) (v:=.string v) vF);have HB:=Hd hB;have d7:(p.toList == q.toList)=false:=by rw[jjl];exact decide_eq_false hne
 obtain⟨c1,c2⟩:=jel q p
 have Z:putP (.leaf q v) p u=jbT (p.extract 0 (jar q p)) (addK (addK (.br ⟨#[]⟩ fun _=>.nil) (q.extract (jar q p) q.size) v) (p.extract (jar q p) p.size) u):=by
  show (if p=q then PA.leaf p u else _)=_;rw[if_neg hne]
 have a0:=jul q p v;have a1:=fun w=>jeR w q p vO vO
 obtain⟨m,hm⟩:=vE (jar q p)
 rw[<-hm]at c1 c2 Z a0 a1;rw[Z];have b3:(q.extract m q.size).size<=900000:=by rw[jaQ];omega
 have b4:(p.extract m p.size).size<=900000:=by rw[jaQ];omega
 have b5:(p.extract 0 m).size<=900000:=by rw[dH];omega
 have b6:jaE (q.extract m q.size)=true:=jbb hq _ _;have b7:jaE (p.extract m p.size)=true:=jbb hp _ _
 obtain⟨H,v1,a3,e1,J⟩:=a0
 have b8:Dp (addK (.br v1 a3) (p.extract m p.size) u) 1000000:=jhl (by rw[<-e1];exact jhl (jgW _ _) vO _) vO _;have b9:(addK (.br v1 a3) (p.extract m p.size) u).isNil=false:=by rw[jb8];split <;> rfl
 rw[e1];have HF:=Hd (bA (bA H (bA e1 J)) (bA b3 (bA b4 (bA b5 (bA b6 b7)))));have c0:=Hd (bA b8 b9);have HC:=Hd a1;have d8:(m:Int)<=(q.size:Int):=vO
 have d9:(m:Int)<=(p.size:Int):=vO
 clear hB hne hq hp Z hm H J e1 b8 b9 b3 b4 b5 b6 b7 a1;go_enter Tryz.func286,Tryz.ntmps286;go_wp2_with fail
 refine (HC.o _).mono ?_;rintro e w1 ⟨rfl,n,rfl⟩;go_wp2_with fail
 obtain⟨A,a4⟩:=vE W.heap.size
 obtain⟨W2,a5⟩:=vE ((W.drewN n).alloc (.cells #[.string ⟨#[]⟩,.nilIface,.nilIface,.nilIface,.nilIface,.nilIface,.nilIface,.nilIface,.nilIface,.nilIface,.nilIface,.nilIface,.nilIface,.nilIface,.nilIface,.nilIface,.nilIface] 385))
 have c3:Ext W W2:=by rw[a5];exact ((ExtR W).drewN n).alloc _
 have c4:BrAt ⟨#[]⟩ (fun _=>.nil) A (fun _=>.nilIface) (fun _ _=>False) (fun x=>x=A) W2:=by rw[a5,a4];exact juw (Blk.new (W.drewN n) _)
 have c5:W.heap.size<=A:=by rw[a4];exact bL _
 have a7:=Hd c3;have c7:=Hd c4;have b1:=Hd c5;have c8:=Hd (show ¬ W.heap.size<=b from by have:=HB.o.lt;omega);rw[<-a5, <-a4];clear a4 a5 c3 c4 c5;refine jau [0,1,2,3,4,5,6,7,8,9,10,11] [11] Ext (jac (fun z=>W.heap.size<=z)) ExtR ExtT (fun x y z h k=>jac.trans h k) (fun x y h=>h.mono (fun _ _ h=>h.elim)) vY vY vY ?_;iterate 2 refine vD ?_
 refine qDV _ ((.pointer (some ⟨b,0,none⟩))) rfl (fun w1 _=>by kernel_rfl) ?_;refine vS ?_
 refine vD ?_
 refine qDL ⟨b,0,none⟩ _ rfl (fun w1 h1=>jag (fun w=>by kernel_rfl) (jai (jaa Q0.o a7.o) (((jac.refl (fun z=>W.heap.size<=z) W2).drew).trans h1) (by exact c8.o))) ?_;refine vS ?_;iterate 3 refine vD ?_
 refine qDV _ ((.pointer (some ⟨b,0,none⟩))) rfl (fun w1 _=>by kernel_rfl) ?_;refine vS ?_
 refine vD ?_
 refine qDL ⟨b,1,none⟩ _ rfl (fun w1 h1=>jag (fun w=>by kernel_rfl) (jai (jaa Q1.o a7.o) (((jac.refl (fun z=>W.heap.size<=z) W2).drew).trans h1) (by exact c8.o))) ?_;refine vS ?_;refine qDH _ rfl (fun wb hb K hK=>?_);have kb:Ext W2 wb:=(jak _).trans hb
 obtain⟨H,e1,J⟩:=HF.o.1
 refine jaT (jal (vX 287) vY) ((ji3 wb (fun x=>x=A) ⟨#[]⟩ (fun _=>.nil) A ((c7.o.keeps kb (fun _ _ e=>e)).pa) (q.extract m q.size) v HF.o.2.2.2.2.1 HF.o.2.1 H).mono ?_);rintro e w3 ⟨rfl,O,X⟩
 refine⟨_,rfl,hK _ _ (X.mono (fun z _ e=>by have e:z=A:=e;rw[e];exact b1.o)) ?_⟩
 rw[e1]at O;have HS:=Hd (bA kb (bA O X));clear hK K hb kb O X e1;refine vS ?_;refine qDE (fun wc hc=>?_)
 obtain⟨kb,O,X⟩:=HS.o
 have kc:jac (fun x=>x=A) wb wc:=X.trans (hc.mono (fun _ _ e=>e.elim));have c9:PaAt (.br v1 a3) (brV A) (Grow (fun x=>x=A) wb wc) wc:=(O.keeps hc _ _ _ (fun _ _ e=>e)).mono (fun z hz=>hz.imp id (fun e=>⟨e.1,bC e.2 hc.size⟩));have d0:=AddP.br c9 kc (fun x e=>by have e:x=A:=e;rw[e];exact bC c7.o.blk.lt kb.size);have d1:Ext W wc:=(a7.o.trans kb).trans' kc (fun x hx e=>by have e:x=A:=e;have:=b1.o;omega);have a8:=Hd (bA d0 d1);have d2:Hid (∀ x,Grow (fun x=>x=A) wb wc x->W.heap.size<=x):=(fun x hx=>hx.elim (fun e=>by rw[e];exact b1.o) (fun e=>bE (bE a7.o.size kb.size) e.1));clear hc kb O X kc c9 d0 d1 HS;go_wp2_with fail
 obtain⟨H,e1,J⟩:=HF.o.1
 refine (ji3 wc _ v1 a3 A a8.o.1 (p.extract m p.size) u HF.o.2.2.2.2.2 HF.o.2.2.1 J).mono ?_;rintro e w4 ⟨rfl,d3,b2⟩;have d4:=AddP.br d3 b2 a8.o.1.lt;have d5:Ext W w4:=a8.o.2.trans' b2 (fun x hx e=>by have:=d2.o x e;omega);have d6:Hid (∀ x,Grow (Grow (fun x=>x=A) wb wc) wc w4 x->W.heap.size<=x):=fun x hx=>hx.elim (d2.o x) (fun e=>bE a8.o.2.size e.1);have a9:=Hd (bA d4 d5);clear d3 b2 d4 d5 e1 H J;unfold brV;go_wp2_with fail
 refine (pj_c w4 _ (p.extract 0 m) _ (brV A) a9.o.1 c0.o.2 (by have:=HF.o.2.2.2.1;omega) c0.o.1).mono ?_;rintro e w5 ⟨v5,rfl,b0,a2⟩;have HZ:=Hd (bA b0 a2);clear b0 a2;go_wp2_with fail
 go_ret
 obtain⟨b0,a2⟩:=HZ.o
 exact PaTo.mk1 (b0.mono (fun x hx=>.inr ⟨hx.elim (d6.o x) (fun e=>bE a9.o.2.size e.1),(jdX a9.o.1.lt a2) x hx⟩)) ((a9.o.2.trans a2).mono (fun _ _ e=>e.elim))
theorem BrAt.give{u:vB}{ks:Nat->PA}{vk:Nat->vV}{W:vW}(h:BrAt u ks b vk Dk D W)(hi:i < 16){v:vV}(hP:PaAt P v E W)(hE:∀ x,E x->¬ D x/\x < W.heap.size) :
  BrAt u (setK ks i P) b (setV vk i v) (fun j=>if j=i then E else Dk j) (fun x=>D x\/E x) (W.setCell ⟨b,1+i,none⟩ v):=by
 have K:=jac.oneSet W ⟨b,1+i,none⟩ v;have X:=h.blk.set_same (i:=1+i) v;rw[jpg u vk hi]at X
 refine⟨.inl h.mem,X,fun j A=>?_,fun j l A Z J x q H=>?_,fun x q=>?_⟩
 ·by_cases e:j=i
  ·subst e
   simp only[if_pos,jcr];rw[show setV vk j v j=v from if_pos rfl]
   refine⟨hP.keeps K _ _ _ (fun x q e=>?_),fun e=>(hE b e).1 h.mem,fun x q=>.inr q⟩
   have e:x=b:=e;rw[e]at q;exact (hE b q).1 h.mem
  ·simp only[if_neg e]
   rw[jd3 _ _ e,show setV vk i v j=vk j from if_neg e]
   refine⟨(h.kid j A).1.keeps K _ _ _ (fun x q e=>?_),(h.kid j A).2.1,fun x q=>.inl ((h.kid j A).2.2 x q)⟩
   have e:x=b:=e;rw[e]at q;exact (h.kid j A).2.1 q
 ·by_cases e:j=i
  ·subst e
   have g1:E x:=by simpa using q
   have O:Dk l x:=by simpa [Ne.symm J]using H
   exact (hE x g1).1 ((h.kid l Z).2.2 x O)
  ·have g1:Dk j x:=by simpa [e]using q
   by_cases e2:l=i
   ·subst e2
    have O:E x:=by simpa using H
    exact (hE x O).1 ((h.kid j A).2.2 x g1)
   ·have O:Dk l x:=by simpa [e2]using H
    exact h.apart j l A Z J x g1 O
 ·rcases q with q | q
  ·exact bC (h.lt x q) K.size
  ·exact bC (hE x q).2 K.size
theorem jvI{q:vB}(h:m < q.size):jao (q.extract m q.size)=(q[m]).toNat:=by
 unfold jao;have e:m < q.data.toList.length:=by rw[jbp];exact h
 rw[jn2,gF e];rfl
theorem jvy(D:Nat->Prop)(q:vB)(n:PA)(T:TypeId)(x:vV)(Dn:Nat->Prop)(b:Nat)(hB:Blk W b (.cells #[.string q,.iface T x] 381))(hv:PaAt n (.iface T x) Dn W)(hbn:¬ Dn b)(hD:∀ x,Dn x->D x/\x < W.heap.size)(p u:vB)(hq:jaE q=true)(hp:jaE p=true)(hqs:q.size<=900000)(hps:p.size<=900000)(hd:Dp n 900000)(hk:PutC n)(hnil:n.isNil=false)(hf:jar q p=q.size) :
  vQ 292 #[.pointer (some ⟨b,0,none⟩),.string p,.string u] W (PaTo D W (jbT q (putP n (p.extract q.size p.size) u))):=by
 have q0:=hB.cell (i:=0) (v:=.string q) vF;have q1:=hB.cell (i:=1) (v:=.iface T x) vF;have Q0:=Hd q0;have Q1:=Hd q1;have HB:=Hd hB;have HV:=Hd hv;have HD:Hid (∀ z,Dn z->D z/\z < W.heap.size):=hD
 obtain⟨c1,c2⟩:=jel q p
 have O:=fun w=>jeR w q p vO vO;rw[hf]at c1 c2 O;have HC:=Hd O;have b0:=hB.lt;have a5:=Hd (show ¬(Dn b\/W.heap.size<=b)from fun e=>e.elim hbn (fun e=>by omega));have a1:jaE (p.extract q.size p.size)=true:=jbb hp _ _;have a3:(p.extract q.size p.size).size<=900000:=by rw[jaQ];omega
 have HM:=Hd hv.meth;have a0:=Hd (show ∀ X,Ext W X->vQ (jjq n) #[x,.string (p.extract q.size p.size),.string u] X (PaTo Dn X (putP n (p.extract q.size p.size) u))from fun X e=>hk X T x Dn _ _ ⟨hv.keeps e _ _ _ (fun _ _ e=>e),fun z A=>bC (hD z A).2 e.size⟩ a3 a1 hd);have b1:Hid (Dp (putP n (p.extract q.size p.size) u) 1000000):=(jbt _ _ _ (jmr n 900000 _ u hd a3) vO);have b3:(q.size:Int)<=(p.size:Int):=vO
 have b4:((q.size:Int) ==(q.size:Int))=true:=by simp
 clear hB hv hbn hD hq hp hd hk hf a1 a3 O b0;go_enter Tryz.func292,Tryz.ntmps292;go_wp2_with fail
 refine (HC.o _).mono ?_;rintro e w1 ⟨rfl,k,rfl⟩;have a7:=Hd (show jac (fun z=>Dn z\/W.heap.size<=z) W ((W.drewN k).drew)from((jac.refl _ W).drewN k).drew);go_wp2_with fail
 refine jau [0,1,2,3,4,5,6,7,8,9,10,11,12,13,14,15,16] [14,15] Ext (jac (fun z=>Dn z\/W.heap.size<=z)) ExtR ExtT (fun x y z h k=>jac.trans h k) (fun x y h=>h.mono (fun _ _ h=>h.elim)) vY vY vY ?_
 refine vD ?_
 refine qDV _ ((.pointer (some ⟨b,0,none⟩))) rfl (fun w1 _=>by kernel_rfl) ?_;refine vS ?_
 refine vD ?_
 refine qDL ⟨b,0,none⟩ _ rfl (fun w1 h1=>jag (fun w=>by kernel_rfl) (jai Q0.o (a7.o.trans h1) (by exact a5.o))) ?_;refine vS ?_
 refine vD ?_
 refine qDV _ ((.pointer (some ⟨b,0,none⟩))) rfl (fun w1 _=>by kernel_rfl) ?_;refine vS ?_
 refine vD ?_
 refine qDL ⟨b,1,none⟩ _ rfl (fun w1 h1=>jag (fun w=>by kernel_rfl) (jai Q1.o (a7.o.trans h1) (by exact a5.o))) ?_;refine vS ?_;iterate 4 refine vD ?_
 refine qDV _ (.iface T x) rfl (fun w1 _=>by kernel_rfl) ?_;refine vS ?_
 refine vD ?_
 refine qDH _ rfl (fun X hb K hK=>?_);have kb:Ext W X:=(((ExtR W).drewN k).drew).trans hb;refine jaT (jcg (f:=jjq n) (vs:=#[.string (p.extract q.size p.size),.string u]) rfl (HM.o.put _) (jhq _) vY) ?_;refine (a0.o X kb).mono ?_;rintro e w2 ⟨v2,rfl,Z,H⟩
 refine⟨v2,rfl,hK _ _ (H.mono (fun z _ A=>.inl A)) ?_⟩
 have HS:=Hd (bA kb (bA Z H));clear hK K hb kb Z H;refine vS ?_;refine qDH _ rfl (fun wc hc K hK=>?_)
 obtain⟨kb,Z,H⟩:=HS.o
 have kc:jac Dn X wc:=H.trans (hc.mono (fun _ _ e=>e.elim));have a8:PaAt (putP n (p.extract q.size p.size) u) v2 (Grow Dn X wc) wc:=(Z.keeps hc _ _ _ (fun _ _ e=>e)).mono (fun z A=>A.imp id (fun e=>⟨e.1,bC e.2 hc.size⟩));have a4:=PaTo.own a8 kc (fun z A=>bC (HD.o z A).2 kb.size);refine jaT (jal (vX 288) vY) ((pj_c wc _ q _ v2 a4 (jfM _ _ _) vO b1.o).mono ?_);rintro e w5 ⟨v5,rfl,a2,J⟩
 refine⟨v5,rfl,hK _ _ (J.mono (fun _ _ e=>e.elim)) ?_⟩
 have HZ:=Hd (bA kc (bA a2 (bA J (jdX a4.lt J))));clear hK K hc kb Z H kc a8 a4 a2 J;refine vS ?_
 refine vD ?_
 refine qDE (fun wd hd=>?_);have HQ:=Hd hd;clear hd;go_wp2_with fail
 go_ret
 obtain⟨kb,_,_⟩:=HS.o
 obtain⟨kc,a2,J,b2⟩:=HZ.o
 have hd:=HQ.o;refine PaTo.mk1 ((a2.keeps hd _ _ _ (fun _ _ e=>e)).mono (fun z A=>?_)) (((kb.mono (fun _ _ e=>e.elim):jac D W X).trans (kc.mono (fun z _ A=>(HD.o z A).1))).trans ((J.trans hd).mono (fun _ _ e=>e.elim)));have a9:=bC (b2 z A) hd.size;rcases A with (A | A) | A
 ·exact .inl (HD.o z A).1
 ·exact .inr ⟨bE kb.size A.1,a9⟩
 ·exact .inr ⟨bE (bE kb.size kc.size) A.1,a9⟩
theorem jsW(n:PA)(h:jar q p < q.size):∀ x t,(p.extract (jar q p) p.size).data.toList=x :: t->(setK (fun _=>.nil) (jao (q.extract (jar q p) q.size)) (jbT (q.extract (jar q p+1) q.size) n) x.toNat).isNil=true:=by
 obtain⟨X,Z,ha,hb,e,A,H⟩:=jgC q.data.toList p.data.toList
 have J:(q.extract (jar q p) q.size).data.toList=X:=by rw[jn2,e];rfl
 have K:(p.extract (jar q p) p.size).data.toList=Z:=by rw[jn2,A];rfl
 have h0:(q.extract (jar q p) q.size).size≠0:=by rw[jaQ];omega
 intro y t hy
 obtain⟨x,s,O⟩:=jd4 h0
 unfold setK;rw[(jcV O).1,if_neg (jnn (Ne.symm (H x s y t (by rw[<-J,O]) (by rw[<-K,hy]))))];rfl
theorem jsV(D:Nat->Prop)(q:vB)(n:PA)(T:TypeId)(x:vV)(Dn:Nat->Prop)(b:Nat)(hB:Blk W b (.cells #[.string q,.iface T x] 381))(hv:PaAt n (.iface T x) Dn W)(hbn:¬ Dn b)(hD:∀ x,Dn x->D x/\x < W.heap.size)(p u:vB)(hq:jaE q=true)(hp:jaE p=true)(hqs:q.size<=900000)(hps:p.size<=900000)(hd:Dp n (900000 - q.size))(hnil:n.isNil=false)(hf:jar q p≠q.size) :
  vQ 292 #[.pointer (some ⟨b,0,none⟩),.string p,.string u] W (PaTo D W (jbT (p.extract 0 (jar q p)) (addK (.br ⟨#[]⟩ (setK (fun _=>.nil) (jao (q.extract (jar q p) q.size)) (jbT (q.extract (jar q p+1) q.size) n))) (p.extract (jar q p) p.size) u))):=by
 have q0:=hB.cell (i:=0) (v:=.string q) vF;have q1:=hB.cell (i:=1) (v:=.iface T x) vF;have Q0:=Hd q0;have Q1:=Hd q1;have HB:=Hd hB;have HV:=Hd hv;have HD:Hid (∀ z,Dn z->D z/\z < W.heap.size):=hD
 obtain⟨c1,c2⟩:=jel q p
 have a0:=fun w=>jeR w q p vO vO;have J:=jsW q p n (show jar q p < q.size by omega)
 obtain⟨m,hm⟩:=vE (jar q p)
 rw[<-hm]at c1 c2 a0 hf J ⊢;have HC:=Hd a0;have d8:=hB.lt;have b5:=Hd (show ¬ W.heap.size<=b from by omega);have c3:m < q.size:=vO
 have c4:jao (q.extract m q.size) < 16:=jgj (jbb hq _ _) (by rw[jaQ];omega);have b6:=jvI c3;have b7:=Hd (bA c4 b6);have c5:=Hd (bA (jbb hp m p.size) (show (p.extract m p.size).size<=900000 by rw[jaQ];omega));have a8:=Hd (bA hnil (bA (show (q.extract (m+1) q.size).size<=900000 by rw[jaQ];omega) hd));have c7:Dp (jbT (q.extract (m+1) q.size) n) (900000 - m - 1):=jfc (jbt _ _ _ hd (by rw[jaQ];omega)) (by rw[jaQ];omega);have c8:Dp (addK (.br ⟨#[]⟩ (setK (fun _=>.nil) (jao (q.extract m q.size)) (jbT (q.extract (m+1) q.size) n))) (p.extract m p.size) u) (900000 - m):=jhl (jhn (jgW ⟨#[]⟩ _) vO c7 _) (by rw[jaQ];omega) _;have c9:(addK (.br ⟨#[]⟩ (setK (fun _=>.nil) (jao (q.extract m q.size)) (jbT (q.extract (m+1) q.size) n))) (p.extract m p.size) u).isNil=false:=by rw[jb8];split <;> rfl
 have d0:=Hd (bA c8 c9);have d9:=Hd J;have a5:(p.extract 0 m).size<=900000:=by rw[dH];omega
 have e0:=Hd a5;have e1:(m:Int)<=(q.size:Int):=vO
 have e2:(m:Int)<=(p.size:Int):=vO
 have e3:(m:Int) < (q.size:Int):=vO
 have e4:(m:Int)+1<=(q.size:Int):=vO
 have e5:((q[m]'c3).toNat:Int) < 16:=by rw[<-b6];omega
 have e6:((m:Int) ==(q.size:Int))=false:=by simp;omega
 clear hB hv hbn hD hq hp hd hf a0 d8 J c4 b6 c7 c8 c9 hnil hm a5;go_enter Tryz.func292,Tryz.ntmps292;go_wp2_with fail
 refine (HC.o _).mono ?_;rintro e w1 ⟨rfl,k,rfl⟩;go_wp2_with fail
 obtain⟨H,a9⟩:=vE W.heap.size
 obtain⟨W2,b0⟩:=vE ((W.drewN k).alloc (.cells #[.string ⟨#[]⟩,.nilIface,.nilIface,.nilIface,.nilIface,.nilIface,.nilIface,.nilIface,.nilIface,.nilIface,.nilIface,.nilIface,.nilIface,.nilIface,.nilIface,.nilIface,.nilIface] 385))
 have d1:Ext W W2:=by rw[b0];exact ((ExtR W).drewN k).alloc _
 have d2:BrAt ⟨#[]⟩ (fun _=>.nil) H (fun _=>.nilIface) (fun _ _=>False) (fun x=>x=H) W2:=by rw[b0,a9];exact juw (Blk.new (W.drewN k) _)
 have d3:W.heap.size<=H:=by rw[a9];exact bL _
 have O:=Hd d1;have b1:=Hd d2;have b2:=Hd d3;rw[<-b0, <-a9];clear a9 b0 d1 d2 d3;refine jau [0,1,2,3,4,5,6,7,8,9,10,11,12,13,14,15,16,17,19,20,18,21,22] [18,22] Ext (jac (fun z=>W.heap.size<=z)) ExtR ExtT (fun x y z h k=>jac.trans h k) (fun x y h=>h.mono (fun _ _ h=>h.elim)) vY vY vY ?_;iterate 2 refine vD ?_
 refine qDV _ ((.pointer (some ⟨b,0,none⟩))) rfl (fun w1 _=>by kernel_rfl) ?_;refine vS ?_
 refine vD ?_
 refine qDL ⟨b,0,none⟩ _ rfl (fun w1 h1=>jag (fun w=>by kernel_rfl) (jai (jaa Q0.o O.o) (((jac.refl (fun z=>W.heap.size<=z) W2).drew).trans h1) (by exact b5.o))) ?_;refine vS ?_;iterate 3 refine vD ?_
 refine qDV _ ((.pointer (some ⟨b,0,none⟩))) rfl (fun w1 _=>by kernel_rfl) ?_;refine vS ?_
 refine vD ?_
 refine qDL ⟨b,0,none⟩ _ rfl (fun w1 h1=>jag (fun w=>by kernel_rfl) (jai (jaa Q0.o O.o) (((jac.refl (fun z=>W.heap.size<=z) W2).drew).trans h1) (by exact b5.o))) ?_;refine vS ?_;iterate 4 refine vD ?_
 refine qDV _ ((.pointer (some ⟨b,0,none⟩))) rfl (fun w1 _=>by kernel_rfl) ?_;refine vS ?_
 refine vD ?_
 refine qDL ⟨b,1,none⟩ _ rfl (fun w1 h1=>jag (fun w=>by kernel_rfl) (jai (jaa Q1.o O.o) (((jac.refl (fun z=>W.heap.size<=z) W2).drew).trans h1) (by exact b5.o))) ?_;refine vS ?_;refine qDV _ ((.pointer (some ⟨H,0,none⟩))) rfl (fun w1 _=>by kernel_rfl) ?_;refine vS ?_
 refine vD ?_
 refine qDH _ rfl (fun wb hb K hK=>?_);have kb:Ext W2 wb:=(jak _).trans hb;have kw:Ext W wb:=O.o.trans kb;refine jaT (jal (vX 288) vY) ((pj_c wb Dn (q.extract (m+1) q.size) n (.iface T x) ⟨HV.o.keeps kw _ _ _ (fun _ _ e=>e),fun z A=>bC (HD.o z A).2 kw.size⟩ a8.o.1 (by have:=a8.o.2.1;omega) (jbt _ _ _ a8.o.2.2 vO)).mono ?_);rintro e w3 ⟨v3,rfl,a1,X⟩
 refine⟨v3,rfl,hK _ _ (X.mono (fun _ _ e=>e.elim)) ?_⟩
 have HS:=Hd (bA kb (bA a1 X));clear hK K hb kb a1 X kw;refine vS ?_
 refine vD ?_
 refine qDH _ rfl (fun wc hc K hK=>?_)
 obtain⟨kb,a1,X⟩:=HS.o
 have b8:=a1.keeps hc _ _ _ (fun _ _ e=>e);have kc:Ext W2 wc:=(kb.trans X).trans hc
 obtain⟨T3,x3,rfl⟩:=b8.form (jc5 a8.o.1)
 have a2:∀ z,Grow Dn wb w3 z->¬ z=H/\z < wc.heap.size:=fun z A=>by
  have h1:=b1.o.lt H rfl;have h2:=b2.o;have h3:=kb.size;have h4:=X.size;have h5:=hc.size;have h6:=O.o.size;rcases A with A | A
  ·have:=(HD.o z A).2;omega
  ·have:=A.1;have:=A.2;omega
 have hg:=(b1.o.keeps kc (fun _ _ e=>e)).give b7.o.1 b8 a2
 obtain⟨old,q7⟩:∃ v,wc.cell? ⟨H,1+jao (q.extract m q.size),none⟩=some v:=⟨_,(b1.o.keeps kc (fun _ _ e=>e)).blk.cellL (bB (by rw[jf2];have:=b7.o.1;omega))⟩
 have f7:wc.frozen? ⟨H,1+jao (q.extract m q.size),none⟩=false:=(b1.o.keeps kc (fun _ _ e=>e)).blk.frozen
 obtain⟨WW,a3⟩:=vE (wc.setCell ⟨H,1+jao (q.extract m q.size),none⟩ (.iface T3 x3))
 rw[<-a3]at hg;have Z:jac (fun z=>z=H) wc WW:=by rw[a3];exact jac.oneSet wc ⟨H,1+jao (q.extract m q.size),none⟩ (.iface T3 x3)
 have HG:=Hd (bA hg (bA Z (bA kc (bA a2 (show ∀ z,Grow Dn wb w3 z->D z\/W.heap.size<=z from fun z A=>A.elim (fun e=>.inl (HD.o z e).1) (fun e=>.inr (bE (bE O.o.size kb.size) e.1)))))));rw[b7.o.2]at q7 f7 a3;clear kb a1 X b8 kc a2 hg hc;go_simp;rw[<-a3];refine hK _ _ (Z.mono (fun z _ e=>by have e:z=H:=e;rw[e];exact b2.o)) ?_;clear hK K q7 f7 a3 Z;refine qDE (fun wd hd=>?_)
 obtain⟨hg,Z,kc,a2,d4⟩:=HG.o
 have d5:=hg.keeps hd (fun _ _ e=>e);have HX:=Hd (bA d5 (show Ext W wd from((O.o.trans kc).trans' Z (fun z A e=>by have e:z=H:=e;have:=b2.o;omega)).trans hd));have HY:Hid (∀ z,(z=H\/Grow Dn wb w3 z)->D z\/W.heap.size<=z):=(fun z A=>A.elim (fun e=>.inr (by rw[e];exact b2.o)) (d4 z));clear hg Z kc a2 d4 d5 hd;go_wp2_with fail
 refine (ji3 wd _ ⟨#[]⟩ _ H HX.o.1.pa (p.extract m p.size) u c5.o.1 c5.o.2 d9.o).mono ?_;rintro e w4 ⟨rfl,d6,b9⟩;have d7:=AddP.br d6 b9 HX.o.1.lt;have a7:jac D W w4:=(HX.o.2.mono (fun _ _ e=>e.elim)).trans' b9 (fun z A e=>by
  rcases HY.o z e with h | h
  ·exact h
  ·omega)
 have b3:=Hd (bA d7 a7);clear d6 b9 d7 a7;unfold brV;go_wp2_with fail
 refine (pj_c w4 _ (p.extract 0 m) _ (brV H) b3.o.1 d0.o.2 (by have:=e0.o;omega) (jbt _ _ _ d0.o.1 vO)).mono ?_;rintro e w5 ⟨v5,rfl,b4,a4⟩;have HZ:=Hd (bA b4 a4);clear b4 a4;go_wp2_with fail
 go_ret
 obtain⟨b4,a4⟩:=HZ.o
 refine PaTo.mk1 (b4.mono (fun z A=>?_)) (b3.o.2.trans (a4.mono (fun _ _ e=>e.elim)));have c0:=jdX b3.o.1.lt a4 z A;rcases A with (A | A) | A
 ·rcases HY.o z A with h | h
  ·exact .inl h
  ·exact .inr ⟨h,c0⟩
 ·exact .inr ⟨bE HX.o.2.size A.1,c0⟩
 ·exact .inr ⟨bE b3.o.2.size A.1,c0⟩
end
def VaP:PA->Prop
 | .nil=>True
 | .no=>True
 | .leaf q _=>jaE q=true
 | .ext q n=>jaE q=true/\VaP n
 | .br _ ks=>∀ i,VaP (ks i)
theorem jgy(ha:jaE a=true)(h:VaP P):VaP (jbT a P):=by
 unfold jbT
 by_cases h0:a.size=0
 ·rw[if_pos h0];exact h
 rw[if_neg h0];cases P with
 | nil=>trivial
 | no=>trivial
 | leaf q v=>exact jk5 ha h
 | ext q n=>exact⟨jk5 ha h.1,h.2⟩
 | br v ks=>exact⟨ha,h⟩
theorem jnr{u:vB}{ks:Nat->PA}(h:VaP (.br v ks))(hP:VaP P):VaP (.br u (setK ks i P)):=by
 intro j;show VaP (setK ks i P j)
 by_cases e:j=i
 ·rw[e,jcr];exact hP
 ·rw[jd3 _ _ e];exact h j
theorem jno{v:vB}{ks:Nat->PA}(h:VaP (.br v ks)){p:vB}(hp:jaE p=true)(u:vB):VaP (addK (.br v ks) p u):=by
 rw[jb8];split
 ·exact h
 ·exact jnr v h (jcA hp)
theorem jnq:VaP (.br v fun _=>.nil):=fun _=>trivial
theorem jrR:∀ (P:PA) (p u:vB),VaP P->jaE p=true->VaP (putP P p u)
 | .nil,p,u,_,hp=>hp
 | .no,p,u,_,hp=>hp
 | .leaf q v,p,u,h,hp=>by
  have h:jaE q=true:=h;unfold putP;split
  ·exact hp
  ·refine jgy (jiZ hp _) ?_
   have e:=jno (jnq ⟨#[]⟩) (jbb h (jar q p) q.size) v;rw[jb8]at e ⊢
   by_cases h0:(q.extract (jar q p) q.size).size=0
   ·rw[if_pos h0]at e ⊢;exact jno e (jbb hp _ _) u
   ·rw[if_neg h0]at e ⊢;exact jno e (jbb hp _ _) u
 | .ext q x,p,u,h,hp=>by
  unfold putP;split
  ·exact jgy h.1 (jrR x _ u h.2 (jbb hp _ _))
  ·exact jgy (jiZ hp _) (jno (jnr ⟨#[]⟩ (jnq _) (jgy (jbb h.1 _ _) h.2)) (jbb hp _ _) u)
 | .br v ks,p,u,h,hp=>by
  unfold putP;split
  ·exact h
  ·exact jnr v h (jrR (ks (jao p)) _ u (h _) (jcA hp))
theorem jnp{v:vB}{ks:Nat->PA}(h:VaP (.br v ks)):VaP (jcG v ks):=by
 have A:∀ i∈idxK ks,i < 16:=fun i hi=>fZ.1 (cI.1 hi).1;unfold jcG;cases e:idxK ks with
 | nil =>
  show VaP (if v.size=0 then PA.no else .leaf ⟨#[]⟩ v);split
  ·trivial
  ·rfl
 | cons i r =>
  cases r with
  | nil =>
   show VaP (if v.size=0 then jbT ⟨#[UInt8.ofNat i]⟩ (ks i)else .br v ks);split
   ·refine jgy ?_ (h i)
    have hi:=A i (by rw[e];exact cJ);rw[jfT];intro x q;have q:x=UInt8.ofNat i:=by simpa using q
    rw[q,jtD hi];exact hi
   ·exact h
  | cons j r=>exact h
theorem jlT:∀ (P:PA) (p:vB),VaP P->VaP (jbh P p)
 | .nil,_,_=>trivial
 | .no,_,_=>trivial
 | .leaf q v,p,h=>by
  unfold jbh;split
  ·trivial
  ·exact h
 | .ext q x,p,h=>by
  unfold jbh;split
  ·exact jgy h.1 (jlT x _ h.2)
  ·exact h
 | .br v ks,p,h=>by
  unfold jbh;split
  ·exact jnp (v:=⟨#[]⟩) h
  ·split
   ·exact h
   ·refine jnp (jnr v h ?_)
    have:=jlT (ks (jao p)) (jbc p) (h _)
    unfold unNo;split
    ·trivial
    ·exact this
theorem jlE:∀ (P:PA),VaP P->PutC P
 | .nil,_=>fun W T x D p u h _ _ _=>by cases h.at'
 | .no,_=>fun W T x D p u h _ _ _=>by
  have e:Value.iface T x=noV:=h.at';unfold noV at e;injection e with e1 e2;subst e1 e2;exact jq5 W D p u
 | .leaf q v,hv=>fun W T x D p u h J K A=>by
  obtain⟨b,e,h1,O⟩:=h.at'
  unfold jh4 at e;injection e with e1 e2;subst e1 e2
  by_cases hpq:p=q
  ·subst hpq
   show Calls _ _ _ W (PaTo D W (putP (.leaf p v) p u));unfold putP;rw[if_pos rfl];exact jqF W D p v u b O
  ·exact joi W D q v p u b O hpq hv K A J
 | .ext q n,hv=>fun W T x D p u h J K A=>by
  obtain⟨b,T',x',Z,e,h1,O,h3,h4,h5⟩:=h.at'
  unfold extV at e;injection e with e1 e2;subst e1 e2;have H:n.isNil=false:=by
   cases n with
   | nil=>cases h3
   | _=>rfl
  have X:∀ z,Z z->D z/\z < W.heap.size:=fun z hz=>⟨h5 z hz,h.lt z (h5 z hz)⟩
  by_cases hf:jar q p=q.size
  ·have:=jvy W D q n T' x' Z b O h3 h4 X p u hv.1 K A.1 J (jbt _ _ _ A.2 vO) (jlE n hv.2) H hf
   show Calls _ _ _ W (PaTo D W (putP (.ext q n) p u));unfold putP;rw[if_pos hf,hf];exact this
  ·have:=jsV W D q n T' x' Z b O h3 h4 X p u hv.1 K A.1 J A.2 H hf
   show Calls _ _ _ W (PaTo D W (putP (.ext q n) p u));unfold putP;rw[if_neg hf];exact this
 | .br v ks,hv=>fun W T x D p u h J K A=>by
  obtain⟨b,vk,Dk,e,_⟩:=h.at'
  have e0:=e;unfold brV at e;injection e with e1 e2;subst e1 e2;show Calls _ _ _ W (PaTo D W (putP (.br v ks) p u));unfold putP
  by_cases h0:p.size=0
  ·rw[if_pos h0,ja5 h0]
   exact (jl6 W D v u ks b h).mono fun e w' h=>h.2
  ·rw[if_neg h0]
   cases hk:(ks (jao p)).isNil with
   | true =>
    rw[jcW hk];exact (jl5 W D v u ks b h p h0 K J hk).mono fun e w' h=>h.2
   | false =>
    have a0:=A (jao p) hk;exact (jss W D v u ks b h p h0 K J hk (jbt _ _ _ a0.2 vO) (jlE (ks (jao p)) (hv _))).mono fun e w' h=>h.2
section
attribute [local go_sem] Oper.semAt_some
def cutV(s p:vB):vV:=if preB p s then .tuple #[.string (s.extract p.size s.size),.bool true]else .tuple #[.string s,.bool false]
theorem jka(hs:s.size<=1000000)(hp:p.size<=1000000):vQ 236 #[.string s,.string p] w fun e w'=>e=.returned (cutV s p)/\w'=w:=by
 unfold cutV;cases hb:preB p s with
 | true =>
  have A:=jtT hb;have H:(p.size:Int)<=(s.size:Int):=vO
  have q:=Hd hb;clear hb;unfold vQ;go_in;go_wp2_with fail
  refine (jjx w s p hs hp).mono ?_;rintro e w1 ⟨rfl,rfl⟩;rw[q.o];go_wp2_with fail
  go_ret2
  exact⟨rfl,rfl⟩
 | false =>
  have q:=Hd hb;clear hb;unfold vQ;go_in;go_wp2_with fail
  refine (jjx w s p hs hp).mono ?_;rintro e w1 ⟨rfl,rfl⟩;rw[q.o];go_wp2_with fail
  go_ret2
  exact⟨rfl,rfl⟩
theorem jhk(hs:s.size<=1000000)(hp:p.size<=1000000):vQ 225 #[.string s,.string p] w fun e w'=>e=.returned (cutV s p)/\w'=w:=by
 have H:=Hd (jka w s p hs hp);unfold cutV at *;cases hb:preB p s with
 | true =>
  rw[hb,if_pos rfl]at H;rw[if_pos rfl];clear hb;unfold vQ;go_in;go_wp2_with fail
  refine H.o.mono ?_;rintro e w1 ⟨rfl,rfl⟩;go_wp2_with fail
  go_ret2
  exact⟨rfl,rfl⟩
 | false =>
  rw[hb,if_neg ff]at H;rw[if_neg ff];clear hb;unfold vQ;go_in;go_wp2_with fail
  refine H.o.mono ?_;rintro e w1 ⟨rfl,rfl⟩;go_wp2_with fail
  go_ret2
  exact⟨rfl,rfl⟩
def jr2(P:PA):Prop:=∀ (W:vW) (T:TypeId) (x:vV) (D:Nat->Prop) (p:vB),PaO P (.iface T x) D W->p.size<=900000->jaE p=true->Dp P 900000 ->
 vQ (jey P) #[x,.string p] W (PaTo D W (jbh P p))
theorem jtK(D:Nat->Prop)(p:vB):vQ 297 #[.agg #[],.string p] W (PaTo D W .no):=by
 unfold vQ;go_in;go_wp2_with fail
 go_ret;exact PaTo.mk1 rfl (((ExtR W).alloc _).mono (fun _ _ e=>e.elim))
theorem jvP(D:Nat->Prop)(q v p:vB)(b:Nat)(hB:Blk W b (.cells #[.string q,.string v] 378))(hD:D b):vQ 283 #[.pointer (some ⟨b,0,none⟩),.string p] W (PaTo D W (jbh (.leaf q v) p)):=by
 have K:=hB.cell (i:=0) (v:=.string q) vF;have H:=Hd hB;have J:=Hd hD;have A:jbh (.leaf q v) p=if p=q then .no else .leaf q v:=rfl
 rw[A];clear hB hD A
 by_cases hpq:p=q
 ·rw[if_pos hpq]
  have e:(p.toList == q.toList)=true:=by rw[jjl];exact decide_eq_true hpq
  clear hpq;unfold vQ;go_in;go_wp2_with fail
  go_ret;exact PaTo.mk1 rfl (jac.refl _ W)
 ·rw[if_neg hpq]
  have e:(p.toList == q.toList)=false:=by rw[jjl];exact decide_eq_false hpq
  clear hpq;unfold vQ;go_in;go_wp2_with fail
  go_ret;exact PaTo.mk1 ⟨b,rfl,.inl J.o,H.o⟩ (jac.refl _ W)
theorem jdC:∀ (P:PA) (p:vB),(jbh P p).isNil=false
 | .nil,_=>rfl
 | .no,_=>rfl
 | .leaf q v,p=>by
  unfold jbh;split <;> rfl
 | .ext q n,p=>by
  unfold jbh;split
  ·exact jc5 (jdC n _)
  ·rfl
 | .br v ks,p=>by
  have A:∀ v ks,(jcG v ks).isNil=false:=by
   intro v ks;have H:∀ i∈idxK ks,(ks i).isNil=false:=fun i hi=>by
    have:=(cI.1 hi).2
    simpa using this
   unfold jcG;cases e:idxK ks with
   | nil =>
    show (if v.size=0 then PA.no else .leaf ⟨#[]⟩ v).isNil=false;split <;> rfl
   | cons i r =>
    cases r with
    | nil =>
     show (if v.size=0 then jbT ⟨#[UInt8.ofNat i]⟩ (ks i)else .br v ks).isNil=false;split
     ·exact jc5 (H i (by rw[e];exact cJ))
     ·rfl
    | cons j r=>rfl
  unfold jbh;split
  ·exact A _ _
  ·split
   ·rfl
   ·exact A _ _
theorem jsT(D:Nat->Prop)(q:vB)(n:PA)(T:TypeId)(x:vV)(Dn:Nat->Prop)(b:Nat)(hB:Blk W b (.cells #[.string q,.iface T x] 381))(hDb:D b)(hv:PaAt n (.iface T x) Dn W)(hbn:¬ Dn b)(hD:∀ x,Dn x->D x/\x < W.heap.size)(p:vB)(hp:jaE p=true)(hqs:q.size<=900000)(hps:p.size<=900000)(hf:preB q p=false):vQ 289 #[.pointer (some ⟨b,0,none⟩),.string p] W (PaTo D W (.ext q n)):=by
 have J:=hB.cell (i:=0) (v:=.string q) vF;have K:=hB.cell (i:=1) (v:=.iface T x) vF;have Q0:=Hd J;have Q1:=Hd K;have O:=Hd hB;have X:=Hd hv;have Z:Hid (∀ z,Dn z->D z/\z < W.heap.size):=hD;have H:=Hd (bA hDb hbn);have A:=jhk W p q vO vO;unfold cutV at A;rw[hf,if_neg ff]at A;have HC:=Hd A;clear hB hDb hv hbn hD hp hf A;unfold vQ;go_in;go_wp2_with fail
 refine HC.o.mono ?_;rintro e w1 ⟨rfl,rfl⟩;go_wp2_with fail
 go_ret;exact PaTo.mk1 ⟨b,T,x,Dn,rfl,.inl H.o.1,O.o,X.o,H.o.2,fun z hz=>.inl (Z.o z hz).1⟩ (jac.refl _ _)
theorem jsS(D:Nat->Prop)(q:vB)(n:PA)(T:TypeId)(x:vV)(Dn:Nat->Prop)(b:Nat)(hB:Blk W b (.cells #[.string q,.iface T x] 381))(hDb:D b)(hv:PaAt n (.iface T x) Dn W)(hbn:¬ Dn b)(hD:∀ x,Dn x->D x/\x < W.heap.size)(p:vB)(hp:jaE p=true)(hqs:q.size<=900000)(hps:p.size<=900000)(Z:Dp n 900000)(hk:jr2 n)(hf:preB q p=true) :
  vQ 289 #[.pointer (some ⟨b,0,none⟩),.string p] W (PaTo D W (jbT q (jbh n (p.extract q.size p.size)))):=by
 have q0:=hB.cell (i:=0) (v:=.string q) vF;have q1:=hB.cell (i:=1) (v:=.iface T x) vF;have Q0:=Hd q0;have Q1:=Hd q1;have HB:=Hd hB;have HV:=Hd hv;have HD:Hid (∀ z,Dn z->D z/\z < W.heap.size):=hD;have a2:=jhk W p q vO vO;unfold cutV at a2;rw[hf,if_pos rfl]at a2;have HC:=Hd a2;have b0:=hB.lt;have a5:=Hd (show ¬(Dn b\/W.heap.size<=b)from fun e=>e.elim hbn (fun e=>by omega));have a1:jaE (p.extract q.size p.size)=true:=jbb hp _ _;have a7:(p.extract q.size p.size).size<=900000:=by rw[jaQ];omega
 have HM:=Hd hv.meth;have a0:=Hd (show ∀ O,Ext W O->vQ (jey n) #[x,.string (p.extract q.size p.size)] O (PaTo Dn O (jbh n (p.extract q.size p.size)))from fun O e=>hk O T x Dn _ ⟨hv.keeps e _ _ _ (fun _ _ e=>e),fun z A=>bC (hD z A).2 e.size⟩ a7 a1 Z);have b1:Hid (Dp (jbh n (p.extract q.size p.size)) 1000000):=(jbt _ _ _ (jhm n 900000 _ Z) vO);clear hB hDb hv hbn hD hp Z hk hf a1 a7 a2 b0;go_enter Tryz.func289,Tryz.ntmps289;go_wp2_with fail
 refine HC.o.mono ?_;rintro e Wk ⟨rfl,rfl⟩;go_wp2_with fail
 refine jau [0,1,2,3,4,5,6,7,8,9,10,11] [9,10] Ext (jac (fun z=>Dn z\/Wk.heap.size<=z)) ExtR ExtT (fun x y z h k=>jac.trans h k) (fun x y h=>h.mono (fun _ _ h=>h.elim)) vY vY vY ?_
 refine vD ?_
 refine qDV _ ((.pointer (some ⟨b,0,none⟩))) rfl (fun w1 _=>by kernel_rfl) ?_;refine vS ?_
 refine vD ?_
 refine qDL ⟨b,0,none⟩ _ rfl (fun w1 h1=>jag (fun w=>by kernel_rfl) (jai Q0.o (((jac.refl (fun z=>Dn z\/Wk.heap.size<=z) Wk).drew).trans h1) (by exact a5.o))) ?_;refine vS ?_
 refine vD ?_
 refine qDV _ ((.pointer (some ⟨b,0,none⟩))) rfl (fun w1 _=>by kernel_rfl) ?_;refine vS ?_
 refine vD ?_
 refine qDL ⟨b,1,none⟩ _ rfl (fun w1 h1=>jag (fun w=>by kernel_rfl) (jai Q1.o (((jac.refl (fun z=>Dn z\/Wk.heap.size<=z) Wk).drew).trans h1) (by exact a5.o))) ?_;refine vS ?_
 refine vD ?_
 refine qDH _ rfl (fun O hb K hK=>?_);have kb:Ext Wk O:=((ExtR Wk).drew).trans hb;refine jaT (jcg (f:=jey n) (vs:=#[.string (p.extract q.size p.size)]) rfl (HM.o.drop _) (jeT _) vY) ?_;refine (a0.o O kb).mono ?_;rintro e w2 ⟨v2,rfl,X,H⟩
 refine⟨v2,rfl,hK _ _ (H.mono (fun z _ A=>.inl A)) ?_⟩
 have HS:=Hd (bA kb (bA X H));clear hK K hb kb X H;refine vS ?_;refine qDH _ rfl (fun wc hc K hK=>?_)
 obtain⟨kb,X,H⟩:=HS.o
 have kc:jac Dn O wc:=H.trans (hc.mono (fun _ _ e=>e.elim));have a8:PaAt (jbh n (p.extract q.size p.size)) v2 (Grow Dn O wc) wc:=(X.keeps hc _ _ _ (fun _ _ e=>e)).mono (fun z A=>A.imp id (fun e=>⟨e.1,bC e.2 hc.size⟩));have a4:=PaTo.own a8 kc (fun z A=>bC (HD.o z A).2 kb.size);refine jaT (jal (vX 288) vY) ((pj_c wc _ q _ v2 a4 (jdC _ _) vO b1.o).mono ?_);rintro e w5 ⟨v5,rfl,a3,J⟩
 refine⟨v5,rfl,hK _ _ (J.mono (fun _ _ e=>e.elim)) ?_⟩
 have HZ:=Hd (bA kc (bA a3 (bA J (jdX a4.lt J))));clear hK K hc kb X H kc a8 a4 a3 J;refine vS ?_
 refine vD ?_
 refine qDE (fun wd Z=>?_);have HQ:=Hd Z;clear Z;go_wp2_with fail
 go_ret
 obtain⟨kb,_,_⟩:=HS.o
 obtain⟨kc,a3,J,b2⟩:=HZ.o
 have Z:=HQ.o;refine PaTo.mk1 ((a3.keeps Z _ _ _ (fun _ _ e=>e)).mono (fun z A=>?_)) (((kb.mono (fun _ _ e=>e.elim):jac D Wk O).trans (kc.mono (fun z _ A=>(HD.o z A).1))).trans ((J.trans Z).mono (fun _ _ e=>e.elim)));have a9:=bC (b2 z A) Z.size;rcases A with (A | A) | A
 ·exact .inl (HD.o z A).1
 ·exact .inr ⟨bE kb.size A.1,a9⟩
 ·exact .inr ⟨bE (bE kb.size kc.size) A.1,a9⟩
theorem Tryz.uKids:Tryz.prog.underlying 383=some (.array 16 239):=vY
theorem Tryz.iKids:(Tryz.prog.info? 383).map (·.size)=some 16:=vY
theorem Tryz.partOne:(Tryz.prog.info? 239).map (·.size)=some 1:=vY
theorem Tryz.partAgg:(isAgg 239).run Tryz.prog w=.ok false w:=vY
def job(vk:Nat->vV):List vV:=(List.range 16).map vk
theorem jto(h:i < 16):(job vk)[i]?=some (vk i):=by
 unfold job;rw[bV,fF h];rfl
theorem jaX{W:vW}{u:vB}{vk:Nat->vV}(hB:Blk W b (.cells (brC u vk).toArray 385)):(Instr.loadAt 383 (.pointer (some ⟨b,1,none⟩))).run Tryz.prog W=.ok (.agg (job vk).toArray) W:=by
 have e:W.rangeAt b 1 (job vk):=fun j v A=>hB.cellL (by rw[iL];exact A);have q:=run_loadVar_mid (P:=Tryz.prog) W b 1 383 _ _ e Tryz.uKids rfl (by unfold job;simp only[bS,gP];exact Tryz.iKids);simp[Instr.loadAt,Instr.sureAddr,bK,Result.andThen,q]
theorem jd2(h:i < 16)(w:vW):(Instr.index 383 (.agg (job vk).toArray) (.int .i64 (i:Int))).run Tryz.prog w=.ok (vk i) w:=
 jcZ Tryz.uKids Tryz.partOne Tryz.partAgg _ i h _ (jto vk h) w
theorem jcY(T:TypeId)(x:vV)(w:vW):(binOp .neq 239 (.iface T x) .nilIface).run Tryz.prog w=.ok (.bool true) w:=vY
theorem jjm:(binOp .neq 239 .nilIface .nilIface).run Tryz.prog w=.ok (.bool false) w:=vY
def idxN(ks:Nat->PA)(k:Nat):List Nat:=(List.range k).filter fun i => !(ks i).isNil
theorem jev(k:Nat):idxN ks (k+1)=idxN ks k++(if (ks k).isNil then []else [k]):=by
 unfold idxN;rw[gI,List.filter_append]
 congr 1
 cases h:(ks k).isNil <;> simp[h]
theorem PaAt.kid{v:vV}{W:vW}(h:PaAt P v D W):(P.isNil=true/\v=.nilIface)\/(P.isNil=false/\∃ T x,v=.iface T x):=by
 cases hn:P.isNil with
 | true=>rw[jcW hn]at h;exact .inl ⟨rfl,h⟩
 | false=>exact .inr ⟨rfl,h.form hn⟩
def joL(ks:Nat->PA)(W:vW)(cv ov iv:vV)(wr:vW):Prop:=∃ (k c o:Nat),k<=16/\iv=.int .i64 (k:Int)/\cv=.int .i64 (c:Int)/\ov=.int .i64 (o:Int)/\wr=W/\c=(idxN ks k).length/\o=(idxN ks k).getLast?.getD 0
theorem jof(D:Nat->Prop)(v:vB)(ks:Nat->PA)(b:Nat)(h:PaO (.br v ks) (brV b) D wr)(hi:idxK ks=[])(hv:v.size=0) :
  vQ 296 #[.pointer (some ⟨b,0,none⟩)] wr (PaTo D wr .no):=by
 obtain⟨vk,Dk,hb⟩:=h.br
 have K:=jaX hb.blk;have q0:=hb.blk.cellL (i:=0) (v:=.string v) vF;have H:=Hd hb;have a1:(⟨#[]⟩:vB).toList.isEmpty=true:=by rw[bR];rfl
 obtain⟨W,hW⟩:=vE wr
 have Z:=ja5 hv;subst Z;have HI:=Hd hi;clear h hb hi hv;rw[<-hW]at K q0 H ⊢;clear hW;go_enter Tryz.func296,Tryz.ntmps296;go_wp2_with (refine jaf 383 (.tmp 9) rfl rfl _ _ rfl K ?_)
 go_loopw [3,4,11] (fun cv ov iv wr=>joL ks W cv ov iv wr) (fun _ _ iv _=>16 - (intOf iv).toNat)
 case atStart=>exact⟨0,0,0,by omega,rfl,rfl,rfl,rfl,rfl,rfl⟩
 case round =>
  obtain⟨k,c,o,hk,rfl,rfl,rfl,rfl,J,O⟩:=hrel
  by_cases hlt:k < 16
  ·have X:=jd2 vk hlt
   have e:=jev ks k;have a2:c<=16:=by rw[J];exact bE (dU _ _) (by rw[gP];omega)
   have q:=Hd (bA J O);rcases (H.o.kid k hlt).1.kid with⟨hn,hv⟩ |⟨hn,T,x,hv⟩
   ·rw[hn,if_pos rfl,cA]at e
    rw[hv]at X;have A:=Hd e;clear e J O hn hv;go_wp2;go_roundw
    case rel=>exact⟨k+1,c,o,by omega,by go_num,rfl,rfl,rfl,by rw[A.o];exact q.o.1,by rw[A.o];exact q.o.2⟩
    case measure=>exact vJ
   ·rw[hn,if_neg ff]at e
    rw[hv]at X;have hq:=jcY T x;have A:=Hd e;clear e J O hn hv;go_wp2;go_roundw
    case rel=>exact⟨k+1,c+1,k,by omega,by go_num,by go_num,rfl,rfl,by rw[A.o,bI, <-q.o.1];rfl,by rw[A.o];simp⟩
    case measure=>exact vJ
  ·obtain rfl:k=16:=vO
   have q:=Hd (bA J O);clear J O;have a0:c=0:=by rw[q.o.1];show (idxK ks).length=0;rw[HI.o];rfl
   subst a0;go_wp2_with fail
   go_ret;exact PaTo.mk1 rfl (jac.refl _ _)
theorem joe(D:Nat->Prop)(v:vB)(ks:Nat->PA)(b:Nat)(h:PaO (.br v ks) (brV b) D wr)(hi:idxK ks=[])(hv:v.size≠0) :
  vQ 296 #[.pointer (some ⟨b,0,none⟩)] wr (PaTo D wr (.leaf ⟨#[]⟩ v)):=by
 obtain⟨vk,Dk,hb⟩:=h.br
 have O:=jaX hb.blk;have q0:=hb.blk.cellL (i:=0) (v:=.string v) vF;have H:=Hd hb;have a1:(⟨#[]⟩:vB).toList.isEmpty=true:=by rw[bR];rfl
 have a2:=jcy hv;clear hv
 obtain⟨W,hW⟩:=vE wr
 have HI:=Hd hi;rw[<-hW]at O q0 H ⊢;clear h hb hi hW;go_enter Tryz.func296,Tryz.ntmps296;go_wp2_with (refine jaf 383 (.tmp 9) rfl rfl _ _ rfl O ?_)
 go_loopw [3,4,11] (fun cv ov iv wr=>joL ks W cv ov iv wr) (fun _ _ iv _=>16 - (intOf iv).toNat)
 case atStart=>exact⟨0,0,0,by omega,rfl,rfl,rfl,rfl,rfl,rfl⟩
 case round =>
  obtain⟨k,c,o,hk,rfl,rfl,rfl,rfl,K,X⟩:=hrel
  by_cases hlt:k < 16
  ·have Z:=jd2 vk hlt
   have q:=jev ks k;have a3:c<=16:=by rw[K];exact bE (dU _ _) (by rw[gP];omega)
   have A:=Hd (bA K X);rcases (H.o.kid k hlt).1.kid with⟨hn,hv⟩ |⟨hn,T,x,hv⟩
   ·rw[hn,if_pos rfl,cA]at q
    rw[hv]at Z;have J:=Hd q;clear q K X hn hv;go_wp2;go_roundw
    case rel=>exact⟨k+1,c,o,by omega,by go_num,rfl,rfl,rfl,by rw[J.o];exact A.o.1,by rw[J.o];exact A.o.2⟩
    case measure=>exact vJ
   ·rw[hn,if_neg ff]at q
    rw[hv]at Z;have hq:=jcY T x;have J:=Hd q;clear q K X hn hv;go_wp2;go_roundw
    case rel=>exact⟨k+1,c+1,k,by omega,by go_num,by go_num,rfl,rfl,by rw[J.o,bI, <-A.o.1];rfl,by rw[J.o];simp⟩
    case measure=>exact vJ
  ·obtain rfl:k=16:=vO
   have A:=Hd (bA K X);clear K X;have a0:c=0:=by rw[A.o.1];show (idxK ks).length=0;rw[HI.o];rfl
   subst a0;go_wp2_with fail
   go_ret;have hB:=Blk.new wr (.cells #[.string ⟨#[]⟩,.string v] 378);exact PaTo.mk1 ⟨_,rfl,.inr ⟨bL _,hB.lt⟩,hB⟩ (((ExtR wr).alloc _).mono (fun _ _ e=>e.elim))
theorem jlx(D:Nat->Prop)(v:vB)(ks:Nat->PA)(b:Nat)(h:PaO (.br v ks) (brV b) D wr)(i:Nat)(hi:idxK ks=[i])(hv:v.size≠0) :
  vQ 296 #[.pointer (some ⟨b,0,none⟩)] wr (PaTo D wr (.br v ks)):=by
 obtain⟨vk,Dk,hb⟩:=h.br
 have K:=jaX hb.blk;have q0:=hb.blk.cellL (i:=0) (v:=.string v) vF;have H:=Hd hb;have a1:(⟨#[]⟩:vB).toList.isEmpty=true:=by rw[bR];rfl
 have a2:=jcy hv;clear hv
 obtain⟨W,hW⟩:=vE wr
 have HI:=Hd hi;rw[<-hW]at K q0 H ⊢;clear h hb hi hW;go_enter Tryz.func296,Tryz.ntmps296;go_wp2_with (refine jaf 383 (.tmp 9) rfl rfl _ _ rfl K ?_)
 go_loopw [3,4,11] (fun cv ov Z wr=>joL ks W cv ov Z wr) (fun _ _ Z _=>16 - (intOf Z).toNat)
 case atStart=>exact⟨0,0,0,by omega,rfl,rfl,rfl,rfl,rfl,rfl⟩
 case round =>
  obtain⟨k,c,o,hk,rfl,rfl,rfl,rfl,J,O⟩:=hrel
  by_cases hlt:k < 16
  ·have X:=jd2 vk hlt
   have e:=jev ks k;have a3:c<=16:=by rw[J];exact bE (dU _ _) (by rw[gP];omega)
   have q:=Hd (bA J O);rcases (H.o.kid k hlt).1.kid with⟨hn,hv⟩ |⟨hn,T,x,hv⟩
   ·rw[hn,if_pos rfl,cA]at e
    rw[hv]at X;have A:=Hd e;clear e J O hn hv;go_wp2;go_roundw
    case rel=>exact⟨k+1,c,o,by omega,by go_num,rfl,rfl,rfl,by rw[A.o];exact q.o.1,by rw[A.o];exact q.o.2⟩
    case measure=>exact vJ
   ·rw[hn,if_neg ff]at e
    rw[hv]at X;have hq:=jcY T x;have A:=Hd e;clear e J O hn hv;go_wp2;go_roundw
    case rel=>exact⟨k+1,c+1,k,by omega,by go_num,by go_num,rfl,rfl,by rw[A.o,bI, <-q.o.1];rfl,by rw[A.o];simp⟩
    case measure=>exact vJ
  ·obtain rfl:k=16:=vO
   have q:=Hd (bA J O);clear J O;have a0:c=1:=by rw[q.o.1];show (idxK ks).length=1;rw[HI.o];rfl
   subst a0;go_wp2_with fail
   go_ret;exact PaTo.mk1 (H.o.pa.at'.mono (fun x hx=>.inl hx)) (jac.refl _ _)
theorem jly(D:Nat->Prop)(v:vB)(ks:Nat->PA)(b:Nat)(h:PaO (.br v ks) (brV b) D wr)(hi:2<=(idxK ks).length) :
  vQ 296 #[.pointer (some ⟨b,0,none⟩)] wr (PaTo D wr (.br v ks)):=by
 obtain⟨vk,Dk,hb⟩:=h.br
 have K:=jaX hb.blk;have q0:=hb.blk.cellL (i:=0) (v:=.string v) vF;have H:=Hd hb;have a1:(⟨#[]⟩:vB).toList.isEmpty=true:=by rw[bR];rfl
 obtain⟨W,hW⟩:=vE wr
 have HI:=Hd hi;rw[<-hW]at K q0 H ⊢;clear h hb hi hW;go_enter Tryz.func296,Tryz.ntmps296;go_wp2_with (refine jaf 383 (.tmp 9) rfl rfl _ _ rfl K ?_)
 go_loopw [3,4,11] (fun cv ov Z wr=>joL ks W cv ov Z wr) (fun _ _ Z _=>16 - (intOf Z).toNat)
 case atStart=>exact⟨0,0,0,by omega,rfl,rfl,rfl,rfl,rfl,rfl⟩
 case round =>
  obtain⟨k,c,o,hk,rfl,rfl,rfl,rfl,J,O⟩:=hrel
  by_cases hlt:k < 16
  ·have X:=jd2 vk hlt
   have e:=jev ks k;have a2:c<=16:=by rw[J];exact bE (dU _ _) (by rw[gP];omega)
   have q:=Hd (bA J O);rcases (H.o.kid k hlt).1.kid with⟨hn,hv⟩ |⟨hn,T,x,hv⟩
   ·rw[hn,if_pos rfl,cA]at e
    rw[hv]at X;have A:=Hd e;clear e J O hn hv;go_wp2;go_roundw
    case rel=>exact⟨k+1,c,o,by omega,by go_num,rfl,rfl,rfl,by rw[A.o];exact q.o.1,by rw[A.o];exact q.o.2⟩
    case measure=>exact vJ
   ·rw[hn,if_neg ff]at e
    rw[hv]at X;have hq:=jcY T x;have A:=Hd e;clear e J O hn hv;go_wp2;go_roundw
    case rel=>exact⟨k+1,c+1,k,by omega,by go_num,by go_num,rfl,rfl,by rw[A.o,bI, <-q.o.1];rfl,by rw[A.o];simp⟩
    case measure=>exact vJ
  ·obtain rfl:k=16:=vO
   have q:=Hd (bA J O);clear J O;have a0:2<=c:=by rw[q.o.1];exact HI.o
   have g0:((c:Int) == 0)=false:=by simp;omega
   have g1:((c:Int) == 1)=false:=by simp;omega
   clear a0;go_wp2_with fail
   go_ret;exact PaTo.mk1 (H.o.pa.at'.mono (fun x hx=>.inl hx)) (jac.refl _ _)
theorem jqz(D:Nat->Prop)(v:vB)(ks:Nat->PA)(b:Nat)(h:PaO (.br v ks) (brV b) D wr)(i:Nat)(hi:idxK ks=[i])(hv:v.size=0)(hd:Dp (.br v ks) 900000) :
  vQ 296 #[.pointer (some ⟨b,0,none⟩)] wr (PaTo D wr (jbT (nib1 i) (ks i))):=by
 obtain⟨vk,Dk,hb⟩:=h.br
 have a4:=jaX hb.blk;have q0:=hb.blk.cellL (i:=0) (v:=.string v) vF;have H:=Hd hb;have b6:(⟨#[]⟩:vB).toList.isEmpty=true:=by rw[bR];rfl
 have b0:=ja5 hv;subst b0;have b1:=Hd hd;clear hv hd
 obtain⟨W,hW⟩:=vE wr
 have HI:=Hd hi;rw[<-hW]at a4 q0 H ⊢;clear h hb hi hW;go_enter Tryz.func296,Tryz.ntmps296;go_wp2_with (refine jaf 383 (.tmp 9) rfl rfl _ _ rfl a4 ?_)
 go_loopw [3,4,11] (fun cv ov iv wr=>joL ks W cv ov iv wr) (fun _ _ iv _=>16 - (intOf iv).toNat)
 case atStart=>exact⟨0,0,0,by omega,rfl,rfl,rfl,rfl,rfl,rfl⟩
 case round =>
  obtain⟨k,c,o,hk,rfl,rfl,rfl,rfl,hc,ho⟩:=hrel
  by_cases hlt:k < 16
  ·have a9:=jd2 vk hlt
   have J:=jev ks k;have b7:c<=16:=by rw[hc];exact bE (dU _ _) (by rw[gP];omega)
   have O:=Hd (bA hc ho);rcases (H.o.kid k hlt).1.kid with⟨hn,hv⟩ |⟨hn,T,x,hv⟩
   ·rw[hn,if_pos rfl,cA]at J
    rw[hv]at a9;have X:=Hd J;clear J hc ho hn hv;go_wp2;go_roundw
    case rel=>exact⟨k+1,c,o,by omega,by go_num,rfl,rfl,rfl,by rw[X.o];exact O.o.1,by rw[X.o];exact O.o.2⟩
    case measure=>exact vJ
   ·rw[hn,if_neg ff]at J
    rw[hv]at a9;have hq:=jcY T x;have X:=Hd J;clear J hc ho hn hv;go_wp2;go_roundw
    case rel=>exact⟨k+1,c+1,k,by omega,by go_num,by go_num,rfl,rfl,by rw[X.o,bI, <-O.o.1];rfl,by rw[X.o];simp⟩
    case measure=>exact vJ
  ·obtain rfl:k=16:=vO
   have O:=Hd (bA hc ho);clear hc ho;have b2:c=1:=by rw[O.o.1];show (idxK ks).length=1;rw[HI.o];rfl
   have a5:o=i:=by rw[O.o.2];show (idxK ks).getLast?.getD 0=i;rw[HI.o];rfl
   subst b2;have a1:i∈idxK ks:=by rw[HI.o];exact cJ
   have q:i < 16:=fZ.1 (cI.1 a1).1;have Z:(ks i).isNil=false:=by have:=(cI.1 a1).2;simpa using this
   rw[<-a5]at a1 q Z;have b3:=Hd a5;have A:=H.o.kid o q
   obtain⟨T,x,a7⟩:=A.1.form Z
   have qk:=H.o.blk.cellL (jdR ⟨#[]⟩ vk q);rw[a7]at qk;have QK:=Hd qk;have a2:=Hd (show PaAt (ks o) (.iface T x) (Dk o) wr/\(∀ z,Dk o z->z < wr.heap.size)/\(ks o).isNil=false/\Dp (ks o) 1000000 from⟨by rw[<-a7];exact A.1,fun z hz=>H.o.lt z (A.2.2 z hz),Z,jbt _ _ _ (b1.o o Z).2 vO⟩);have b4:=Hd A.2.2;have a8:o < 16:=q;have c1:(o:Int) < 16:=vO
   have c2:(o:Int) < 256:=vO
   clear a1 q Z A a7 qk a5 a4;go_wp2_with fail
   refine jaj [0,1,4,5,6,7,8,9,2,3,10,11] (Ext) ExtR ExtT vY vY vY ?_;iterate 4 refine vK ?_
   refine qKV _ ((.pointer (some ⟨b,0,none⟩))) rfl (fun w1 _=>by kernel_rfl) ?_;refine vS ?_;iterate 2 refine vK ?_
   refine qKL ⟨b,1+o,none⟩ _ rfl (fun w1 h1=>jag (fun w=>by kernel_rfl) (jaa (jaa QK.o (jak _)) h1)) ?_;refine vS ?_;refine jcH _ rfl vY rfl (fun w2 he K hK=>?_);have b5:=Hd (show Ext wr w2 from(jak _).trans he);clear he;go_simp;refine hK _ _ ((jac.refl _ w2).alloc _) ?_;clear hK K;refine qKV _ (.string (nib1 o)) rfl (fun w3 h3=>jja vY h3 (fun e=>e) a8) ?_;refine vS ?_;refine jcH _ rfl vY rfl (fun wc hc K hK=>?_);have kc:Ext wr wc:=(b5.o.alloc _).trans hc;refine jaT (jal (vX 288) vY) ((pj_c wc (Dk o) (nib1 o) (ks o) (.iface T x) ⟨a2.o.1.keeps kc _ _ _ (fun _ _ e=>e),fun z hz=>bC (a2.o.2.1 z hz) kc.size⟩ a2.o.2.2.1 (by show 1<=_;omega) a2.o.2.2.2).mono ?_);rintro e w5 ⟨v5,rfl,a3,a0⟩
   refine⟨v5,rfl,hK _ _ a0 ?_⟩
   have HZ:=Hd (bA kc (bA a3 a0));clear hK K hc kc a3 a0;refine vS ?_
   refine vK ?_
   refine qKE (fun wd hd=>?_);have HQ:=Hd hd;clear hd;go_wp2_with fail
   go_ret
   obtain⟨kc,a3,a0⟩:=HZ.o
   have hd:=HQ.o;rw[<-b3.o];refine PaTo.mk1 ((a3.keeps hd _ _ _ (fun _ _ e=>e)).mono (fun z hz=>?_)) (((kc.trans a0).trans hd).mono (fun _ _ e=>e.elim));rcases hz with hz | hz
   ·exact .inl (b4.o z hz)
   ·exact .inr ⟨bE kc.size hz.1,bC hz.2 hd.size⟩
theorem jlw(D:Nat->Prop)(v:vB)(ks:Nat->PA)(b:Nat)(h:PaO (.br v ks) (brV b) D W)(hd:Dp (.br v ks) 900000) :
  vQ 296 #[.pointer (some ⟨b,0,none⟩)] W (PaTo D W (jcG v ks)):=by
 unfold jcG;cases hi:idxK ks with
 | nil =>
  show Calls _ _ _ W (PaTo D W (if v.size=0 then PA.no else .leaf ⟨#[]⟩ v))
  by_cases h0:v.size=0
  ·rw[if_pos h0];exact jof W D v ks b h hi h0
  ·rw[if_neg h0];exact joe W D v ks b h hi h0
 | cons i r =>
  cases r with
  | nil =>
   show Calls _ _ _ W (PaTo D W (if v.size=0 then jbT ⟨#[UInt8.ofNat i]⟩ (ks i)else .br v ks))
   by_cases h0:v.size=0
   ·rw[if_pos h0];exact jqz W D v ks b h i hi h0 hd
   ·rw[if_neg h0];exact jlx W D v ks b h i hi h0
  | cons j r=>exact jly W D v ks b h (by rw[hi];simp)
theorem jo9(D:Nat->Prop)(v:vB)(ks:Nat->PA)(b:Nat)(h:PaO (.br v ks) (brV b) D W)(hd:Dp (.br v ks) 900000):vQ 293 #[.pointer (some ⟨b,0,none⟩),.string ⟨#[]⟩] W (PaTo D W (jcG ⟨#[]⟩ ks)):=by
 obtain⟨vk,Dk,hb⟩:=h.br
 have q0:=hb.blk.cellL (i:=0) (v:=.string v) vF;have f0:W.frozen? ⟨b,0,none⟩=false:=hb.blk.frozen;have H:=Hd hb;have HD:Hid (Dp (.br ⟨#[]⟩ ks) 900000):=hd;have a0:(⟨#[]⟩:vB).toList.isEmpty=true:=by rw[bR];rfl
 clear h hb hd;unfold vQ;go_in;go_wp2_with fail
 obtain⟨Z,J⟩:=vE (W.setCell ⟨b,0,none⟩ (.string ⟨#[]⟩))
 have O:jac D W Z:=by rw[J];exact (jac.oneSet W ⟨b,0,none⟩ (.string ⟨#[]⟩)).mono (fun x _ e=>by have e:x=b:=e;rw[e];exact H.o.mem)
 have K:=H.o.val ⟨#[]⟩;rw[<-J]at K ⊢;have X:=Hd (bA K O);clear K O J;refine (jlw Z D ⟨#[]⟩ ks b X.o.1.pa HD.o).mono ?_;rintro e w2 ⟨v2,rfl,q,A⟩;have HZ:=Hd (bA q A);clear q A;go_wp2_with fail
 go_ret
 obtain⟨q,A⟩:=HZ.o
 exact PaTo.mk1 (q.mono (fun x hx=>hx.imp id (fun e=>⟨bE X.o.2.size e.1,e.2⟩))) (X.o.2.trans A)
theorem jsk(D:Nat->Prop)(v:vB)(ks:Nat->PA)(b:Nat)(h:PaO (.br v ks) (brV b) D W)(p:vB)(h0:p.size≠0)(hp:jaE p=true)(hs:p.size<=900000)(hn:(ks (jao p)).isNil=true):vQ 293 #[.pointer (some ⟨b,0,none⟩),.string p] W (PaTo D W (.br v ks)):=by
 obtain⟨Z,Dk,hb⟩:=h.br
 obtain⟨y,t,K⟩:=jd4 h0
 obtain⟨e1,e2⟩:=jcV K
 have e:=jgj hp h0
 obtain⟨g0,A⟩:=jcT K
 have a1:=jcy h0;have H:=jcA hp;have O:(jbc p).size<=900000:=by unfold jbc;rw[jaQ];omega
 have X:jao p=(p[0]'g0).toNat:=by rw[e1,A]
 have q:=hb.kid (jao p) e;have J:Z (jao p)=.nilIface:=by have:=q.1;rw[jcW hn]at this;exact this
 have q1:=hb.blk.cellL (jdR v Z e);rw[J]at q1;have HB:=Hd hb;have a2:=Hd X;have a0:=Hd e;have c1:(0:Int) < (p.size:Int):=vO
 have c2:((p[0]'g0).toNat:Int) < 16:=vO
 have c3:(1:Int)<=(p.size:Int):=vO
 rw[X]at q1;have hq:=jxL;clear h J K e1 e2 h0 hp hn A H O e X hb q;unfold vQ;go_in;go_wp2_with fail
 go_ret;exact PaTo.mk1 (HB.o.pa.at'.mono (fun x hx=>.inl hx)) (jac.refl _ _)
theorem jrd{T:TypeId}{x:vV}{W:vW}(h:PaAt P (.iface T x) D W)(hn:P.isNo=false)(w:vW):(Instr.typeAssert (.iface T x) 239 387 true).run Tryz.prog w=.ok (.tuple #[.agg #[],.bool false]) w:=by
 cases P with
 | nil=>cases h
 | no=>cases hn
 | leaf q u=>obtain⟨b,h,_⟩:=h;unfold jh4 at h;injection h with h1 h2;subst h1 h2;kernel_rfl
 | ext q n=>obtain⟨b,_,_,_,h,_⟩:=h;unfold extV at h;injection h with h1 h2;subst h1 h2;kernel_rfl
 | br u ks=>obtain⟨b,_,_,h,_⟩:=h;unfold brV at h;injection h with h1 h2;subst h1 h2;kernel_rfl
theorem jo8(D:Nat->Prop)(v:vB)(ks:Nat->PA)(b:Nat)(h:PaO (.br v ks) (brV b) D W)(p:vB)(h0:p.size≠0)(hp:jaE p=true)(hs:p.size<=900000)(hn:(ks (jao p)).isNil=false)(hd:Dp (.br v ks) 900000)(hk:jr2 (ks (jao p)))(hno:(jbh (ks (jao p)) (jbc p)).isNo=false) :
  vQ 293 #[.pointer (some ⟨b,0,none⟩),.string p] W (PaTo D W (jcG v (setK ks (jao p) (jbh (ks (jao p)) (jbc p))))):=by
 obtain⟨vk,Dk,hb⟩:=h.br
 obtain⟨y,t,hy⟩:=jd4 h0
 obtain⟨e1,e2⟩:=jcV hy
 have A:=jgj hp h0
 obtain⟨g0,b6⟩:=jcT hy
 have d1:=jcy h0;have a8:=jcA hp;have b7:(jbc p).size<=900000:=by unfold jbc;rw[jaQ];omega
 have hI:jao p=(p[0]'g0).toNat:=by rw[e1,b6]
 have H:=hb.kid (jao p) A
 obtain⟨T,x,b0⟩:=H.1.form hn
 have q1:=hb.blk.cellL (jdR v vk A);rw[b0]at q1;have Q1:=Hd q1;have HB:=Hd hb;have HM:=Hd ((show PaAt (ks (jao p)) (.iface T x) (Dk (jao p)) W by rw[<-b0];exact H.1).meth);have b1:=hd (jao p) hn;have a1:=Hd (show ∀ X,Ext W X->vQ (jey (ks (jao p))) #[x,.string (jbc p)] X (PaTo (Dk (jao p)) X (jbh (ks (jao p)) (jbc p)))from fun X e=>hk X T x _ _ ⟨(show PaAt (ks (jao p)) (.iface T x) (Dk (jao p)) W by rw[<-b0];exact H.1).keeps e _ _ _ (fun _ _ e=>e),fun z J=>bC (hb.lt z (H.2.2 z J)) e.size⟩ b7 a8 (jbt _ _ _ b1.2 vO));have b9:Hid (Dp (.br v (setK ks (jao p) (jbh (ks (jao p)) (jbc p)))) 900000):=jhn hd b1.1 (jhm _ _ _ b1.2) v;have c0:=Hd (show ¬(Dk (jao p) b\/W.heap.size<=b)from fun e=>e.elim (hb.kid _ A).2.1 (fun e=>by have:=hb.lt b hb.mem;omega));have hQ:=jln T x;have b8:=Hd hI;have q:=Hd A;have c1:(0:Int) < (p.size:Int):=vO
 have c2:((p[0]'g0).toNat:Int) < 16:=vO
 have c3:(1:Int)<=(p.size:Int):=vO
 rw[hI]at q1;have c4:=Hd hno;clear h b0 hy e1 e2 h0 hp hn b6 a8 b7 A hI hb H hd b1 hk hno;go_enter Tryz.func293,Tryz.ntmps293;go_wp2_with fail
 refine jbm [0,1,2,3,4,5,6,7,8,9,10,11,13,14,12,15] 16 [12] Ext (jac (fun z=>Dk (jao p) z\/W.heap.size<=z)) ExtR ExtT (fun x y z h k=>jac.trans h k) (fun x y h=>h.mono (fun _ _ h=>h.elim)) vY vY vY ?_;iterate 4 refine vZ ?_
 refine qZA _ ((.pointer (some ⟨b,0,none⟩))) rfl (fun w1=>by kernel_rfl) ?_;refine vS ?_;iterate 2 refine vZ ?_
 refine qZL ⟨b,1+(p[0]'g0).toNat,none⟩ _ rfl (fun w1 h1=>jag (fun w=>by kernel_rfl) (by rw[<-b8.o];exact jai Q1.o (((jac.refl (fun z=>Dk (jao p) z\/W.heap.size<=z) W).drew).trans h1) (by exact c0.o))) ?_;refine vS ?_;iterate 2 refine vZ ?_
 refine qZA _ (.iface T x) rfl (fun w1=>by kernel_rfl) ?_;refine vS ?_
 refine vZ ?_
 refine qZA _ ((.pointer (some ⟨b,0,none⟩))) rfl (fun w1=>by kernel_rfl) ?_;refine vS ?_
 refine vZ ?_
 refine jcb _ rfl vY rfl (fun X hb K hK=>?_);have kb:Ext W X:=(jak _).trans hb;refine jaT (jcg (f:=jey (ks (jao p))) (vs:=#[.string (jbc p)]) rfl (HM.o.drop _) (jeT _) vY) ?_;refine (a1.o X kb).mono ?_;rintro e w2 ⟨v2,rfl,a4,Z⟩
 refine⟨v2,rfl,hK _ _ (Z.mono (fun z _ J=>.inl J)) ?_⟩
 have HS:=Hd (bA kb (bA a4 Z));clear hK K hb kb a4 Z;refine vS ?_
 refine vZ ?_
 refine jcI _ rfl vY rfl (fun wc hc K hK=>?_)
 obtain⟨hb,a4,Z⟩:=HS.o
 have O:=HB.o.keeps (F:=fun _=>False) (hb) (fun _ _ e=>e);have kc:jac (Dk (jao p)) X wc:=Z.trans (hc.mono (fun _ _ e=>e.elim));have b2:PaAt (jbh (ks (jao p)) (jbc p)) v2 (Grow (Dk (jao p)) X wc) wc:=(a4.keeps hc _ _ _ (fun _ _ e=>e)).mono (fun z J=>J.imp id (fun e=>⟨e.1,bC e.2 hc.size⟩))
 obtain⟨T2,x2,rfl⟩:=b2.form (jdC _ _)
 have ht:=O.turn q.o kc b2;have a2:=O.turn_keeps q.o kc (.iface T2 x2)
 obtain⟨old,q7⟩:∃ v,wc.cell? ⟨b,1+jao p,none⟩=some v:=⟨_,(O.blk.keeps kc (O.kid _ q.o).2.1).cellL (bB (by rw[jf2];have:=q.o;omega))⟩
 have f7:wc.frozen? ⟨b,1+jao p,none⟩=false:=(O.blk.keeps kc (O.kid _ q.o).2.1).frozen
 obtain⟨W3,a5⟩:=vE (wc.setCell ⟨b,1+jao p,none⟩ (.iface T2 x2))
 rw[<-a5]at ht a2
 obtain⟨c5,a0⟩:=vE (setV vk (jao p) (.iface T2 x2))
 obtain⟨d2,a9⟩:=vE (fun j=>if j=jao p then Grow (Dk (jao p)) X wc else Dk j)
 rw[<-a0, <-a9]at ht;have c7:W3.cell? ⟨b,1+jao p,none⟩=some (.iface T2 x2):=by
  have:=ht.blk.cellL (jdR v c5 q.o)
  rw[this,a0];show some (setV vk (jao p) (.iface T2 x2) (jao p))=_;unfold setV;rw[if_pos rfl]
 have HT:=Hd (bA ht (bA a2 (bA hb (show W3.heap.size=wc.heap.size by rw[a5];exact fC _ _ _))));have c8:=Hd b2;rw[b8.o]at q7 f7 a5 c7;clear hb a4 Z O kc b2 ht a2 hc;go_simp;rw[<-a5];refine hK _ _ ?_;clear hK K q7 f7 a5 a0 a9;have d3:∀ w,(Instr.typeAssert (.iface T2 x2) 239 387 true).run Tryz.prog w=.ok (.tuple #[.agg #[],.bool false]) w:=jrd c8.o c4.o;go_wp2_with fail
 obtain⟨W4,b4⟩:=vE (W3.alloc (.cells #[] 387))
 have a3:Ext W3 W4:=by rw[b4];exact (ExtR W3).alloc _
 rw[<-b4];have b5:=Hd (bA (HT.o.1.keeps a3 (fun _ _ e=>e)) a3);clear a3 b4;refine (jlw W4 _ v _ b b5.o.1.pa b9.o).mono ?_;rintro e w6 ⟨v6,rfl,b3,a7⟩;have HZ:=Hd (bA b3 (bA a7 (jdX b5.o.1.lt a7)));clear b3 a7;go_wp2_with fail
 go_ret
 obtain⟨b3,a7,c9⟩:=HZ.o
 obtain⟨ht,a2,hb,d4⟩:=HT.o
 obtain⟨_,a3⟩:=b5.o
 have d5:W.heap.size<=W3.heap.size:=by have:=hb.size;have:=a2.size;omega
 have d0:=a3.size;have g1:∀ z,Grow D X wc z->D z\/W.heap.size<=z:=fun z J=>J.imp id (fun e=>bE hb.size e.1);refine PaTo.mk1 (b3.mono (fun z J=>?_)) ?_
 ·have hl:=c9 z J
  rcases J with J | J
  ·exact (g1 z J).imp id (fun e=>⟨e,hl⟩)
  ·exact .inr ⟨by have:=J.1;omega,hl⟩
 ·have k1:jac D W W3:=(hb.mono (fun _ _ e=>e.elim):jac D W X).trans a2
  have k2:jac D W W4:=k1.trans (a3.mono (fun _ _ e=>e.elim));exact k2.trans' a7 (fun z J e=>(g1 z e).elim id (fun e=>by omega))
theorem jnG(D:Nat->Prop)(v:vB)(ks:Nat->PA)(b:Nat)(h:PaO (.br v ks) (brV b) D W)(p:vB)(h0:p.size≠0)(hp:jaE p=true)(hs:p.size<=900000)(hn:(ks (jao p)).isNil=false)(hd:Dp (.br v ks) 900000)(hk:jr2 (ks (jao p)))(hno:(jbh (ks (jao p)) (jbc p)).isNo=true) :
  vQ 293 #[.pointer (some ⟨b,0,none⟩),.string p] W (PaTo D W (jcG v (setK ks (jao p) .nil))):=by
 obtain⟨vk,Dk,hb⟩:=h.br
 obtain⟨y,t,hy⟩:=jd4 h0
 obtain⟨e1,e2⟩:=jcV hy
 have H:=jgj hp h0
 obtain⟨g0,c7⟩:=jcT hy
 have d8:=jcy h0;have a9:=jcA hp;have c8:(jbc p).size<=900000:=by unfold jbc;rw[jaQ];omega
 have hI:jao p=(p[0]'g0).toNat:=by rw[e1,c7]
 have J:=hb.kid (jao p) H
 obtain⟨T,x,b2⟩:=J.1.form hn
 have q1:=hb.blk.cellL (jdR v vk H);rw[b2]at q1;have Q1:=Hd q1;have HB:=Hd hb;have HM:=Hd ((show PaAt (ks (jao p)) (.iface T x) (Dk (jao p)) W by rw[<-b2];exact J.1).meth);have b7:=hd (jao p) hn;have a1:=Hd (show ∀ X,Ext W X->vQ (jey (ks (jao p))) #[x,.string (jbc p)] X (PaTo (Dk (jao p)) X (jbh (ks (jao p)) (jbc p)))from fun X e=>hk X T x _ _ ⟨(show PaAt (ks (jao p)) (.iface T x) (Dk (jao p)) W by rw[<-b2];exact J.1).keeps e _ _ _ (fun _ _ e=>e),fun z A=>bC (hb.lt z (J.2.2 z A)) e.size⟩ c8 a9 (jbt _ _ _ b7.2 vO));have d1:Hid (Dp (.br v (setK ks (jao p) .nil)) 900000):=jhn hd b7.1 ((show Dp PA.nil (900000 - 1)from trivial)) v;have d2:=Hd (show ¬(Dk (jao p) b\/W.heap.size<=b)from fun e=>e.elim (hb.kid _ H).2.1 (fun e=>by have:=hb.lt b hb.mem;omega));have hQ:=jln T x;have b8:=Hd hI;have q:=Hd H;have c1:(0:Int) < (p.size:Int):=vO
 have c2:((p[0]'g0).toNat:Int) < 16:=vO
 have c3:(1:Int)<=(p.size:Int):=vO
 rw[hI]at q1;have d3:=Hd hno;clear h b2 hy e1 e2 h0 hp hn c7 a9 c8 H hI hb J hd b7 hk hno;go_enter Tryz.func293,Tryz.ntmps293;go_wp2_with fail
 refine jbm [0,1,2,3,4,5,6,7,8,9,10,11,13,14,12,15] 16 [12] Ext (jac (fun z=>Dk (jao p) z\/W.heap.size<=z)) ExtR ExtT (fun x y z h k=>jac.trans h k) (fun x y h=>h.mono (fun _ _ h=>h.elim)) vY vY vY ?_;iterate 4 refine vZ ?_
 refine qZA _ ((.pointer (some ⟨b,0,none⟩))) rfl (fun w1=>by kernel_rfl) ?_;refine vS ?_;iterate 2 refine vZ ?_
 refine qZL ⟨b,1+(p[0]'g0).toNat,none⟩ _ rfl (fun w1 h1=>jag (fun w=>by kernel_rfl) (by rw[<-b8.o];exact jai Q1.o (((jac.refl (fun z=>Dk (jao p) z\/W.heap.size<=z) W).drew).trans h1) (by exact d2.o))) ?_;refine vS ?_;iterate 2 refine vZ ?_
 refine qZA _ (.iface T x) rfl (fun w1=>by kernel_rfl) ?_;refine vS ?_
 refine vZ ?_
 refine qZA _ ((.pointer (some ⟨b,0,none⟩))) rfl (fun w1=>by kernel_rfl) ?_;refine vS ?_
 refine vZ ?_
 refine jcb _ rfl vY rfl (fun X hb K hK=>?_);have kb:Ext W X:=(jak _).trans hb;refine jaT (jcg (f:=jey (ks (jao p))) (vs:=#[.string (jbc p)]) rfl (HM.o.drop _) (jeT _) vY) ?_;refine (a1.o X kb).mono ?_;rintro e w2 ⟨v2,rfl,a5,Z⟩
 refine⟨v2,rfl,hK _ _ (Z.mono (fun z _ A=>.inl A)) ?_⟩
 have HS:=Hd (bA kb (bA a5 Z));clear hK K hb kb a5 Z;refine vS ?_
 refine vZ ?_
 refine jcI _ rfl vY rfl (fun wc hc K hK=>?_)
 obtain⟨hb,a5,Z⟩:=HS.o
 have O:=HB.o.keeps (F:=fun _=>False) (hb) (fun _ _ e=>e);have kc:jac (Dk (jao p)) X wc:=Z.trans (hc.mono (fun _ _ e=>e.elim));have b3:PaAt (jbh (ks (jao p)) (jbc p)) v2 (Grow (Dk (jao p)) X wc) wc:=(a5.keeps hc _ _ _ (fun _ _ e=>e)).mono (fun z A=>A.imp id (fun e=>⟨e.1,bC e.2 hc.size⟩))
 obtain⟨T2,x2,rfl⟩:=b3.form (jdC _ _)
 have ht:=O.turn q.o kc b3;have a2:=O.turn_keeps q.o kc (.iface T2 x2)
 obtain⟨old,q7⟩:∃ v,wc.cell? ⟨b,1+jao p,none⟩=some v:=⟨_,(O.blk.keeps kc (O.kid _ q.o).2.1).cellL (bB (by rw[jf2];have:=q.o;omega))⟩
 have f7:wc.frozen? ⟨b,1+jao p,none⟩=false:=(O.blk.keeps kc (O.kid _ q.o).2.1).frozen
 obtain⟨W3,a7⟩:=vE (wc.setCell ⟨b,1+jao p,none⟩ (.iface T2 x2))
 rw[<-a7]at ht a2
 obtain⟨d4,a0⟩:=vE (setV vk (jao p) (.iface T2 x2))
 obtain⟨d9,b0⟩:=vE (fun j=>if j=jao p then Grow (Dk (jao p)) X wc else Dk j)
 rw[<-a0, <-b0]at ht;have b9:W3.cell? ⟨b,1+jao p,none⟩=some (.iface T2 x2):=by
  have:=ht.blk.cellL (jdR v d4 q.o)
  rw[this,a0];show some (setV vk (jao p) (.iface T2 x2) (jao p))=_;unfold setV;rw[if_pos rfl]
 have HT:=Hd (bA ht (bA a2 (bA hb (show W3.heap.size=wc.heap.size by rw[a7];exact fC _ _ _))));have d5:=Hd b3;rw[b8.o]at q7 f7 a7 b9;clear hb a5 Z O kc b3 ht a2 hc;go_simp;rw[<-a7];refine hK _ _ ?_;clear hK K q7 f7 a7 a0 b0;have c9:Value.iface T2 x2=noV:=by have:=d5.o;rw[jvK d3.o]at this;exact this
 unfold noV at c9;injection c9 with hn1 hn2;subst hn1 hn2;have e0:∀ w,(Instr.typeAssert (.iface 387 (.agg #[])) 239 387 true).run Tryz.prog w=.ok (.tuple #[.agg #[],.bool true]) w:=fun w=>by kernel_rfl
 have q4:(W3.alloc (.cells #[] 387)).cell? ⟨b,1+(p[0]'g0).toNat,none⟩=some (.iface 387 (.agg #[])):=jaa b9 ((ExtR W3).alloc _);have f4:(W3.alloc (.cells #[] 387)).frozen? ⟨b,1+(p[0]'g0).toNat,none⟩=false:=(HT.o.1.blk.alloc _).frozen;clear q4;have q4:=jaa b9 ((ExtR W3).alloc (.cells #[] 387));go_wp2_with fail
 obtain⟨W4,c0⟩:=vE (W3.alloc (.cells #[] 387))
 have a3:Ext W3 W4:=by rw[c0];exact (ExtR W3).alloc _
 rw[<-c0]at q4 f4 ⊢;have c4:=HT.o.1.keeps a3 (fun _ _ e=>e);have b4:=c4.turn q.o (P:=.nil) (v:=.nilIface) (jac.refl _ W4) rfl;have a4:=c4.turn_keeps q.o (jac.refl _ W4) .nilIface
 obtain⟨W5,b5⟩:=vE (W4.setCell ⟨b,1+jao p,none⟩ .nilIface)
 rw[<-b5]at b4 a4;rw[b8.o]at b5;rw[<-b5];have d0:setK (setK ks (jao p) (jbh (ks (jao p)) (jbc p))) (jao p) .nil=setK ks (jao p) .nil:=by
  funext j
  unfold setK
  by_cases e:j=jao p
  ·rw[if_pos e,if_pos e]
  ·rw[if_neg e,if_neg e,if_neg e]
 rw[d0]at b4;have b1:W4.heap.size<=W5.heap.size:=a4.size;have c5:=Hd (bA b4 (bA a4 (bA a3 b1)));clear c4 b4 a4 a3 c0 b5 q4 f4 d0 b1;refine (jlw W5 _ v _ b c5.o.1.pa d1.o).mono ?_;rintro e w6 ⟨v6,rfl,b6,a8⟩;have HZ:=Hd (bA b6 (bA a8 (jdX c5.o.1.lt a8)));clear b6 a8;go_wp2_with fail
 go_ret
 obtain⟨b6,a8,d6⟩:=HZ.o
 obtain⟨ht,a2,hb,e3⟩:=HT.o
 obtain⟨_,a4,a3,e4⟩:=c5.o
 have e5:W.heap.size<=W3.heap.size:=by have:=hb.size;have:=a2.size;omega
 have d7:=a3.size;have g1:∀ z,Grow D X wc z->D z\/W.heap.size<=z:=fun z A=>A.imp id (fun e=>bE hb.size e.1);have g2:∀ z,Grow (Grow D X wc) W4 W4 z->D z\/W.heap.size<=z:=fun z A=>A.elim (g1 z) (fun e=>by omega);refine PaTo.mk1 (b6.mono (fun z A=>?_)) ?_
 ·have hl:=d6 z A
  rcases A with A | A
  ·exact (g2 z A).imp id (fun e=>⟨e,hl⟩)
  ·exact .inr ⟨by have:=A.1;omega,hl⟩
 ·have k1:jac D W W3:=(hb.mono (fun _ _ e=>e.elim):jac D W X).trans a2
  have k2:jac D W W4:=k1.trans (a3.mono (fun _ _ e=>e.elim));have k3:jac D W W5:=k2.trans' a4 (fun z A e=>(g1 z e).elim id (fun e=>by omega));exact k3.trans' a8 (fun z A e=>(g2 z e).elim id (fun e=>by omega))
theorem jg5:∀ (P:PA),VaP P->jr2 P
 | .nil,_=>fun W T x D p h _ _ _=>by cases h.at'
 | .no,_=>fun W T x D p h _ _ _=>by
  have e:Value.iface T x=noV:=h.at';unfold noV at e;injection e with e1 e2;subst e1 e2;exact jtK W D p
 | .leaf q v,hv=>fun W T x D p h H J A=>by
  obtain⟨b,e,O,X⟩:=h.at'
  unfold jh4 at e;injection e with e1 e2;subst e1 e2;exact jvP W D q v p b X O
 | .ext q n,hv=>fun W T x D p h H J A=>by
  obtain⟨b,T',x',Z,e,O,X,h3,h4,h5⟩:=h.at'
  unfold extV at e;injection e with e1 e2;subst e1 e2;have K:∀ z,Z z->D z/\z < W.heap.size:=fun z hz=>⟨h5 z hz,h.lt z (h5 z hz)⟩;show Calls _ _ _ W (PaTo D W (jbh (.ext q n) p));unfold jbh;cases hf:preB q p with
  | true =>
   rw[if_pos rfl];exact jsS W D q n T' x' Z b X O h3 h4 K p J A.1 H (jbt _ _ _ A.2 vO) (jg5 n hv.2) hf
  | false =>
   rw[if_neg ff];exact jsT W D q n T' x' Z b X O h3 h4 K p J A.1 H hf
 | .br v ks,hv=>fun W T x D p h H J A=>by
  obtain⟨b,vk,Dk,e,_⟩:=h.at'
  unfold brV at e;injection e with e1 e2;subst e1 e2;show Calls _ _ _ W (PaTo D W (jbh (.br v ks) p));unfold jbh
  by_cases h0:p.size=0
  ·rw[if_pos h0,ja5 h0]
   exact jo9 W D v ks b h A
  ·rw[if_neg h0]
   cases hk:(ks (jao p)).isNil with
   | true=>rw[if_pos rfl];exact jsk W D v ks b h p h0 J H hk
   | false =>
    rw[if_neg ff];unfold unNo;cases hno:(jbh (ks (jao p)) (jbc p)).isNo with
    | true=>rw[if_pos rfl];exact jnG W D v ks b h p h0 J H hk A (jg5 (ks (jao p)) (hv _)) hno
    | false=>rw[if_neg ff];exact jo8 W D v ks b h p h0 J H hk A (jg5 (ks (jao p)) (hv _)) hno
def cntP:PA->Nat
 | .nil=>0
 | .no=>1
 | .leaf _ _=>1
 | .ext _ n=>1+cntP n
 | .br _ ks=>1+sumF (fun i=>cntP (ks i)) 16
theorem jmM(v:vB):(keyR p v).length<=1:=by unfold keyR;split <;> simp
theorem jfz{α:Type}(g:Nat->List α)(f:Nat->Nat)(h:∀ i,(g i).length<=f i):∀ n,((List.range n).flatMap g).length<=sumF f n
 | 0=>by simp
 | n+1=>by
  rw[gI,dZ,bI]
  have:=jfz g f h n
  have:=h n
  simp only[dY,List.flatMap_nil,cA,sumF];omega
theorem ji8:∀ (P:PA) (p:vB),(entP P p).length<=cntP P
 | .nil,_=>bL _
 | .no,_=>cB _
 | .leaf q v,p=>jmM _ _
 | .ext q n,p=>bE (ji8 n (p++q)) (Nat.le_add_left _ _)
 | .br v ks,p=>by
  show ((if v.size=0 then []else keyR p v)++(List.range 16).flatMap fun i=>if (ks i).isNil then []else entP (ks i) (p++nib1 i)).length<=1+sumF (fun i=>cntP (ks i)) 16;rw[bI];have e:(if v.size=0 then []else keyR p v:vL).length<=1:=by
   split
   ·simp
   ·exact jmM _ _
  have A:=jfz (fun i=>if (ks i).isNil then []else entP (ks i) (p++nib1 i)) (fun i=>cntP (ks i)) (fun i=>by
   show (if (ks i).isNil=true then ([]:vL)else entP (ks i) (p++nib1 i)).length<=cntP (ks i);split
   ·simp
   ·exact ji8 (ks i) _) 16
  omega
theorem ERow.len'{w0 w:vW}{v:vV}{xs:vL}(h:ERow w0 w v n xs):n=xs.length:=by have:=h.len;rw[jeO]at this;omega
def EnP(w0:vW)(xs:vL)(e:Ending)(w':vW):Prop:=∃ v n,e=.returned v/\ERow w0 w' v n xs
def EntC(P:PA):Prop:=∀ (w0 W:vW) (T:TypeId) (x:vV) (D:Nat->Prop) (p:vB) (v:vV) (n k:Nat) (E:vL),PaO P (.iface T x) D w0->ERow w0 W v n E->Dp P k->p.size+k<=900000->n+cntP P<=100000 ->
 vQ (jfI P) #[x,.string p,v] W (EnP w0 (E++entP P p))
theorem jv4(v:vV)(n:Nat)(E:vL)(h:ERow w0 W v n E):vQ 298 #[.agg #[],.string p,v] W (EnP w0 E):=by
 have H:=Hd h
 obtain⟨a,c,rfl⟩:=h.sl
 clear h;unfold vQ;go_in;go_wp2_with fail
 go_ret
 exact⟨_,n,rfl,H.o.mono ((ExtR W).alloc _)⟩
theorem jij(k v:vB):jch [(k,v)]=[.string k,.string v]:=rfl
theorem jx6(q u p:vB)(b:Nat)(hB:Blk w0 b (.cells #[.string q,.string u] 378))(v:vV)(n:Nat)(E:vL)(h:ERow w0 W v n E)(hs:p.size+q.size<=900000)(hn:n<=100000) :
  vQ 284 #[.pointer (some ⟨b,0,none⟩),.string p,v] W (EnP w0 (E++keyR (p++q) u)):=by
 have q0:=jaa (hB.cell (i:=0) (v:=.string q) vF) h.ext;have Q1:=Hd (jaa (hB.cell (i:=1) (v:=.string u) vF) h.ext);have H:=Hd h
 obtain⟨a,c,rfl⟩:=h.sl
 have e:=fun w=>jlt w (p++q) (by rw[jcR];omega);unfold keyV at e;unfold keyR;cases hok:jcX (p++q)with
 | false =>
  rw[if_neg ff,cA];rw[hok,if_neg ff]at e;have J:=Hd e;clear h hB e hok;go_enter Tryz.func284,Tryz.ntmps284;go_wp2_with fail
  refine vH (J.o W) fun w1 X=>?_;go_wp2_with fail
  go_ret
  exact⟨_,n,rfl,H.o.mono X.o⟩
 | true =>
  rw[if_pos rfl];rw[hok,if_pos rfl]at e;have J:=Hd e;clear h hB e hok;go_enter Tryz.func284,Tryz.ntmps284;go_wp2_with fail
  refine vC (J.o W) fun w1 A=>?_;have X:=Hd A;have q1:=jaa Q1.o A;have HR:=Hd (H.o.mono A);clear A;go_wp2_with (at_builtin;refine ja0 Tryz.sEnts (HR.o.mono ((ExtR w1).alloc _)) (.tmp 20) (.tmp 27) rfl rfl rfl (jaN (Blk.new w1 _)) (news:=[.string (jbF (p++q)),.string u]) (by intro u Z;simp at Z;rcases Z with rfl | rfl <;> rfl) rfl rfl (by unfold maxLen;omega) vO (fun v' w' r1 r2 r3=>?_);obtain⟨a5,c5,K⟩:=r1.sl;subst K;have O:=Hd r1)
  go_ret
  exact⟨_,n+1,rfl,by have:=O.o;rw[<-jij, <-jb0]at this;exact this⟩
def joJ(w0 a b:vW):Prop:=Ext w0 a->Ext w0 b
theorem jld(x y z:vW)(h:joJ w0 x y)(k:joJ w0 y z):joJ w0 x z:=fun e=>k (h e)
theorem joW(x y:vW)(h:Ext x y):joJ w0 x y:=fun e=>e.trans h
theorem jxJ(q:vB)(n:PA)(T:TypeId)(x:vV)(Dn:Nat->Prop)(b:Nat)(hB:Blk w0 b (.cells #[.string q,.iface T x] 381))(hv:PaAt n (.iface T x) Dn w0)(hD:∀ x,Dn x->x < w0.heap.size)(p:vB)(v:vV)(m k:Nat)(E:vL)(h:ERow w0 W v m E)(O:Dp n k)(hs:(p++q).size+k<=900000)(hn:m+cntP n<=100000)(hk:EntC n) :
  vQ 290 #[.pointer (some ⟨b,0,none⟩),.string p,v] W (EnP w0 (E++entP n (p++q))):=by
 have Q0:=Hd (hB.cell (i:=0) (v:=.string q) vF);have Q1:=Hd (hB.cell (i:=1) (v:=.iface T x) vF);have X:=Hd h.ext;have HM:=Hd hv.meth;have hz:p.size+q.size<=900000:=by rw[<-jcR];omega
 obtain⟨a,c,Z⟩:=h.sl
 have A:=Hd (show ∀ H,Ext W H->vQ (jfI n) #[x,.string (p++q),v] H (EnP w0 (E++entP n (p++q)))from fun H e=>hk w0 H T x Dn (p++q) v m k E ⟨hv,hD⟩ (h.mono e) O hs hn);subst Z;clear hB hv hD h O hs hn hk;go_enter Tryz.func290,Tryz.ntmps290;go_wp2_with fail
 refine jau [0,1,2,3,4,5,6,7,8,9,10,11,12,13,14] [13] Ext (joJ w0) ExtR ExtT (jld w0) (joW w0) vY vY vY ?_
 refine vD ?_
 refine qDV _ ((.pointer (some ⟨b,0,none⟩))) rfl (fun w1 _=>by kernel_rfl) ?_;refine vS ?_
 refine vD ?_
 refine qDL ⟨b,1,none⟩ _ rfl (fun w1 h1=>jag (fun w=>by kernel_rfl) (jaa Q1.o (h1 (X.o.trans (jak _))))) ?_;refine vS ?_;iterate 2 refine vD ?_
 refine qDV _ ((.pointer (some ⟨b,0,none⟩))) rfl (fun w1 _=>by kernel_rfl) ?_;refine vS ?_
 refine vD ?_
 refine qDL ⟨b,0,none⟩ _ rfl (fun w1 h1=>jag (fun w=>by kernel_rfl) (jaa Q0.o (h1 (X.o.trans (jak _))))) ?_;refine vS ?_;iterate 2 refine vD ?_
 refine qDV _ (.iface T x) rfl (fun w1 _=>by kernel_rfl) ?_;refine vS ?_
 refine vD ?_
 refine qDH _ rfl (fun H hb K hK=>?_);have kb:Ext W H:=(jak _).trans hb;refine jaT (jcg (f:=jfI n) (vs:=#[.string (p++q),.slice a m c]) rfl (HM.o.ent _) (jeo _) vY) ?_;refine (A.o H kb).mono ?_;rintro e w2 ⟨v2,m2,rfl,J⟩
 refine⟨v2,rfl,hK _ _ (fun _=>J.ext) ?_⟩
 have HS:=Hd J;clear hK K hb kb J;refine vS ?_
 refine vD ?_
 refine qDE (fun wd O=>?_);have HQ:=Hd O;clear O;go_wp2_with fail
 go_ret
 exact⟨_,_,rfl,HS.o.mono HQ.o⟩
def entK(ks:Nat->PA)(p:vB)(k:Nat):vL:=(List.range k).flatMap fun i=>if (ks i).isNil then []else entP (ks i) (p++nib1 i)
theorem jho(k:Nat):entK ks p (k+1)=entK ks p k++(if (ks k).isNil then []else entP (ks k) (p++nib1 k)):=by
 unfold entK;rw[gI,dZ]
 simp
theorem ji7(k:Nat):(entK ks p k).length<=sumF (fun i=>cntP (ks i)) k:=jfz _ _ (fun i=>by
 show (if (ks i).isNil=true then ([]:vL)else entP (ks i) (p++nib1 i)).length<=cntP (ks i);split
 ·simp
 ·exact ji8 (ks i) _) k
theorem jeI(f:Nat->Nat)(k:Nat):∀ d,sumF f k<=sumF f (k+d)
 | 0=>bL _
 | d+1=>bE (jeI f k d) (Nat.le_add_right _ _)
def juW(w0:vW)(ks:Nat->PA)(p:vB)(E:vL)(tv iv:vV)(wr:vW):Prop:=∃ (k m:Nat),k<=16/\iv=.int .i64 (k:Int)/\ERow w0 wr tv m (E++entK ks p k)
theorem ji5(hm:m < 16):(convert 211 9 (.slice (some ⟨w.heap.size,0,none⟩) 1 1)).run Tryz.prog (w.alloc (.cells #[.int .u8 (m:Int)] 5))=.ok (.string (nib1 m)) (w.alloc (.cells #[.int .u8 (m:Int)] 5)):=by
 have e:(m:Int)=((UInt8.ofNat m).toNat:Int):=by rw[joE m vO]
 rw[e];exact Tryz.run_lit1 w (UInt8.ofNat m)
structure BrRd(u:vB)(ks:Nat->PA)(b:Nat)(vk:Nat->Value)(Dk:Nat->Nat->Prop)(W:World):Prop where
 blk:Blk W b (.cells (brC u vk).toArray 385)
 kid:∀ i,i < 16->PaO (ks i) (vk i) (Dk i) W
theorem jpb(u p:vB)(ks:Nat->PA)(b:Nat)(vk:Nat->vV)(Dk:Nat->Nat->Prop)(hb:BrRd u ks b vk Dk w0)(v:vV)(n kk:Nat)(E:vL)(h:ERow w0 W v n E)(hd:Dp (.br u ks) kk)(hs:p.size+kk<=900000)(hn:n+1+sumF (fun i=>cntP (ks i)) 16<=100000)(ih:∀ i,i < 16->(ks i).isNil=false->EntC (ks i))(ho:jcX p=false) :
  vQ 294 #[.pointer (some ⟨b,0,none⟩),.string p,v] W (EnP w0 (E++entK ks p 16)):=by
 have H:=Hd hb;have b3:=Hd hd;have a7:=Hd hs;have b4:=Hd ih;have b5:=Hd h.ext;have H0:=Hd h;have b6:=h.len';have q0:=jaa (hb.blk.cellL (i:=0) (v:=.string u) vF) h.ext;have O:=jaX (hb.blk.keeps h.ext (fun e=>e));have c5:(⟨#[]⟩:vB).toList.isEmpty=true:=by rw[bR];rfl
 have c7:=jjm;have A:=jlt W p vO;unfold keyV at A
 obtain⟨a,c,a5⟩:=h.sl
 rw[ho,if_neg ff]at A;have HK:=Hd A;have b7:=Hd (show E.length+sumF (fun i=>cntP (ks i)) 16<=100000 by omega);have hB:=Hd hb.blk;clear hb hd hs ih h hn ho A O;subst a5;go_enter Tryz.func294,Tryz.ntmps294;go_wp2_with fail
 refine HK.o.mono ?_;rintro e w1 ⟨rfl,hE⟩;have O:=jaX (hB.o.keeps (b5.o.trans hE) (fun e=>e));have b8:=Hd (H0.o.mono hE);clear hE q0;clear b6;go_wp2_with (refine jaf 383 (.tmp 35) rfl rfl _ _ rfl O ?_)
 go_loopw [2,37] (fun tv iv wr=>juW w0 ks p E tv iv wr) (fun _ iv _=>16 - (intOf iv).toNat)
 case atStart=>exact⟨0,n,by omega,rfl,by rw[show entK ks p 0=[]from rfl,cA];exact b8.o⟩
 case round =>
  obtain⟨k,m,hk,rfl,hR⟩:=hrel
  have X:=Hd hR;have a8:m<=E.length+sumF (fun i=>cntP (ks i)) k:=by
   have h1:=hR.len';have h2:=ji7 ks p k;rw[bI]at h1;omega
  have b9:=Hd a8
  obtain⟨a2,c2,J⟩:=hR.sl
  clear hR a8
  by_cases hlt:k < 16
  ·have a9:=jd2 vk hlt
   have q:=jho ks p k;rcases (H.o.kid k hlt).at'.kid with⟨hn,hv⟩ |⟨hn,T,x,hv⟩
   ·rw[hn,if_pos rfl,cA]at q
    rw[hv]at a9;have Z:=Hd q;clear q hn hv;subst J;go_wp2;go_roundw
    case rel=>exact⟨k+1,m,by omega,by go_num,by rw[Z.o];exact X.o⟩
    case measure=>exact vJ
   ·rw[hn,if_neg ff]at q
    rw[hv]at a9;have hq:=jcY T x;have K:=H.o.kid k hlt;rw[hv]at K;have b0:=K.at'.meth;have c8:∀ w,(Go.method (520+1) T x "guilloche/trie.entries").run Tryz.prog w=.ok (jfI (ks k),x) w:=b0.ent;have c9:=jeo (ks k);have d0:=ji5 wr hlt;have a1:=b3.o k hn;have c0:sumF (fun i=>cntP (ks i)) k+cntP (ks k)<=sumF (fun i=>cntP (ks i)) 16:=by
     have h1:=jeI (fun i=>cntP (ks i)) (k+1) (15 - k);rw[show k+1+(15 - k)=16 by omega]at h1;exact h1
    have a0:=Hd (show ∀ wb,Ext wr wb->vQ (jfI (ks k)) #[x,.string (p++nib1 k),.slice a2 m c2] wb (EnP w0 (E++entK ks p k++entP (ks k) (p++nib1 k)))from fun wb e=>b4.o k hlt hn w0 wb T x (Dk k) (p++nib1 k) _ m (kk - 1) _ K (by rw[<-J];exact X.o.mono e) a1.2 (by rw[jcR];have:(nib1 k).size=1:=rfl;have:=a7.o;have:=a1.1;omega) (by have:=b9.o;have:=b7.o;omega));have Z:=Hd q;have b1:(k:Int) < 256:=vO
    have d1:p.size+(nib1 k).size<=900001:=by have:(nib1 k).size=1:=rfl;have:=a7.o;omega
    have b2:(k:Int) < 16:=vO
    clear q hn hv K b0 a1 c0;subst J;go_wp2_with fail
    refine (a0.o _ ((ExtR wr).alloc _)).mono ?_;rintro e w2 ⟨v2,m2,rfl,a4⟩;have c1:=Hd a4
    obtain⟨a3,c3,c4⟩:=a4.sl
    subst c4;clear a4;go_wp2_with fail
    go_roundw
    case rel=>exact⟨k+1,m2,by omega,by go_num,by rw[Z.o, <-cE];exact c1.o⟩
    case measure=>exact vJ
  ·obtain rfl:k=16:=vO
   subst J;go_wp2_with fail
   go_ret
   exact⟨_,_,rfl,X.o⟩
theorem jsm(u p:vB)(ks:Nat->PA)(b:Nat)(vk:Nat->vV)(Dk:Nat->Nat->Prop)(hb:BrRd u ks b vk Dk w0)(v:vV)(n kk:Nat)(E:vL)(h:ERow w0 W v n E)(hd:Dp (.br u ks) kk)(hs:p.size+kk<=900000)(hn:n+1+sumF (fun i=>cntP (ks i)) 16<=100000)(ih:∀ i,i < 16->(ks i).isNil=false->EntC (ks i))(ho:jcX p=true)(hu:u.size≠0) :
  vQ 294 #[.pointer (some ⟨b,0,none⟩),.string p,v] W (EnP w0 ((E++[(jbF p,u)])++entK ks p 16)):=by
 have H:=Hd hb;have b5:=Hd hd;have a8:=Hd hs;have b6:=Hd ih;have d0:=Hd h.ext;have H0:=Hd h;have b7:=h.len';have q0:=jaa (hb.blk.cellL (i:=0) (v:=.string u) vF) h.ext;have O:=jaX (hb.blk.keeps h.ext (fun e=>e));have d1:(⟨#[]⟩:vB).toList.isEmpty=true:=by rw[bR];rfl
 have d2:=jjm;have A:=jlt W p vO;unfold keyV at A
 obtain⟨a,c,a7⟩:=h.sl
 rw[ho,if_pos rfl]at A;have HK:=Hd A;have d3:=jcy hu;have b8:=Hd (show (E++[(jbF p,u)]).length+sumF (fun i=>cntP (ks i)) 16<=100000 by rw[bI,List.length_singleton];omega);have hB:=Hd hb.blk;have Q0:=Hd q0;have c9:n<=100000:=vO
 clear hb hd hs ih h hn ho A O hu q0;subst a7;go_enter Tryz.func294,Tryz.ntmps294;go_wp2_with fail
 refine HK.o.mono ?_;rintro e w1 ⟨rfl,hE⟩;have q0:=jaa Q0.o hE;have b9:=Hd (H0.o.mono hE);clear hE b7;go_wp2_with (first |(at_builtin;refine ja0 Tryz.sEnts (b9.o.mono ((ExtR w1).alloc _)) (.tmp 24) (.tmp 31) rfl rfl rfl (jaN (Blk.new w1 _)) (news:=[.string (jbF p),.string u]) (by intro u hu;simp at hu;rcases hu with rfl | rfl <;> rfl) rfl rfl (by unfold maxLen;omega) vO (fun v' w' r1 r2 r3=>?_);obtain⟨a5,c5,c0⟩:=r1.sl;subst c0;have a9:Hid (ERow w0 w' (.slice a5 (n+1) c5) (n+1) (E++[(jbF p,u)])):=Hd (by rw[<-jij, <-jb0]at r1;exact r1);have O:=jaX (hB.o.keeps a9.o.ext (fun e=>e))) |(refine jaf 383 (.tmp 35) rfl rfl _ _ rfl O ?_))
 go_loopw [2,37] (fun tv iv wr=>juW w0 ks p (E++[(jbF p,u)]) tv iv wr) (fun _ iv _=>16 - (intOf iv).toNat)
 case atStart=>exact⟨0,(n+1),by omega,rfl,by rw[show entK ks p 0=[]from rfl,cA];exact a9.o⟩
 case round =>
  obtain⟨k,m,hk,rfl,hR⟩:=hrel
  have X:=Hd hR;have b0:m<=(E++[(jbF p,u)]).length+sumF (fun i=>cntP (ks i)) k:=by
   have h1:=hR.len';have h2:=ji7 ks p k;rw[bI]at h1;omega
  have c1:=Hd b0
  obtain⟨a2,c2,J⟩:=hR.sl
  clear hR b0
  by_cases hlt:k < 16
  ·have b3:=jd2 vk hlt
   have q:=jho ks p k;rcases (H.o.kid k hlt).at'.kid with⟨hn,hv⟩ |⟨hn,T,x,hv⟩
   ·rw[hn,if_pos rfl,cA]at q
    rw[hv]at b3;have Z:=Hd q;clear q hn hv;subst J;go_wp2;go_roundw
    case rel=>exact⟨k+1,m,by omega,by go_num,by rw[Z.o];exact X.o⟩
    case measure=>exact vJ
   ·rw[hn,if_neg ff]at q
    rw[hv]at b3;have hq:=jcY T x;have K:=H.o.kid k hlt;rw[hv]at K;have b4:=K.at'.meth;have d4:∀ w,(Go.method (520+1) T x "guilloche/trie.entries").run Tryz.prog w=.ok (jfI (ks k),x) w:=b4.ent;have d5:=jeo (ks k);have d6:=ji5 wr hlt;have a1:=b5.o k hn;have c4:sumF (fun i=>cntP (ks i)) k+cntP (ks k)<=sumF (fun i=>cntP (ks i)) 16:=by
     have h1:=jeI (fun i=>cntP (ks i)) (k+1) (15 - k);rw[show k+1+(15 - k)=16 by omega]at h1;exact h1
    have a0:=Hd (show ∀ wb,Ext wr wb->vQ (jfI (ks k)) #[x,.string (p++nib1 k),.slice a2 m c2] wb (EnP w0 ((E++[(jbF p,u)])++entK ks p k++entP (ks k) (p++nib1 k)))from fun wb e=>b6.o k hlt hn w0 wb T x (Dk k) (p++nib1 k) _ m (kk - 1) _ K (by rw[<-J];exact X.o.mono e) a1.2 (by rw[jcR];have:(nib1 k).size=1:=rfl;have:=a8.o;have:=a1.1;omega) (by have:=c1.o;have:=b8.o;omega));have Z:=Hd q;have b1:(k:Int) < 256:=vO
    have d7:p.size+(nib1 k).size<=900001:=by have:(nib1 k).size=1:=rfl;have:=a8.o;omega
    have b2:(k:Int) < 16:=vO
    clear q hn hv K b4 a1 c4;subst J;go_wp2_with fail
    refine (a0.o _ ((ExtR wr).alloc _)).mono ?_;rintro e w2 ⟨v2,m2,rfl,a4⟩;have c7:=Hd a4
    obtain⟨a3,c3,c8⟩:=a4.sl
    subst c8;clear a4;go_wp2_with fail
    go_roundw
    case rel=>exact⟨k+1,m2,by omega,by go_num,by rw[Z.o, <-cE];exact c7.o⟩
    case measure=>exact vJ
  ·obtain rfl:k=16:=vO
   subst J;go_wp2_with fail
   go_ret
   exact⟨_,_,rfl,X.o⟩
theorem jsl(u p:vB)(ks:Nat->PA)(b:Nat)(vk:Nat->vV)(Dk:Nat->Nat->Prop)(hb:BrRd u ks b vk Dk w0)(v:vV)(n kk:Nat)(E:vL)(h:ERow w0 W v n E)(hd:Dp (.br u ks) kk)(hs:p.size+kk<=900000)(hn:n+1+sumF (fun i=>cntP (ks i)) 16<=100000)(ih:∀ i,i < 16->(ks i).isNil=false->EntC (ks i))(ho:jcX p=true)(hu:u.size=0) :
  vQ 294 #[.pointer (some ⟨b,0,none⟩),.string p,v] W (EnP w0 (E++entK ks p 16)):=by
 have H:=Hd hb;have b3:=Hd hd;have a7:=Hd hs;have b4:=Hd ih;have b5:=Hd h.ext;have H0:=Hd h;have b6:=h.len';have q0:=jaa (hb.blk.cellL (i:=0) (v:=.string u) vF) h.ext;have O:=jaX (hb.blk.keeps h.ext (fun e=>e));have c7:(⟨#[]⟩:vB).toList.isEmpty=true:=by rw[bR];rfl
 have c8:=jjm;have A:=jlt W p vO;unfold keyV at A
 obtain⟨a,c,a5⟩:=h.sl
 rw[ho,if_pos rfl]at A;have HK:=Hd A;have b7:=ja5 hu;subst b7;have b8:=Hd (show E.length+sumF (fun i=>cntP (ks i)) 16<=100000 by omega);have hB:=Hd hb.blk;have Q0:=Hd q0;clear hb hd hs ih h hn ho A O hu q0;subst a5;go_enter Tryz.func294,Tryz.ntmps294;go_wp2_with fail
 refine HK.o.mono ?_;rintro e w1 ⟨rfl,hE⟩;have q0:=jaa Q0.o hE;have O:=jaX (hB.o.keeps (b5.o.trans hE) (fun e=>e));have b9:=Hd (H0.o.mono hE);clear hE b6;go_wp2_with (refine jaf 383 (.tmp 35) rfl rfl _ _ rfl O ?_)
 go_loopw [2,37] (fun tv iv wr=>juW w0 ks p E tv iv wr) (fun _ iv _=>16 - (intOf iv).toNat)
 case atStart=>exact⟨0,n,by omega,rfl,by rw[show entK ks p 0=[]from rfl,cA];exact b9.o⟩
 case round =>
  obtain⟨k,m,hk,rfl,hR⟩:=hrel
  have X:=Hd hR;have a8:m<=E.length+sumF (fun i=>cntP (ks i)) k:=by
   have h1:=hR.len';have h2:=ji7 ks p k;rw[bI]at h1;omega
  have c0:=Hd a8
  obtain⟨a2,c2,J⟩:=hR.sl
  clear hR a8
  by_cases hlt:k < 16
  ·have a9:=jd2 vk hlt
   have q:=jho ks p k;rcases (H.o.kid k hlt).at'.kid with⟨hn,hv⟩ |⟨hn,T,x,hv⟩
   ·rw[hn,if_pos rfl,cA]at q
    rw[hv]at a9;have Z:=Hd q;clear q hn hv;subst J;go_wp2;go_roundw
    case rel=>exact⟨k+1,m,by omega,by go_num,by rw[Z.o];exact X.o⟩
    case measure=>exact vJ
   ·rw[hn,if_neg ff]at q
    rw[hv]at a9;have hq:=jcY T x;have K:=H.o.kid k hlt;rw[hv]at K;have b0:=K.at'.meth;have c9:∀ w,(Go.method (520+1) T x "guilloche/trie.entries").run Tryz.prog w=.ok (jfI (ks k),x) w:=b0.ent;have d0:=jeo (ks k);have d1:=ji5 wr hlt;have a1:=b3.o k hn;have c1:sumF (fun i=>cntP (ks i)) k+cntP (ks k)<=sumF (fun i=>cntP (ks i)) 16:=by
     have h1:=jeI (fun i=>cntP (ks i)) (k+1) (15 - k);rw[show k+1+(15 - k)=16 by omega]at h1;exact h1
    have a0:=Hd (show ∀ wb,Ext wr wb->vQ (jfI (ks k)) #[x,.string (p++nib1 k),.slice a2 m c2] wb (EnP w0 (E++entK ks p k++entP (ks k) (p++nib1 k)))from fun wb e=>b4.o k hlt hn w0 wb T x (Dk k) (p++nib1 k) _ m (kk - 1) _ K (by rw[<-J];exact X.o.mono e) a1.2 (by rw[jcR];have:(nib1 k).size=1:=rfl;have:=a7.o;have:=a1.1;omega) (by have:=c0.o;have:=b8.o;omega));have Z:=Hd q;have b1:(k:Int) < 256:=vO
    have d2:p.size+(nib1 k).size<=900001:=by have:(nib1 k).size=1:=rfl;have:=a7.o;omega
    have b2:(k:Int) < 16:=vO
    clear q hn hv K b0 a1 c1;subst J;go_wp2_with fail
    refine (a0.o _ ((ExtR wr).alloc _)).mono ?_;rintro e w2 ⟨v2,m2,rfl,a4⟩;have c4:=Hd a4
    obtain⟨a3,c3,c5⟩:=a4.sl
    subst c5;clear a4;go_wp2_with fail
    go_roundw
    case rel=>exact⟨k+1,m2,by omega,by go_num,by rw[Z.o, <-cE];exact c4.o⟩
    case measure=>exact vJ
  ·obtain rfl:k=16:=vO
   subst J;go_wp2_with fail
   go_ret
   exact⟨_,_,rfl,X.o⟩
end
theorem jlC:∀ (P:PA),EntC P
 | .nil=>fun w0 W T x D p v n k E h _ _ _ _=>by cases h.at'
 | .no=>fun w0 W T x D p v n k E h A _ _ _=>by
  have e:Value.iface T x=noV:=h.at';unfold noV at e;injection e with e1 e2;subst e1 e2;show Calls _ _ _ W (EnP w0 (E++[]));rw[cA];exact jv4 w0 W p v n E A
 | .leaf q u=>fun w0 W T x D p v n k E h A H K J=>by
  obtain⟨b,e,h1,O⟩:=h.at'
  unfold jh4 at e;injection e with e1 e2;subst e1 e2;have H:q.size<=k:=H;have J:n+1<=100000:=J;exact jx6 w0 W q u p b O v n E A vO vO
 | .ext q m=>fun w0 W T x D p v n k E h A H K J=>by
  obtain⟨b,T',x',Dn,e,h1,O,h3,h4,h5⟩:=h.at'
  unfold extV at e;injection e with e1 e2;subst e1 e2;have J:n+(1+cntP m)<=100000:=J;have h1:=H.1;exact jxJ w0 W q m T' x' Dn b O h3 (fun z hz=>h.lt z (h5 z hz)) p v n (k - q.size) E A H.2 (by rw[jcR];omega) vO (jlC m)
 | .br u ks=>fun w0 W T x D p v n k E h A H K J=>by
  obtain⟨b,X,Z,e,h1,O,h3,h4⟩:=h.at'
  unfold brV at e;injection e with e1 e2;subst e1 e2;have hb:BrRd u ks b X Z w0:=⟨O,fun i hi=>⟨(h3 i hi).1,fun z hz=>h.lt z ((h3 i hi).2.2 z hz)⟩⟩;have J:n+(1+sumF (fun i=>cntP (ks i)) 16)<=100000:=J;have ih:∀ i,i < 16->(ks i).isNil=false->EntC (ks i):=fun i _ _=>jlC (ks i);show Calls _ _ _ W (EnP w0 (E++((if u.size=0 then []else keyR p u)++entK ks p 16)));unfold keyR;rw[<-cE]
  by_cases hu:u.size=0
  ·rw[if_pos hu,cA]
   cases ho:jcX p with
   | true=>exact jsl w0 W u p ks b X Z hb v n k E A H K vO ih ho hu
   | false=>exact jpb w0 W u p ks b X Z hb v n k E A H K vO ih ho
  ·rw[if_neg hu]
   cases ho:jcX p with
   | true=>rw[if_pos rfl];exact jsm w0 W u p ks b X Z hb v n k E A H K vO ih ho hu
   | false=>rw[if_neg ff,cA];exact jpb w0 W u p ks b X Z hb v n k E A H K vO ih ho
section
attribute [local go_sem] Oper.semAt_some
def jfs(k:Key)(L:vT):vT:=L.map fun x=>if x.1=k then (x.1,x.2.1,putF 2 (x.2.2.used+1) x.2.2)else x
def jdz(T:vM)(L:vT):vT:=T.foldl (fun L r=>jfs r.data.toList L) L
theorem jnL(L:vT):jdz (T++[r]) L=jfs r.data.toList (jdz T L):=by unfold jdz;rw[dX];rfl
theorem jnK(L:vT):(jfs k L).map (·.1)=L.map (·.1):=by
 unfold jfs;rw[cW];refine dF (fun x _=>?_);simp only[Function.comp];split <;> rfl
theorem jnJ(L:vT):(jfs k L).map (·.2.1)=L.map (·.2.1):=by
 unfold jfs;rw[cW];refine dF (fun x _=>?_);simp only[Function.comp];split <;> rfl
theorem jf5:∀ (T:vM) (L:vT),(jdz T L).map (·.1)=L.map (·.1)
 | [],_=>rfl
 | r :: T,L=>by
  show (jdz T (jfs r.data.toList L)).map (·.1)=_;rw[jf5 T,jnK]
theorem jf4:∀ (T:vM) (L:vT),(jdz T L).map (·.2.1)=L.map (·.2.1)
 | [],_=>rfl
 | r :: T,L=>by
  show (jdz T (jfs r.data.toList L)).map (·.2.1)=_;rw[jf4 T,jnJ]
theorem jl0(h:A.map (·.1)=B.map (·.1))(k:Key):(atL A k).isSome=(atL B k).isSome:=by
 have e:∀ L:vT,(atL L k).isSome=(L.map (·.1)).any (fun y=>decide (k=y)):=fun L=>by
  unfold atL;rw[List.isSome_find?,List.any_map];rfl
 rw[e,e,h]
theorem jig:∀ (T:vM) (L:vT) (lo hi:Int),(∀ x∈L,lo<=x.2.2.used/\x.2.2.used<=hi)->∀ x∈jdz T L,lo<=x.2.2.used/\x.2.2.used<=hi+T.length
 | [],L,lo,hi,h=>fun x e=>by have:=h x e;simp;exact this
 | r :: T,L,lo,hi,h=>fun x e=>by
  have:=jig T (jfs r.data.toList L) lo (hi+1) (fun y q=>by
   obtain⟨z,A,rfl⟩:=bD.1 q
   have:=h z A
   split
   ·simp only[putF,if_true];omega
   ·omega) x e
  rw[bU];omega
def kvR(x:Nd5):Nat × vB × vM:=(x.2.1,x.2.2.text,x.2.2.refs)
def Like(W:vW)(bg:Nat)(G:vT):Prop:=∃ G',jcj W bg G'/\∀ k,(atL G' k).map kvR=(atL G k).map kvR
theorem jsh(f c:Nat)(v:Int)(L:vT)(k:Key):atL (L.map (setB f c v)) k=(atL L k).map (setB f c v):=by
 unfold atL;rw[List.find?_map]
 congr 1
 refine congrFun (congrArg _ (funext fun x=>?_)) L;simp only[Function.comp,setB];split <;> rfl
theorem jtq(f c:Nat)(v:Int)(x:Nd5):kvR (setB f c v x)=kvR x:=by
 unfold setB kvR putF
 by_cases e:x.2.1=c
 ·rw[if_pos e]
  by_cases e2:f=2
  ·rw[if_pos e2]
  ·rw[if_neg e2]
 ·rw[if_neg e]
theorem Like.setF{W:vW}(h:Like W bg G){it:It}(hc:jea W c it)(hf:f=2\/f=3)(v:Int):Like (W.setCell ⟨c,f,none⟩ (.int .i64 v)) bg G:=by
 obtain⟨A,e,q⟩:=h
 refine⟨_,e.setF hc hf v,fun k=>?_⟩
 rw[jsh,Option.map_map, <-q k]
 congr 1
 funext x
 exact jtq f c v x
theorem jrA{W:vW}(h:jcj W bm L){k:Key}(hy:atL L k=some y):L.map (setB 2 y.2.1 (y.2.2.used+1))=jfs k L:=by
 obtain⟨K,O,_,H⟩:=h.mp
 have q:=H.keys;rw[cW]at q;have q:(L.map (·.1)).Nodup:=q;unfold jfs;refine dF (fun x A=>?_);unfold setB
 by_cases e:x.2.1=y.2.1
 ·have:x=y:=jaG h.blks A (jaF hy).1 e
  subst this;rw[if_pos rfl,if_pos (jaF hy).2]
 ·rw[if_neg e,if_neg]
  intro J
  have:x=y:=jaG q A (jaF hy).1 (J.trans (jaF hy).2.symm)
  subst this;exact e rfl
structure Ad2(w5:World)(s bm bg:Nat)(room:Int)(S1 G:vT)(F:vM)(v:Value)(T:vM)(W:World):Prop where
 kp:jac (fun z=>z∈S1.map (·.2.1)) w5 W
 st:jax W s bm room (jdz T S1)
 gv:Like W bg G
 row:W.ownsRow 0 9 1 v F.length (F.map Value.string)
theorem Ad2.bump{s:Nat}{v:vV}{T:vM}{W:vW}(h:Ad2 w5 s bm bg room S1 G F v T W)
  (hu:∀ x∈S1,0<=x.2.2.used/\x.2.2.used<=1000000000) (hT:T.length<=1000000) (r:vB) (hr:(atL S1 r.data.toList).isSome=true) :
  ∃ (zb:Nat) (u:Int),(Instr.lookup 121 (.map (some bm)) (.string r) false).run Tryz.prog W=.ok (.pointer (some ⟨zb,0,none⟩)) W/\W.cell? ⟨zb,2,none⟩=some (.int .i64 u)/\W.frozen? ⟨zb,2,none⟩=false/\0<=u/\u<=2000000000 /\
   Ad2 w5 s bm bg room S1 G F v (T++[r]) (W.setCell ⟨zb,2,none⟩ (.int .i64 (u+1)))/\∀ H n xs,W.ownsRow 0 9 1 H n xs->(W.setCell ⟨zb,2,none⟩ (.int .i64 (u+1))).ownsRow 0 9 1 H n xs:=by
 have hs:(atL (jdz T S1) r.data.toList).isSome=true:=by rw[jl0 (jf5 T S1)];exact hr
 obtain⟨y,K⟩:=dD.1 hs
 have q:=(jaF K).1;have hi:=h.st.mp.items y q
 obtain⟨H,hb,a0⟩:=hi.cells
 have A:=h.st.mp.look r false;rw[K]at A;simp only[cH,if_false]at A;have J:jac (fun z=>z=y.2.1) W (W.setCell ⟨y.2.1,2,none⟩ (.int .i64 (y.2.2.used+1))):=jac.oneSet W ⟨y.2.1,2,none⟩ _;have Z:jdx W (fun z=>z=y.2.1):=fun z a1 fz e hz=>by
  have e:z=y.2.1:=e;subst e
  have:=hb.uniq hz;injection this with _ h2;exact absurd h2 vI
 have O:y.2.1∈S1.map (·.2.1):=by rw[<-jf4 T S1];exact bD.2 ⟨y,q,rfl⟩
 have X:=jig T S1 0 1000000000 hu y q
 refine⟨y.2.1,y.2.2.used,A,hb.cell (i:=2) vF,hb.frozen,X.1,by omega,⟨h.kp.trans (J.mono (fun z _ e=>by have e:z=_:=e;rw[e];exact O)),⟨h.st.st.keeps J (fun e=>?_),?_⟩,h.gv.setF hi (.inl rfl) _,jcp h.row J Z⟩,fun H n xs hx=>jcp hx J Z⟩
 ·have e:s=y.2.1:=e
  rw[e]at h
  have:=hb.uniq h.st.st;injection this with _ h2;exact absurd h2 vI
 ·rw[jnL, <-jrA h.st.mp K]
  exact h.st.mp.setF hi (.inl rfl) _
def jh2(k:Key)(L:vT):vT:=L.map fun x=>if x.1=k then (x.1,x.2.1,putF 3 (x.2.2.held+1) x.2.2)else x
theorem jox{W:vW}(h:jcj W bm L){k:Key}(hy:atL L k=some y):L.map (setB 3 y.2.1 (y.2.2.held+1))=jh2 k L:=by
 obtain⟨K,O,_,H⟩:=h.mp
 have q:=H.keys;rw[cW]at q;have q:(L.map (·.1)).Nodup:=q;unfold jh2;refine dF (fun x A=>?_);unfold setB
 by_cases e:x.2.1=y.2.1
 ·have:x=y:=jaG h.blks A (jaF hy).1 e
  subst this;rw[if_pos rfl,if_pos (jaF hy).2]
 ·rw[if_neg e,if_neg]
  intro J
  have:x=y:=jaG q A (jaF hy).1 (J.trans (jaF hy).2.symm)
  subst this;exact e rfl
theorem jif:∀ (T:vM) (L:vT) (lo hi:Int),(∀ x∈L,lo<=x.2.2.held/\x.2.2.held<=hi)->∀ x∈jdz T L,lo<=x.2.2.held/\x.2.2.held<=hi
 | [],L,lo,hi,h=>fun x e=>h x e
 | r :: T,L,lo,hi,h=>fun x e=>by
  refine jif T (jfs r.data.toList L) lo hi (fun y q=>?_) x e
  obtain⟨z,A,rfl⟩:=bD.1 q
  have:=h z A
  split
  ·simp only[putF,if_true];exact this
  ·exact this
theorem Ad2.hold{s:Nat}{v:vV}{T:vM}{W:vW}(h:Ad2 w5 s bm bg room S1 G F v T W)
  (hu:∀ x∈S1,0<=x.2.2.held/\x.2.2.held<=1000000000) (r:vB) (hr:(atL S1 r.data.toList).isSome=true) :
  ∃ (zb:Nat) (u:Int),(Instr.lookup 121 (.map (some bm)) (.string r) false).run Tryz.prog W=.ok (.pointer (some ⟨zb,0,none⟩)) W/\W.cell? ⟨zb,3,none⟩=some (.int .i64 u)/\W.frozen? ⟨zb,3,none⟩=false/\0<=u/\u<=1000000000 /\
   jax (W.setCell ⟨zb,3,none⟩ (.int .i64 (u+1))) s bm room (jh2 r.data.toList (jdz T S1))/\jac (fun z=>z∈S1.map (·.2.1)) w5 (W.setCell ⟨zb,3,none⟩ (.int .i64 (u+1))):=by
 have X:(atL (jdz T S1) r.data.toList).isSome=true:=by rw[jl0 (jf5 T S1)];exact hr
 obtain⟨y,J⟩:=dD.1 X
 have q:=(jaF J).1;have hi:=h.st.mp.items y q
 obtain⟨rv,hb,Z⟩:=hi.cells
 have A:=h.st.mp.look r false;rw[J]at A;simp only[cH,if_false]at A;have O:jac (fun z=>z=y.2.1) W (W.setCell ⟨y.2.1,3,none⟩ (.int .i64 (y.2.2.held+1))):=jac.oneSet W ⟨y.2.1,3,none⟩ _;have K:y.2.1∈S1.map (·.2.1):=by rw[<-jf4 T S1];exact bD.2 ⟨y,q,rfl⟩
 have H:=jif T S1 0 1000000000 hu y q
 refine⟨y.2.1,y.2.2.held,A,hb.cell (i:=3) vF,hb.frozen,H.1,H.2,⟨h.st.st.keeps O (fun e=>?_),?_⟩,h.kp.trans (O.mono (fun z _ e=>by have e:z=_:=e;rw[e];exact K))⟩
 ·have e:s=y.2.1:=e
  rw[e]at h
  have:=hb.uniq h.st.st;injection this with _ h2;exact absurd h2 vI
 ·rw[<-jox h.st.mp J]
  exact h.st.mp.setF hi (.inr rfl) _
def jdn(G:vT)(F:vM):vT:=F.filterMap fun x=>atL G x.data.toList
theorem jom{x:vB}(hx:F[i]?=some x)(hy:atL G x.data.toList=some y):jdn G (F.take (i+1))=jdn G (F.take i)++[y]:=by
 unfold jdn;rw[bX,hx,List.filterMap_append];simp[hy]
theorem jbO(h:y∈jdn G F):y∈G/\∃ x∈F,y.1=x.data.toList:=by
 obtain⟨x,q,e⟩:=List.mem_filterMap.1 h
 exact⟨(jaF e).1,x,q,(jaF e).2⟩
theorem ju9{k:Key}(h:∀ x∈B,k≠x.1):atL (A++B) k=atL A k:=by
 unfold atL;rw[List.find?_append]
 have:B.find? (fun x=>decide (k=x.1))=none:=by rw[List.find?_eq_none];simpa using h
 rw[this];simp
theorem jcj.notRow{W:vW}(h:jcj W bm L):jdx W (fun z=>z=bm):=fun z q J e A=>by
 obtain⟨K,O,H,_⟩:=h.mp
 have e:z=bm:=e;subst e
 have:=H.uniq A;cases this
structure Ad1(w4:World)(s bm bg:Nat)(room:Int)(S G:vT)(F:vM)(v:Value)(i:Nat)(W:World):Prop where
 kp:jac (fun z=>z=bm) w4 W
 st:jax W s bm room (S++jdn G (F.take i))
 gv:jcj W bg G
 row:W.ownsRow 0 9 1 v F.length (F.map Value.string)
theorem Ad1.ext{s:Nat}{v:vV}{W:vW}(h:Ad1 w4 s bm bg room S G F v i W)(e:Ext W W'):Ad1 w4 s bm bg room S G F v i W':=
 ⟨h.kp.trans (e.mono (fun _ _ g=>g.elim)),h.st.ext e,h.gv.ext e,jaZ h.row e⟩
theorem Ad1.put{s:Nat}{v:vV}{W:vW}(h:Ad1 w4 s bm bg room S G F v i W)
  (hSG:∀ x∈S,∀ y∈G,x.2.1≠y.2.1) (hbg:bg≠bm) (hv:∀ z,v.ownBlock=some z->z≠bm) (hnd:F.Nodup) (hFS:∀ x∈F,atL S x.data.toList=none)
  {x:vB} {y:Nd5} (hx:F[i]?=some x) (hy:atL G x.data.toList=some y) :
  ∃ o,(Instr.mapUpdate 121 (.map (some bm)) (.string x) (.pointer (some ⟨y.2.1,0,none⟩))).run Tryz.prog W=.ok () (W.putObj bm o)/\Ad1 w4 s bm bg room S G F v (i+1) (W.putObj bm o):=by
 have hk:∀ z∈jdn G (F.take i),x.data.toList≠z.1:=fun z q e=>by
  obtain⟨_,x',O,e'⟩:=jbO q
  have:=jo7 (e.trans e')
  subst this;exact joj hnd hx O
 have hn:atL (S++jdn G (F.take i)) x.data.toList=none:=by rw[ju9 hk];exact hFS x (bG hx)
 have A:=(jaF hy).1;have H:=(jaF hy).2;have J:∀ z∈S++jdn G (F.take i),z.2.1≠y.2.1:=fun z q e=>by
  rcases bQ.1 q with q | q
  ·exact hSG z q y A e
  ·have:=jaG h.gv.blks (jbO q).1 A e
   subst this;exact hk z q H.symm
 obtain⟨o,X,hA⟩:=h.st.mp.put x hn (h.gv.items y A) J
 have K:jac (fun z=>z=bm) W (W.putObj bm o):=jac.onePut W bm o;have hN:=h.st.mp.notRow;have Z:∀ {c:Nat} {it:It},jea W c it->¬ c=bm:=fun hi e=>by
  obtain⟨_,hc,_⟩:=hi.cells
  obtain⟨es,ck,h1,_⟩:=h.st.mp.mp
  subst e
  have:=h1.uniq hc;cases this
 refine⟨o,X,h.kp.trans K,⟨h.st.st.keeps K (fun e=>?_),?_⟩,h.gv.keeps K hbg (fun z q=>Z (h.gv.items z q)) hN,jaL h.row K (fun z q e=>hv z q e)⟩
 ·have e:s=bm:=e
  obtain⟨es,ck,h1,_⟩:=h.st.mp.mp
  subst e
  have:=h1.uniq h.st.st;cases this
 ·rw[jom hx hy, <-cE]
  have e:(x.data.toList,y.2.1,y.2.2)=y:=by rw[<-H]
  rw[e]at hA;exact hA
theorem jxz(A B:vT)(k:Key):(atL (A++B) k).isSome=((atL A k).isSome ||(atL B k).isSome):=by
 unfold atL;rw[List.find?_append,Option.isSome_or]
def AdR2(w5:vW)(s bm bg:Nat)(room:Int)(S1 G:vT)(F:vM)(v iv:vV)(W:vW):Prop:=∃ i:Nat,i<=F.length/\iv=.int .i64 i/\Ad2 w5 s bm bg room S1 G F v ((F.take i).flatMap (jb4 G)) W
def AdR3(w5:vW)(s bm bg:Nat)(room:Int)(S1 G:vT)(F:vM)(v:vV)(T R:vM)(rv jv:vV)(W:vW):Prop:=∃ j:Nat,j<=R.length/\jv=.int .i64 j/\Ad2 w5 s bm bg room S1 G F v (T++R.take j) W/\W.ownsRow 0 9 1 rv R.length (R.map Value.string)
def AdR1(w4:vW)(s bm bg:Nat)(room:Int)(S G:vT)(F:vM)(v iv:vV)(W:vW):Prop:=∃ i:Nat,i<=F.length/\iv=.int .i64 i/\Ad1 w4 s bm bg room S G F v i W
end
def cK(T:vM)(k:Key):Nat:=(T.map (·.data.toList)).count k
theorem jl8(A B:vM)(k:Key):cK (A++B) k=cK A k+cK B k:=by unfold cK;rw[bY,List.count_append]
theorem jlg(B:vM)(k:Key):cK (r :: B) k=cK B k+(if k=r.data.toList then 1 else 0):=by
 unfold cK;rw[bN,List.count_cons]
 by_cases h:k=r.data.toList
 ·rw[if_pos h,h];simp
 ·rw[if_neg h,if_neg];simpa using fun e=>h e.symm
theorem jvh{T:vM}{k:Key}(h:∀ r∈T,r.data.toList≠k):cK T k=0:=by
 unfold cK;rw[List.count_eq_zero];intro q
 obtain⟨r,A,e⟩:=bD.1 q
 exact h r A e
theorem jpo{T:vM}{r:vB}(h:r∈T):1<=cK T r.data.toList:=by
 unfold cK;exact gK.2 (bD.2 ⟨r,h,rfl⟩)
def addU(n:Nat)(x:Nd5):Nd5:=(x.1,x.2.1,⟨x.2.2.text,x.2.2.refs,x.2.2.used+n,x.2.2.held⟩)
def addH(n:Nat)(x:Nd5):Nd5:=(x.1,x.2.1,⟨x.2.2.text,x.2.2.refs,x.2.2.used,x.2.2.held+n⟩)
theorem jl7:∀ (T:vM) (L:vT),jdz T L=L.map fun x=>addU (cK T x.1) x
 | [],L=>by
  show L=_
  have:(fun x:Nd5=>addU (cK [] x.1) x)=id:=by
   funext x
   obtain⟨a,b,⟨t,r,u,h⟩⟩:=x
   unfold addU cK;simp
  rw[this,List.map_id]
 | r :: T,L=>by
  show jdz T (jfs r.data.toList L)=_;rw[jl7 T,jfs,cW];refine dF fun x _=>?_;show addU (cK T (if x.1=r.data.toList then (x.1,x.2.1,putF 2 (x.2.2.used+1) x.2.2)else x).1) (if x.1=r.data.toList then (x.1,x.2.1,putF 2 (x.2.2.used+1) x.2.2)else x)=_;rw[jlg]
  by_cases h:x.1=r.data.toList
  ·simp only[if_pos h]
   unfold addU putF;simp only[if_true];rw[show x.2.2.used+1+((cK T x.1:Nat):Int)=x.2.2.used+((cK T x.1+1:Nat):Int) by omega]
  ·simp only[if_neg h,gN]
theorem jsy(L:vT):jh2 r.data.toList L=L.map fun x=>addH (cK [r] x.1) x:=by
 unfold jh2;refine dF fun x _=>?_;rw[jlg]
 by_cases h:x.1=r.data.toList
 ·rw[if_pos h,if_pos h];rfl
 ·rw[if_neg h,if_neg h]
  obtain⟨a,b,⟨t,r,u,h⟩⟩:=x
  unfold addH cK;simp
def jsr(T:vM)(r:vB)(x:Nd5):Nd5:=addH (cK [r] x.1) (addU (cK T x.1) x)
theorem jvf(L:vT):jh2 r.data.toList (jdz T L)=L.map (jsr T r):=by
 rw[jsy,jl7,cW];rfl
theorem jpe(L:vT):(L.map (jsr T r)).map (·.1)=L.map (·.1):=by
 rw[cW];rfl
theorem jpf(L:vT):(L.map (jsr T r)).flatMap (fun y=>y.2.2.refs)=L.flatMap (fun y=>y.2.2.refs):=by
 rw[List.flatMap_map];rfl
theorem jiL(G:vT):∀ F:vM,F.flatMap (jb4 G)=(jdn G F).flatMap (fun y=>y.2.2.refs)
 | []=>rfl
 | x :: F=>by
  have e:=jiL G F;unfold jdn at *;rw[dY,gG];cases h:atL G x.data.toList with
  | none=>rw[e];unfold jb4;rw[h];rfl
  | some y=>rw[e,jeX h,dY]
theorem jjf{k:Key}:(atL S k).isSome=true↔k∈S.map (·.1):=by
 constructor
 ·intro h
  obtain⟨y,q⟩:=dD.1 h
  exact bD.2 ⟨y,(jaF q).1,(jaF q).2⟩
 ·intro h
  obtain⟨y,q,e⟩:=bD.1 h
  cases ha:atL S k with
  | some z=>rfl
  | none=>exact absurd e.symm (jeM.1 ha y q)
theorem jvb(hn:(S.map (·.1)).Nodup){k:Key}(hx:x∈S)(e:x.1=k)(hy:atL S k=some y):y=x:=by
 obtain⟨q,A⟩:=jaF hy
 exact jaG hn q hx (A.trans e.symm)
def addS(S G:vT)(M:vM)(top:vB):vT:=jh2 (shaB top).data.toList (jdz ((frK S M).flatMap (jb4 G)) (S++jdn G (frK S M)))
theorem jdt(S G:vT)(M:vM)(top:vB):addS S G M top=(S++jdn G (frK S M)).map (jsr ((frK S M).flatMap (jb4 G)) (shaB top)):=jvf _ _ _
theorem jax.nd{W:vW}{s:Nat}(h:jax W s bm room S):(S.map (·.1)).Nodup:=by
 obtain⟨q,A,_,e⟩:=h.mp.mp
 have:=e.keys
 rw[cW]at this;exact this
section
attribute [local go_sem] Oper.semAt_some
end
def malE:vV:=.iface 27 (.int .i64 2)
def Fa1(W0 W:vW)(v:vV):Prop:=∃ (b:Nat) (k:Int),v=.iface 359 (.pointer (some ⟨b,0,none⟩))/\Blk W b (.cells #[.int .i64 k,malE] 361)/\W0.heap.size<=b
def MalP(w:vW)(e:Ending)(w':vW):Prop:=∃ v,e=.returned v/\Ext w w'/\Fa1 w w' v
theorem jlz(k:Int):vQ 219 #[.int .i64 k] w (MalP w):=by
 unfold vQ;go_in;go_wp2_with fail
 go_ret
 exact⟨_,rfl,(ExtR w).alloc _,_,k,rfl,Blk.new w _,bL _⟩
def jyQ(w:vW)(e:Ending)(w':vW):Prop:=∃ v,e=.returned (.tuple #[.bool false,.string ⟨#[]⟩,.string ⟨#[]⟩,v])/\Ext w w'/\Fa1 w w' v
theorem jpP:vQ 182 #[.string ⟨#[]⟩] w (jyQ w):=by
 unfold vQ;go_in;go_wp2_with fail
 refine (jlz w 0).mono ?_;rintro e w1 ⟨v,rfl,q,J⟩
 obtain⟨b,k,rfl,A⟩:=J
 have H:=Hd (bA q A);clear q A;go_wp2_with fail
 refine bodyPost_ret (v:=.tuple #[.bool false,.string ⟨#[]⟩,.string ⟨#[]⟩,.iface 359 (.pointer (some ⟨b,0,none⟩))]) (by simp[results,Tryz.results182,go_sem]) rfl ?_
 exact⟨_,rfl,H.o.1,b,k,rfl,H.o.2⟩
section
attribute [local go_sem] Oper.semAt_some
theorem Tryz.noIsF(v:vV)(xT:TypeId)(w:vW):(Instr.typeAssert (.iface 359 v) xT 218 true).run Tryz.prog w=.ok (.tuple #[.nilIface,.bool false]) w:=run_typeAssert_lacksB Tryz.underlying218 vY vY v xT w
theorem Tryz.hasUnwrapF(v:vV)(xT:TypeId)(w:vW):(Instr.typeAssert (.iface 359 v) xT 221 true).run Tryz.prog w=.ok (.tuple #[.iface 359 v,.bool true]) w:=run_typeAssert_hasB Tryz.underlying221 vY v xT w
end
theorem Tryz.isMethodComparable(n:Nat)(v:vV)(w:vW):(Go.method (n+1) 216 v "Comparable").run Tryz.prog w=.ok (265,v) w:=vY
theorem Tryz.methodUnwrapF(n:Nat)(v:vV)(w:vW):(Go.method (n+1) 359 v "Unwrap").run Tryz.prog w=.ok (282,v) w:=vY
theorem juo(b:Nat)(k:Int)(c:vV)(hB:Blk w b (.cells #[.int .i64 k,c] 361)):vQ 282 #[.pointer (some ⟨b,0,none⟩)] w fun e w'=>e=.returned c/\w=w':=by
 have q:=hB.cell (i:=1) (v:=c) vF;clear hB;unfold vQ;go_in;go_wp2_with fail
 go_ret
 exact⟨rfl,rfl⟩
theorem jzi(b:Nat)(k:Int)(hB:Blk w b (.cells #[.int .i64 k,malE] 361)):vQ 67 #[.iface 359 (.pointer (some ⟨b,0,none⟩)),malE,.bool true] w fun e w'=>e=.returned (.bool true)/\w=w':=by
 have q:=Hd hB;clear hB;have A:=fun w=>run_eql_iface_types (P:=Tryz.prog) 359 27 (.pointer (some ⟨b,0,none⟩)) (.int .i64 2) Tryz.underlying88 vI w;have H:∀ w,(binOp .eql 88 malE malE).run Tryz.prog w=.ok (.bool true) w:=fun w=>by kernel_rfl
 have J:∀ w,(binOp .eql 88 malE .nilIface).run Tryz.prog w=.ok (.bool false) w:=fun w=>by kernel_rfl
 unfold malE at *;have K:=Tryz.noIsF;have O:=Tryz.hasUnwrapF;have X:=Tryz.methodUnwrapF 520;unfold vQ;go_in;go_wp2_with fail
 refine wp_loop_rounds 2 ?_;rw[rounds_succ];go_wp2_with fail
 refine (juo w b k _ q.o).mono ?_;rintro e w1 ⟨rfl,rfl⟩;go_wp2_with fail
 rw[rounds_succ];go_wp2_with fail
 go_ret
 exact⟨rfl,rfl⟩
theorem jtm(b:Nat)(k:Int)(hB:Blk w b (.cells #[.int .i64 k,malE] 361)):vQ 34 #[.iface 359 (.pointer (some ⟨b,0,none⟩)),malE] w fun e w'=>e=.returned (.bool true)/\w=w':=by
 have q:=Hd (jzi w b k hB);clear hB;have A:∀ w,(binOp .eql 88 (.iface 359 (.pointer (some ⟨b,0,none⟩))) .nilIface).run Tryz.prog w=.ok (.bool false) w:=fun w=>by kernel_rfl
 have H:∀ w,(binOp .eql 88 malE .nilIface).run Tryz.prog w=.ok (.bool false) w:=fun w=>by kernel_rfl
 unfold malE at *;have K:∀ w,(callFunc 66 #[.iface 27 (.int .i64 2)]).run Tryz.prog w=.ok (.value (.iface 216 (.agg #[.pointer (some ⟨3,27,none⟩)]))) w:=fun w=>by kernel_rfl
 have J:∀ w,(callFunc 265 #[.agg #[.pointer (some ⟨3,27,none⟩)]]).run Tryz.prog w=.ok (.value (.bool true)) w:=fun w=>by kernel_rfl
 have O:=Tryz.isMethodComparable 520;unfold vQ;go_in;go_wp2_with fail
 refine q.o.mono ?_;rintro e w1 ⟨rfl,rfl⟩;go_wp2_with fail
 go_ret
 exact⟨rfl,rfl⟩
section
attribute [local go_sem] Oper.semAt_some
def jed(s:vB):Option vB:=match cutN s with | some r=>jfA s r | none=>none
theorem jiX:vR 143 #[.string ⟨#[]⟩] w (.tuple #[.bool false,.string ⟨#[]⟩,.string ⟨#[]⟩,.int .i64 2]):=by
 have H:=Hd (jpP w);unfold vR vQ;go_in;go_wp2_with fail
 refine H.o.mono ?_;rintro e w1 ⟨v,rfl,q,b,k,rfl,A,_⟩;have J:=Hd q;have K:=Hd A;clear q A;go_wp2_with fail
 refine (show vQ 34 #[.iface 359 (.pointer (some ⟨b,0,none⟩)),.iface 27 (.int .i64 2)] w1 fun e w'=>e=.returned (.bool true)/\w1=w' from jtm w1 b k K.o).mono ?_;rintro e O ⟨rfl,rfl⟩;go_wp2_with fail
 exact bodyPost_ret (v:=.tuple #[.bool false,.string ⟨#[]⟩,.string ⟨#[]⟩,.int .i64 2]) (by simp[results,Tryz.results143,go_sem]) rfl ⟨rfl,J.o⟩
theorem joo:vR 170 #[.string ⟨#[]⟩] w (optV none):=by
 have A:=Hd (jiX w);unfold vR vQ;go_in;go_wp2_with fail
 refine A.o.mono ?_;rintro e w1 ⟨rfl,q⟩;have H:=Hd q;clear q;go_wp2_with fail
 go_ret2
 exact⟨rfl,H.o⟩
theorem jkt:vR 119 #[.string ⟨#[]⟩] w (optV none):=by
 have A:=Hd (joo w);unfold vR vQ;go_in;go_wp2_with fail
 refine A.o.mono ?_;rintro e w1 ⟨rfl,q⟩;unfold optV;have H:=Hd q;clear q;go_wp2_with fail
 go_ret2
 exact⟨rfl,H.o⟩
def CutE(s:vB):Prop:=cutN s=none->s=⟨#[]⟩
theorem jdf(hs:s.size<=1000000000)(he:CutE s):vR 119 #[.string s] w (optV (jed s)):=by
 unfold jed;cases h:cutN s with
 | none=>rw[he h];exact jkt w
 | some r=>exact jfB w s r hs h
theorem jpO{s h:vB}(hh:jed s=some h):CutE s:=fun e=>by
 unfold jed at hh;rw[e]at hh;cases hh
end
def RdNo(w:vW)(e:Ending)(w':vW):Prop:=∃ m:jae,m.refs.length=16/\e=.returned (.tuple #[m.V,.bool false])/\Ext w w'
def jr3(w:vW)(e:Ending)(w':vW):Prop:=e=.returned (.tuple #[jas.V,.int .i64 2])/\Ext w w'
theorem jrn(w:vW)(s:vB)(hs:s.size<=1000000000)(h:cutN s=none)(hsp:∀ w,vR 143 #[.string s] w (.tuple #[.bool false,.string ⟨#[]⟩,.string ⟨#[]⟩,.int .i64 2])):vQ 153 #[.string s] w (RdNo w):=by
 obtain⟨em,q⟩:=vE (jam ⟨#[]⟩)
 have H:s≠em:=fun e=>by
  obtain⟨o,h1,_⟩:=jem ⟨#[]⟩ vI
  rw[e,q,h1]at h;cases h
 have a4:=jeJ H;have X:=Hd q;have HS:=Hd hsp;have HZ:=Hd hs;clear q H h hs hsp;unfold vQ;go_in;go_wp2_with (refine jah Tryz.allocNode rfl rfl ?_;intro W1 J K)
 refine vC (jct _ ⟨#[]⟩ vI) fun w2 A=>?_;rw[<-X.o];have O:=Hd (J.keeps A (fun h=>h));have Z:=Hd (K.trans A);clear J K A;go_wp2_with fail
 refine vC (HS.o w2) fun w3 A=>?_;have a0:=O.o.keeps A (fun h=>h);have a1:=Hd (Z.o.trans A);clear A O;go_wp2_with (refine jad (vs:=jas.cells) rfl rfl rfl rfl a0 rfl Tryz.szNode (jae.one _) ?_;intro W8 a2 a3)
 refine bodyPost_ret (jan rfl rfl rfl (jat W8 _ jas rfl a2)) rfl ?_
 exact⟨jas,rfl,rfl,a1.o.trans' a3 (fun x hx e=>by have e:x=w.heap.size:=e;omega)⟩
theorem jqg(w:vW)(s:vB)(h:∀ w,vQ 153 #[.string s] w (RdNo w)):vQ 108 #[.string s] w (jr3 w):=by
 have HR:=Hd h;clear h;unfold vQ;go_in;go_wp2_with (refine jah Tryz.allocNode rfl rfl ?_;intro W1 q A)
 refine (HR.o W1).mono ?_;rintro e w2 ⟨m,X,rfl,Z⟩;have H:=q.keeps Z (fun h=>h);have a0:=Hd (A.trans Z);have HL:=Hd (m.cells_len X);have HM:=Hd X;clear q A Z X;unfold jae.V;go_wp2_with (first |(refine jah Tryz.allocNode rfl rfl ?_;intro W3 a1 J;refine jad (vs:=m.cells) rfl rfl rfl rfl a1 (by rw[HL.o];rfl) (by rw[HL.o];exact Tryz.szNode) m.one ?_;intro W4 a5 K;have O:=(H.keeps J (fun h=>h)).keeps K (by have:=H.lt;omega)) |(refine jad (vs:=jas.cells) rfl rfl rfl rfl O rfl Tryz.szNode (jae.one _) ?_;intro W8 a2 a3))
 refine bodyPost_ret (jan rfl rfl rfl (jat W8 _ jas rfl a2)) rfl ?_;have a4:Ext w2 W4:=J.trans' K (fun x hx e=>by have e:x=w2.heap.size:=e;omega)
 exact⟨rfl,(a0.o.trans a4).trans' a3 (fun x hx e=>by have e:x=w.heap.size:=e;omega)⟩
theorem jxW(w:vW)(s:vB)(hs:s.size < 32)(h:∀ w,vQ 108 #[.string s] w (jr3 w)):vR 120 #[.string s] w (.tuple #[jas.V,.bool false]):=by
 have HR:=Hd h;have c1:¬(32:Int)<=(s.size:Int):=vO
 clear h;unfold vR vQ;go_in;go_wp2_with (refine jah Tryz.allocNode rfl rfl ?_;intro W1 q A)
 refine vC (HR.o W1) fun X Z=>?_;have H:=q.keeps Z (fun h=>h);have a0:=Hd (A.trans Z);clear q A Z;unfold jae.V;go_wp2_with (first |(refine jah Tryz.allocNode rfl rfl ?_;intro W3 a1 J;refine jad (vs:=jas.cells) rfl rfl rfl rfl a1 rfl Tryz.szNode jas.one ?_;intro W4 a2 K;have q0:W4.cell? ⟨X.heap.size,0,none⟩=some (.int .i64 0):=a2.cellL vF;have O:=(H.keeps J (fun h=>h)).keeps K (by have:=H.lt;omega)) |(refine jad (vs:=jas.cells) rfl rfl rfl rfl O rfl Tryz.szNode (jae.one _) ?_;intro W8 a3 a4))
 refine bodyPost_ret (jan rfl rfl rfl (jat W8 _ jas rfl a3)) rfl ?_;have a5:Ext X W4:=J.trans' K (fun x hx e=>by have e:x=X.heap.size:=e;omega)
 exact⟨rfl,(a0.o.trans a5).trans' a4 (fun x hx e=>by have e:x=w.heap.size:=e;omega)⟩
theorem jvJ(hs:32<=s.size):vR 120 #[.string s] w (.tuple #[jas.V,.bool false]):=by
 have K:(32:Int)<=(s.size:Int):=vO
 unfold vR vQ;go_in;go_wp2_with (first |(refine jah Tryz.allocNode rfl rfl ?_;intro O q A) |(refine jad (vs:=jas.cells) rfl rfl rfl rfl q rfl Tryz.szNode (jae.one _) ?_;intro W8 H J))
 refine bodyPost_ret (jan rfl rfl rfl (jat W8 _ jas rfl H)) rfl ?_
 exact⟨rfl,A.trans' J (fun x X e=>by have e:x=w.heap.size:=e;omega)⟩
theorem jvs:cutN ⟨#[]⟩=none:=by decide +kernel
theorem jkS:vQ 153 #[.string ⟨#[]⟩] w (RdNo w):=jrn w _ vI jvs jiX
theorem jdH:vR 120 #[.string ⟨#[]⟩] w (.tuple #[jas.V,.bool false]):=
 jxW w ⟨#[]⟩ vI fun w=>jqg w _ jkS
theorem jdG:vR 119 #[.string ⟨#[]⟩] w (.tuple #[.string ⟨#[]⟩,.bool false]):=jkt w
