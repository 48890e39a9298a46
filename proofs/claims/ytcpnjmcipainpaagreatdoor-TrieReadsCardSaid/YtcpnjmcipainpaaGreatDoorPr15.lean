/- Lemmas; each is under no condition but those that it states. -/
import Derived.Test.YtcpnjmcipainpaaGreatDoorPr14
import Derived.LoopIn
import Derived.LoopNIn
import Derived.OwnWalkIn
namespace Go.Proofs.YtcpnjmcipainpaaGreatDoor
set_option linter.unusedSimpArgs false
set_option linter.unusedVariables false
set_option maxRecDepth 100000
set_option maxHeartbeats 16000000
open Go Go.RowKit
section
attribute [local go_sem] Oper.semAt_some
theorem jbk{F:Fence}{n:Nat}{P:Program}{w:World}{ops:Array Oper}{rest:List Oper}{o:Oper}{a:Act}{Q:Exit->Act->World->Prop}(hg:o.guard=none)(t:TypeId)(x:Operand)(ho:o.op=.load t x)(v:Value)(p:Addr)(hx:a.eval x=.pointer (some p))
  (hr:(Instr.loadAt t (.pointer (some p))).run P w=.ok v w) (h:wpListIn F n P ops Q rest (a.put o.dst v) w):wpListIn F n P ops Q (o :: rest) a w:=by
 refine wpListIn_plain hg fun K hK'=>?_;unfold Oper.wpIn
 refine⟨?_,?_⟩
 ·simp[Oper.about,ho]
 ·rw[Oper.semAt_plain F _ _ (by rw[ho];intro c hc';cases hc')]
  simp only[execOp,ho,hx,Sem.run_bind,hr,Result.andThen,Sem.run_pure];exact hK' _ _ h
theorem Tryz.uRefs:Tryz.prog.underlying 142=some (.array 16 9):=by kernel_rfl
theorem Tryz.iRefs:(Tryz.prog.info? 142).map (·.size)=some 16:=by kernel_rfl
def jad.rv(n:jad)(k:Nat):Array Value:=#[.int .i64 (((n.refsL.getD k (0,⟨#[]⟩)).1:Nat):Int),.string (n.refsL.getD k (0,⟨#[]⟩)).2]
def jyu(W:World)(b:Nat)(n:jad)(C:Nat->World->Prop)(v:Value)(wr:World):Prop:=∃ i:Nat,i<=16/\v=.int .i64 i/\C (jas 0 (n.refs.take i)).length wr
theorem jib(n:jad){i:Nat}{r:vB}(h:n.refs[i]?=some r):jas 0 (n.refs.take (i+1))=jas 0 (n.refs.take i)++(if r.size=0 then []else [(i,r)]):=by
 have hl:=(List.getElem?_eq_some_iff.1 h).1;rw[List.take_add_one,h,Option.toList_some,jdA]
 have:(n.refs.take i).length=i:=by simp;omega
 simp[jas,this]
theorem jvQ(n:jad){i:Nat}{r:vB}(h:n.refs[i]?=some r)(hr:r.size≠0):(jas 0 (n.refs.take i)).length < n.refsL.length/\n.refsL.getD (jas 0 (n.refs.take i)).length (0,⟨#[]⟩)=(i,r):=by
 have h1:=jib n h;rw[if_neg hr]at h1;have h2:n.refsL=jas 0 (n.refs.take i)++((i,r) :: jas (0+(n.refs.take (i+1)).length) (n.refs.drop (i+1))):=by
  unfold jad.refsL
  conv=>lhs;rw[<-List.take_append_drop (i+1) n.refs]
  rw[jdA,h1,List.append_assoc];rfl
 rw[h2];constructor
 ·simp
 ·simp[List.getD_eq_getElem?_getD]
theorem Tryz.strOne:(Tryz.prog.info? 9).map (·.size)=some 1:=by kernel_rfl
theorem Tryz.strAgg(w:World):(isAgg 9).run Tryz.prog w=.ok false w:=by kernel_rfl
theorem jj1(b:Nat)(n:jad)(hr:n.refs.length=16):jsc Tryz.prog 215 #[.pointer (some ⟨b,0,none⟩)] n.refsL.length n.rv (fun W=>Blk W b (.cells n.cells.toArray 208)):=by
 intro l C Cx hC hCx hS W hY h0;have hB:=hS 0 W h0;have hrg:W.rangeAt b 3 (n.refs.map Value.string):=fun j v hv=>hB.cellL (by
  unfold jad.cells;rw[show 3+j=j+3 by omega];simpa using hv)
 have hld:=run_loadVar_mid (P:=Tryz.prog) W b 3 142 _ _ hrg Tryz.uRefs rfl (by simp only[List.length_map,hr];exact Tryz.iRefs);have hla:(Instr.loadAt 142 (.pointer (some ⟨b,3,none⟩))).run Tryz.prog W=.ok (.agg (n.refs.map Value.string).toArray) W:=by
  simp[Instr.loadAt,Instr.sureAddr,Sem.run_bind,Result.andThen,hld]
 have HB:=Hd hB;have HY:=Hd hY;have H0:=Hd h0;have HR:=Hd hr;clear hB hY h0 hrg hld hr;refine callsIn_of_wp Tryz.func215 rfl trivial ?_ rfl;simp only[Tryz.ntmps215,List.size_toArray,List.length_cons,List.length_nil,Nat.reduceAdd,Nat.reduceSub,Array.replicate_succ,Array.replicate_zero,List.push_toArray,List.append_toArray,List.nil_append,List.cons_append];gi_wp2_with (refine jbk rfl 142 (.tmp 5) rfl _ _ rfl hla ?_)
 have HST:=Hd hC;have HSX:=Hd hCx;have HS:=Hd hS;clear hC hCx hS hla;gi_loopw [7] (fun v wr=>jyu W b n C v wr) (fun v _=>16 - (intOf v).toNat)
 case atStart=>exact⟨0,by omega,rfl,by simpa [jas]using H0.o⟩
 case round =>
  obtain⟨i,hi,rfl,hCi⟩:=hrel
  have HCi:=Hd hCi;clear hCi
  by_cases hlt:i < 16
  ·obtain⟨r,hri⟩:∃ r,n.refs[i]?=some r:=⟨_,List.getElem?_eq_getElem (by have:=HR.o;omega)⟩
   have hix:(Instr.index 142 (.agg (n.refs.map Value.string).toArray) (.int .i64 (i:Int))).run Tryz.prog wr=.ok (.string r) wr:=jew Tryz.uRefs Tryz.strOne Tryz.strAgg _ i hlt _ (by rw[List.getElem?_map,hri];rfl) wr;have hst:=jib n hri
   by_cases hr0:r.size=0
   ·have hre:r=⟨#[]⟩:=by
     obtain⟨⟨l⟩⟩:=r
     cases l with
     | nil=>rfl
     | cons x y=>exact absurd hr0 (Nat.succ_ne_zero _)
    rw[if_pos hr0,List.append_nil]at hst;subst hre;have HSTp:=Hd hst;clear hst hri hr0;gi_wp2
    refine⟨(fun f h=>by cases h),?_⟩
    gi_wp2;go_roundw
    case rel=>exact⟨i+1,by omega,by go_num,by rw[HSTp.o];exact HCi.o⟩
    case measure=>simp[intOf];omega
   ·have hat:=jvQ n hri hr0
    have hne:=ja8 (s:=r) vO;rw[if_neg hr0]at hst
    obtain⟨k,hk⟩:=vE (jas 0 (n.refs.take i)).length
    rw[<-hk]at hat HCi;have hrv:n.rv k=#[.int .i64 (i:Int),.string r]:=by unfold jad.rv;rw[hat.2]
    obtain⟨fn,tm,asg,bd,hyr,hrd⟩:=HY.o k wr hat.1 HCi.o
    rw[hrv]at hyr;have hlen:(jas 0 (n.refs.take (i+1))).length=k+1:=by rw[hst,List.length_append, <-hk];rfl
    have HLEN:=Hd hlen;have HAT:=Hd hat;have HRD:=Hd hrd;clear hlen hat hrd hst hrv hk hri hr0;gi_wp2
    refine⟨rfl,HRD.o.mono ?_⟩
    rintro e w5 (⟨rfl,C5⟩ |⟨rfl,C5⟩)
    ·have HC5:=Hd C5
     clear C5;gi_wp2;go_roundw
     case rel=>exact⟨i+1,by omega,by go_num,by rw[HLEN.o];exact HC5.o⟩
     case measure=>simp[intOf];omega
    ·have HC5:=Hd C5
     clear C5;gi_wp2;refine bodyPost_ret (results_none rfl _ _ _) rfl ?_
     exact⟨⟨_,rfl⟩,.inr ⟨k+1,HAT.o.1,by omega,HC5.o⟩⟩
  ·have hi16:i=16:=by omega
   subst hi16;gi_wp2;refine bodyPost_end (results_none rfl _ _ _) rfl ?_
   refine⟨⟨_,rfl⟩,.inl ?_⟩
   have h:=HCi.o;rw[List.take_of_length_le (by have:=HR.o;omega)]at h;exact h
end
theorem jnJ(w:World)(n:jad):vQ 171 #[n.V] w fun e w'=>e=.returned (.func (.func 215) #[] #[.pointer (some ⟨w.heap.size,0,none⟩)])/\Blk w' w.heap.size (.cells n.cells.toArray 208)/\Ext w w':=by
 unfold jad.V;go_enter Tryz.func171,Tryz.ntmps171;go_wp2_with fail
 go_ret
 exact⟨rfl,Blk.new w _,(ExtR w).alloc _⟩
theorem joN(w:World)(n:jad):vR 195 #[n.V] w (.string (jao ⟨#[]⟩)):=by
 unfold jad.V;go_enter Tryz.func195,Tryz.ntmps195;go_wp2_with fail
 refine vC (jee _ ⟨#[]⟩ vI) fun w1 hE=>?_;have HE:Hid (Ext w w1):=Hd (((ExtR w).alloc _).trans hE);clear hE;go_wp2_with fail
 go_ret
 exact⟨rfl,HE.o⟩
section
section mixe
variable {P:Program} {l:List Oper} {E:World->World->Prop}
def anyK(P:Program)(ops:Array Oper)(E:World->World->Prop)(Q:Act->World->Prop):Nat->Array Bool->Act->World->Prop
 | 0,listed,a,w=>∀ w1,E w w1->Region.ready .any ops listed=[]/\Q a w1
 | fuel+1,listed,a,w=>∀ w1,E w w1 ->
  (Region.ready .any ops listed=[]->Q a w1) /\
  ∀ i∈Region.ready .any ops listed,wpOp P ops NoQ i (fun a' w'=>E w1 w'/\anyK P ops E Q fuel (listed.setIfInBounds i true) a' w') a w1
theorem jpr(hT:∀ x y z,E x y->E y z->E x z){ops:Array Oper}{Q:Act->World->Prop}:∀ (fuel:Nat) (listed:Array Bool) (a:Act) (w w1:World),anyK P ops E Q fuel listed a w->E w w1->anyK P ops E Q fuel listed a w1
 | 0,_,_,_,_,h,he=>fun w2 h2=>h w2 (hT _ _ _ he h2)
 | _+1,_,_,_,_,h,he=>fun w2 h2=>h w2 (hT _ _ _ he h2)
theorem jiC(hE:∀ w,E w w){ops:Array Oper}{Q:Act->World->Prop}{Q':Exit->Act->World->Prop}(hQ:∀ a w,Q a w->Q' .normal a w) :
  ∀ (fuel:Nat) (listed:Array Bool) (a:Act) (w:World),anyK P ops E Q fuel listed a w->wpAny P .any ops Q' fuel listed a w
 | 0,_,_,w,h=>let ⟨h1,h2⟩:=h w (hE w);⟨h1,hQ _ _ h2⟩
 | fuel+1,_,_,w,h=>let ⟨h1,h2⟩:=h w (hE w)
  ⟨fun h0=>hQ _ _ (h1 h0),fun i hi=>jhn (fun a' w' ⟨_,h'⟩=>jiC hE hQ fuel _ a' w' h') (h2 i hi)⟩
theorem joa(hE:∀ w,E w w)(hT:∀ x y z,E x y->E y z->E x z){ops:Array Oper}{Q:Act->World->Prop}{i:Nat}{oi:Oper}{v:Value}(hi:ops[i]?=some oi)(hsel:∀ (j:Nat) (o:Oper) cs b,ops[j]?=some o->o.op≠.select cs b) :
  ∀ (fuel:Nat) (listed:Array Bool) (a:Act) (w:World),
   (∀ j oj,ops[j]?=some oj->j≠i->listed.getD j true=false->(∀ e∈oj.after,Region.binds .any e=true->e.on≠i)->oi.apart ops oj=true) ->
   i∈Region.ready .any ops listed->jbG P ops E w oi v a ->
   anyK P ops E Q fuel (listed.setIfInBounds i true) (a.put oi.dst v) w->anyK P ops E Q (fuel+1) listed a w:=by
 intro fuel;induction fuel with
 | zero =>
  intro listed a w _ hr hy H w1 he
  refine⟨fun h=>(by rw[h]at hr;cases hr),fun j hj=>?_⟩
  by_cases hji:j=i
  ·subst hji;exact hy.wpOp hi he hE (fun w' h1=>⟨h1,jpr hT _ _ _ _ _ H (hT _ _ _ he h1)⟩)
  ·have:=ready_mono hj hji
   rw[(H w1 he).1]at this;cases this
 | succ fuel ih =>
  intro listed a w hfree hr hy H w1 he
  refine⟨fun h=>(by rw[h]at hr;cases hr),fun j hj=>?_⟩
  by_cases hji:j=i
  ·subst hji;exact hy.wpOp hi he hE (fun w' h1=>⟨h1,jpr hT _ _ _ _ _ H (hT _ _ _ he h1)⟩)
  ·have h1:=(H w1 he).2 j (ready_mono hj hji)
   obtain⟨hjun,oj,hoj,hall⟩:=mem_ready.1 hj
   have hnot:∀ e∈oj.after,Region.binds .any e=true->e.on≠i:=fun e he hb heq=>by
    have h1:=hall e he hb;have h0:=(mem_ready.1 hr).1;rw[heq]at h1;rcases Nat.lt_or_ge i listed.size with h' | h'
    ·simp[h']at h0 h1;rw[h0]at h1;cases h1
    ·simp[Array.getElem?_eq_none h']at h1
   have h2:=je6 (v:=v) (Y:=fun a'=>execOp a'.eval oi=execOp a.eval oi/\Region.wanted oi (yielded ops a'.tmps)=Region.wanted oi (yielded ops a.tmps)) hoj (hfree j oj hoj hji hjun hnot) (fun cs b=>hsel i oi cs b hi) (fun cs b=>hsel j oj cs b hoj)
    (fun a1 a2 h e1 e2=>⟨e1.trans h.1,e2.trans h.2⟩) ⟨rfl,rfl⟩ h1
   have hfree':∀ k ok,ops[k]?=some ok->k≠i->(listed.setIfInBounds j true).getD k true=false ->
     (∀ e∈ok.after,Region.binds .any e=true->e.on≠i)->oi.apart ops ok=true:=fun k ok hk hki hun hno=>by
    refine hfree k ok hk hki ?_ hno
    by_cases hjk:j=k
    ·subst hjk;exact hjun
    ·rw[getD_set_ne true hjk]at hun;exact hun
   refine wpOp_mono (fun a' w' h3=>⟨h3.2.1,?_⟩) h2
   obtain⟨⟨e1,e2⟩,h4,h5⟩:=h3
   have hyn:jbG P ops E w' oi v a':=(hy.of_same e1 e2).st hT (hT _ _ _ he h4);refine ih (listed.setIfInBounds j true) a' w' hfree' (ready_mono hr (Ne.symm hji)) hyn ?_;rw[Array.setIfInBounds_comm _ _ hji];exact h5
def MixK(P:Program)(l:List Oper)(E:World->World->Prop)(Q:Act->World->Prop):List Nat->List Nat->Act->World->Prop
 | [],done,a,w=>∀ w1,E w w1->Region.ready .any l.toArray (jbd l done)=[]/\Q a w1
 | k :: ord,done,a,w =>
  (k∈Region.ready .any l.toArray (jbd l done)/\Region.free .any l.toArray (jbd l done) k=true/\∃ o v,l[k]?=some o/\jbG P l.toArray E w o v a/\MixK P l E Q ord (k :: done) (a.put o.dst v) w) \/
  (Region.ready .any l.toArray (jbd l done)=[k]/\∀ w1,E w w1->wpOp P l.toArray NoQ k (fun a' w'=>E w1 w'/\MixK P l E Q ord (k :: done) a' w') a w1)
theorem jfv(hE:∀ w,E w w)(hT:∀ x y z,E x y->E y z->E x z)(hs:Region.noSelect l.toArray=true){Q:Act->World->Prop}:∀ (ord:List Nat) (done:List Nat) (a:Act) (w:World),
  MixK P l E Q ord done a w->anyK P l.toArray E Q ord.length (jbd l done) a w
 | [],_,_,_,h=>h
 | k :: ord,done,a,w,h=>by
  rcases h with⟨hr,hf,o,v,ho,hy,h⟩ |⟨hr,h⟩
  ·have ho':l.toArray[k]?=some o:=by simpa using ho
   exact joa hE hT ho' (Region.noSelect_spec hs) ord.length (jbd l done) a w (Region.free_spec ho' hf) hr hy (jfv hE hT hs ord _ _ _ h)
  ·intro w1 he
   refine⟨fun h0=>(by rw[hr]at h0;cases h0),fun i hi=>?_⟩
   rw[hr]at hi;obtain rfl:i=k:=by simpa using hi
   exact wpOp_mono (fun a' w' h2=>⟨h2.1,jfv hE hT hs ord _ _ _ h2.2⟩) (h w1 he)
theorem jai(ord:List Nat)(E:World->World->Prop)(hE:∀ w,E w w)(hT:∀ x y z,E x y->E y z->E x z){id:Nat}{Q:Exit->Act->World->Prop}{a:Act}{w:World}
  (hm:P.follows .mixedOrders=true) (hs:Region.noSelect l.toArray=true) (hl:ord.length=l.toArray.size)
  (h:MixK P l E (fun a w=>Q .normal a w) ord [] a w.drew):(Code.region id l.toArray true).wp P Q a w:=by
 refine wp_region_any hm ?_;rw[<-hl]
 have:=jfv hE hT hs ord _ _ _ h
 unfold jbd at this;rw[hl]at this ⊢;exact jiC hE (fun _ _ h=>h) _ _ _ _ this
variable {Q:Act->World->Prop} {ord done:List Nat} {a:Act} {w:World} {k:Nat} {o:Oper}
def jgZ(l:List Oper)(done:List Nat)(k:Nat):Bool:=(Region.ready .any l.toArray (jbd l done)).contains k && Region.free .any l.toArray (jbd l done) k
def jue(l:List Oper)(done:List Nat)(k:Nat):Bool:=Region.ready .any l.toArray (jbd l done) == [k]
theorem jqP(o:Oper)(ho:l[k]?=some o)(hk:jgZ l done k=true)(hw:Region.wanted o (yielded l.toArray a.tmps)=true)(hq:jiT o.op=true)
  (h:∀ K:Act->Prop,(∀ a',MixK P l E Q ord (k :: done) a' w->K a')->o.quiet P a (fun _=>True) K):MixK P l E Q (k :: ord) done a w:=by
 simp only[jgZ,Bool.and_eq_true,List.contains_iff_mem]at hk
 obtain⟨v,h1,h2⟩:=h _ (fun _ h=>h)
 have key:jbG P l.toArray E w o v a:=by
  refine .inl ⟨hw,fun w1 _=>?_⟩;have h3:=h1 w1 trivial;unfold Oper.quietAt at h3;have h4:=fun f args w'=>jjW (ρ:=a.eval) hq P w1 w' f args;generalize (execOp a.eval o).run P w1=r at *;cases r with
  | ok n w'=>cases n <;> simp only[Oper.quietUpon]at h3 <;> first | exact h3 | exact absurd rfl (h4 _ _ _)
  | halt x w'=>simp only[Oper.quietUpon]at h3
 exact .inl ⟨hk.1,hk.2,o,v,ho,key,h2⟩
theorem jcg(o:Oper)(v:Value)(ho:l[k]?=some o)(hk:jgZ l done k=true)(hw:Region.wanted o (yielded l.toArray a.tmps)=true)
  (hv:∀ w1,E w w1->(execOp a.eval o).run P w1=.ok (.value v) w1) (h:MixK P l E Q ord (k :: done) (a.put o.dst v) w):MixK P l E Q (k :: ord) done a w:=by
 simp only[jgZ,Bool.and_eq_true,List.contains_iff_mem]at hk;exact .inl ⟨hk.1,hk.2,o,v,ho,.inl ⟨hw,fun w1 hc=>by rw[hv w1 hc];exact⟨rfl,rfl⟩⟩,h⟩
theorem jqO(p:Addr)(v:Value){t:TypeId}{x:Operand}{d:Option Tmp}{ty:TypeId}{pos:String}{af:Array Edge}{g:Option (Nat × Bool)}(ho:l[k]?=some ⟨d,.load t x,ty,pos,af,g⟩)(hk:jgZ l done k=true)
  (hw:Region.wanted ⟨d,.load t x,ty,pos,af,g⟩ (yielded l.toArray a.tmps)=true) (hx:a.eval x=.pointer (some p))
  (hv:∀ w1,E w w1->(Instr.loadAt t (.pointer (some p))).run P w1=.ok v w1) (h:MixK P l E Q ord (k :: done) (a.put d v) w):MixK P l E Q (k :: ord) done a w:=by
 refine jcg _ v ho hk hw (fun w1 hc=>?_) h
 have:=hv w1 hc
 simp only[execOp,hx,Sem.run_bind,this,Result.andThen,Sem.run_pure]
theorem qKL{t:TypeId}{x:Operand}{d:Option Tmp}{ty:TypeId}{pos:String}{af:Array Edge}{g:Option (Nat × Bool)}(p:Addr)(v:Value)(ho:l[k]?=some ⟨d,.load t x,ty,pos,af,g⟩)(hv:∀ w1,E w w1->(Instr.loadAt t (.pointer (some p))).run P w1=.ok v w1)(h:MixK P l E Q ord (k :: done) (a.put d v) w)(hk:jgZ l done k=true:=by kernel_rfl)(hw:Region.wanted ⟨d,.load t x,ty,pos,af,g⟩ (yielded l.toArray a.tmps)=true:=by rfl)(hx:a.eval x=.pointer (some p):=by rfl):MixK P l E Q (k :: ord) done a w:=jqO p v ho hk hw hx hv h
theorem jqQ(o:Oper)(ho:l[k]?=some o)(hk:jgZ l done k=true)(hw:Region.wanted o (yielded l.toArray a.tmps)=false)
  (h:MixK P l E Q ord (k :: done) (a.put o.dst undef) w):MixK P l E Q (k :: ord) done a w:=by
 simp only[jgZ,Bool.and_eq_true,List.contains_iff_mem]at hk;exact .inl ⟨hk.1,hk.2,o,undef,ho,.inr ⟨hw,rfl⟩,h⟩
theorem qKS(o:Oper)(ho:l[k]?=some o)(h:MixK P l E Q ord (k :: done) (a.put o.dst undef) w)(hk:jgZ l done k=true:=by kernel_rfl)(hw:Region.wanted o (yielded l.toArray a.tmps)=false:=by rfl):MixK P l E Q (k :: ord) done a w:=jqQ o ho hk hw h
theorem jqN(o:Oper)(f:FuncId)(args:Array Value)(v:Value)(ho:l[k]?=some o)(hk:jgZ l done k=true)(hw:Region.wanted o (yielded l.toArray a.tmps)=true)
  (hv:∀ w1,(execOp a.eval o).run P w1=.ok (.enter f args) w1) (hc:∀ w1,E w w1->Calls P f args w1 (fun e w2=>e=.returned v/\E w1 w2))
  (h:MixK P l E Q ord (k :: done) (a.put o.dst v) w):MixK P l E Q (k :: ord) done a w:=by
 simp only[jgZ,Bool.and_eq_true,List.contains_iff_mem]at hk;exact .inl ⟨hk.1,hk.2,o,v,ho,.inl ⟨hw,fun w1 hw1=>by rw[hv w1];exact⟨rfl,hc w1 hw1⟩⟩,h⟩
theorem qKC(o:Oper)(f:FuncId)(args:Array Value)(v:Value)(ho:l[k]?=some o)(hv:∀ w1,(execOp a.eval o).run P w1=.ok (.enter f args) w1)(hc:∀ w1,E w w1->Calls P f args w1 (fun e w2=>e=.returned v/\E w1 w2))(h:MixK P l E Q ord (k :: done) (a.put o.dst v) w)(hk:jgZ l done k=true:=by kernel_rfl)(hw:Region.wanted o (yielded l.toArray a.tmps)=true:=by rfl):MixK P l E Q (k :: ord) done a w:=jqN o f args v ho hk hw hv hc h
theorem jd6(o:Oper)(ho:l[k]?=some o)(hk:jue l done k=true)(hw:Region.wanted o (yielded l.toArray a.tmps)=true)
  (h:∀ w1,E w w1->∀ K:Act->World->Prop,(∀ a' w',E w1 w'->MixK P l E Q ord (k :: done) a' w'->K a' w')->o.wp P a w1 K NoQ):MixK P l E Q (k :: ord) done a w:=by
 simp only[jue,beq_iff_eq]at hk;refine .inr ⟨hk,fun w1 he=>?_⟩;unfold wpOp;have ho':l.toArray[k]?=some o:=by simpa using ho
 simp only[ho',hw,if_true];exact .inl (h w1 he _ (fun _ _ h1 h2=>⟨h1,h2⟩))
theorem jtk(hk:(Region.ready .any l.toArray (jbd l done)).isEmpty=true)(h:∀ w1,E w w1->Q a w1):MixK P l E Q [] done a w:=
 fun w1 he=>⟨by simpa using hk,h w1 he⟩
theorem qKE(h:∀ w1,E w w1->Q a w1)(hk:(Region.ready .any l.toArray (jbd l done)).isEmpty=true:=by kernel_rfl):MixK P l E Q [] done a w:=jtk hk h
end mixe
end
theorem jaK(b:vB):(jao b).size<=b.size+9:=by
 unfold jao;split
 ·omega
 ·rw[ByteArray.size_append];have:=jd2 128 b.size;omega
theorem jmw(s:vB):(jbr s).size=s.size / 2:=by
 show (jck s.data.toList).length=_;rw[jdy];rfl
theorem jbi(p:vB)(leaf:Bool):(putB p leaf).size<=p.size / 2+1:=by
 unfold putB;rw[jmw];show (jb7 p leaf++p.data.toList).length / 2<=_;rw[List.length_append,show p.data.toList.length=p.size from rfl];unfold jb7 oddB
 by_cases h:p.size % 2=1
 ·simp[h];omega
 ·have:(p.size % 2 == 1)=false:=by simpa using h
  rw[this];simp
theorem ja1(x:vB)(xs:List vB):(catB (x :: xs)).size=x.size+(catB xs).size:=by
 show ((x :: xs).map (·.data.toList)).flatten.length=x.data.toList.length+(xs.map (·.data.toList)).flatten.length;rw[List.map_cons,List.flatten_cons,List.length_append]
theorem jcu:(catB []).size=0:=rfl
theorem jdb(w:World)(xs:List vB)(T:TypeId):RdS (w.alloc (.cells (xs.map Value.string).toArray T)) (.slice (some ⟨w.heap.size,0,none⟩) xs.length xs.length) xs:=
 .inr ⟨w.heap.size,0,xs.length,rfl,by simp,Nat.le_refl _,fun j x hx=>by rw[Nat.zero_add];exact (Blk.new w _).cellL (by rw[List.getElem?_map,hx];rfl)⟩
def jk2(n:jad):vB:=ja4 [jao (putB n.path true),jao n.value]
def extB(n:jad):vB:=ja4 [jao (putB n.path false),n.refs.getD 0 ⟨#[]⟩]
theorem joG(w:World)(n:jad)(hps:n.path.size<=900000)(hvs:n.value.size<=100000)(hv:jat n.path=true):vR 196 #[n.V] w (.string (jk2 n)):=by
 obtain⟨k,p,v,rs⟩:=n
 simp only at hps hvs hv;unfold jad.V;have e1:(jad.cells ⟨k,p,v,rs⟩)[1]?=some (.string p):=rfl;have e2:(jad.cells ⟨k,p,v,rs⟩)[2]?=some (.string v):=rfl;have hs1:=jbi p true;have hs2:=jaK (putB p true);have hs3:=jaK v;go_enter Tryz.func196,Tryz.ntmps196;go_wp2_with fail
 refine vC (jxK _ p true hps hv) fun w1 hE=>?_;have hB:=(Blk.new w _).keeps hE (fun h=>h);have hE1:=((ExtR w).alloc _).trans hE
 obtain⟨g,hg⟩:=vE w.heap.size
 rw[<-hg]at hB ⊢;have q2:=hB.cellL e2
 obtain⟨put,hput⟩:=vE (putB p true)
 rw[<-hput]at hs1 hs2 ⊢;have HL:=Hd (show jk2 ⟨k,p,v,rs⟩=ja4 [jao put,jao v] by unfold jk2;rw[hput]);have HE1:=Hd hE1;have Q2:=Hd q2;have hput1:put.size<=1000000000:=by omega
 have hc:(catB [jao put,jao v]).size<=1000000000:=by rw[ja1,ja1,jcu];omega
 have HC:=Hd hc;have HP:=Hd hput1;have HV:=Hd hvs;clear e1 e2 hs1 hs2 hs3 hB hg hput hE hE1 q2 hput1 hc hps hv hvs;go_wp2_with fail
 refine jai [0,2,1,3,4,5,6,7] Ext ExtR ExtT vY vY vY ?_;iterate 2 refine vK ?_
 refine qKC _ 160 #[.string put] (.string (jao put)) rfl (fun w1=>jay (vX 160) vY) (fun w1 h1=>jee w1 put HP.o) ?_;refine vS ?_;refine qKL ⟨g,2,none⟩ _ rfl (fun w2 h2=>jab Tryz.uStr rfl (jaa (by exact Q2.o) h2)) ?_;refine vS ?_;refine qKC _ 160 #[.string v] (.string (jao v)) rfl (fun w1=>jay (vX 160) vY) (fun w1 h1=>jee w1 v (by have:=HV.o;omega)) ?_;refine vS ?_;refine jd6 _ rfl vY rfl (fun w2 he K hK=>?_);have HE2:=Hd (HE1.o.trans ((jaj w1).trans he));have HR:=Hd (jdb w2 [jao put,jao v] 9);clear he HE1 Q2 HV HP;go_simp;refine hK _ _ ((ExtR w2).alloc _) ?_;clear hK K;refine qKC _ 233 _ (.string (ja4 [jao put,jao v])) rfl (fun w1=>jay (vX 233) vY) (fun w3 h3=>jqz w3 _ [jao put,jao v] (HR.o.ext (by exact h3)) HC.o (show 2<=1000000000 by decide)) ?_;refine vS ?_
 refine vK ?_
 refine qKE (fun w3 he=>?_);go_wp2_with fail
 go_ret
 exact⟨by rw[HL.o];rfl,(HE2.o.alloc _).trans he⟩
theorem jp9(w:World)(n:jad)(hps:n.path.size<=900000)(r:vB)(hr:n.refs=r :: n.refs.tail)(hvs:r.size<=100000)(hv:jat n.path=true):vR 197 #[n.V] w (.string (extB n)):=by
 obtain⟨k,p,v,rs⟩:=n
 simp only at hps hvs hr hv;cases rs with
 | nil=>cases hr
 | cons r' rt =>
 simp only[List.tail_cons,List.cons.injEq,and_true]at hr;subst hr;unfold jad.V;have e1:(jad.cells ⟨k,p,v,r' :: rt⟩)[1]?=some (.string p):=rfl;have e2:(jad.cells ⟨k,p,v,r' :: rt⟩)[3]?=some (.string r'):=rfl;have hs1:=jbi p false;have hs2:=jaK (putB p false);go_enter Tryz.func197,Tryz.ntmps197;go_wp2_with fail
 refine vC (jxK _ p false hps hv) fun w1 hE=>?_;have hB:=(Blk.new w _).keeps hE (fun h=>h);have hE1:=((ExtR w).alloc _).trans hE
 obtain⟨g,hg⟩:=vE w.heap.size
 rw[<-hg]at hB ⊢;have q2:=hB.cellL e2
 obtain⟨put,hput⟩:=vE (putB p false)
 rw[<-hput]at hs1 hs2 ⊢;have HL:=Hd (show extB ⟨k,p,v,r' :: rt⟩=ja4 [jao put,r'] by unfold extB;rw[hput];rfl);have HE1:=Hd hE1;have Q2:=Hd q2;have hput1:put.size<=1000000000:=by omega
 have hc:(catB [jao put,r']).size<=1000000000:=by rw[ja1,ja1,jcu];omega
 have HC:=Hd hc;have HP:=Hd hput1;have HV:=Hd hvs;clear e1 e2 hs1 hs2 hB hg hput hE hE1 q2 hput1 hc hps hv hvs;go_wp2_with fail
 refine jai [0,1,2,3,4,5,6,7] Ext ExtR ExtT vY vY vY ?_
 refine vK ?_
 refine qKC _ 160 #[.string put] (.string (jao put)) rfl (fun w1=>jay (vX 160) vY) (fun w1 h1=>jee w1 put HP.o) ?_;refine vS ?_;iterate 2 refine vK ?_
 refine qKL ⟨g,3,none⟩ _ rfl (fun w2 h2=>jab Tryz.uStr rfl (jaa (by exact Q2.o) h2)) ?_;refine vS ?_;refine jd6 _ rfl vY rfl (fun w2 he K hK=>?_);have HE2:=Hd (HE1.o.trans ((jaj w1).trans he));have HR:=Hd (jdb w2 [jao put,r'] 9);clear he HE1 Q2 HV HP;go_simp;refine hK _ _ ((ExtR w2).alloc _) ?_;clear hK K;refine qKC _ 233 _ (.string (ja4 [jao put,r'])) rfl (fun w1=>jay (vX 233) vY) (fun w3 h3=>jqz w3 _ [jao put,r'] (HR.o.ext (by exact h3)) HC.o (show 2<=1000000000 by decide)) ?_;refine vS ?_
 refine vK ?_
 refine qKE (fun w3 he=>?_);go_wp2_with fail
 go_ret
 exact⟨by rw[HL.o];rfl,(HE2.o.alloc _).trans he⟩
section
attribute [local go_sem] Oper.semAt_some
def jad.ri(n:jad)(k:Nat):Nat:=(n.refsL.getD k (0,⟨#[]⟩)).1
def jad.rr(n:jad)(k:Nat):vB:=(n.refsL.getD k (0,⟨#[]⟩)).2
theorem jtQ(n:jad)(k:Nat):n.rv k=#[.int .i64 (n.ri k:Nat),.string (n.rr k)]:=rfl
def jhf(d:Option TypeDesc):Bool:=match d with | some (.struct _)=>true | _=>false
theorem jgP{d:Option TypeDesc}(h:jhf d=true):∃ fs,d=some (.struct fs):=by
 cases d with
 | none=>cases h
 | some d=>cases d <;> first | exact⟨_,rfl⟩ | cases h
theorem Tryz.isForm:jhf (Tryz.prog.underlying 208)=true:=by kernel_rfl
theorem je0:∀ (l:List vB) (i:Nat) (x:Nat × vB),x∈jas i l->i<=x.1/\x.1 < i+l.length/\l[x.1 - i]?=some x.2/\x.2.size≠0
 | [],i,x,h=>by cases h
 | r :: l,i,x,h=>by
  have key:x∈jas (i+1) l->i<=x.1/\x.1 < i+(r :: l).length/\(r :: l)[x.1 - i]?=some x.2/\x.2.size≠0:=fun h=>by
   obtain⟨h1,h2,h3,h4⟩:=je0 l (i+1) x h
   refine⟨by omega,by simp;omega,?_,h4⟩
   rw[show x.1 - i=(x.1 - (i+1))+1 by omega,List.getElem?_cons_succ];exact h3
  unfold jas at h;split at h
  ·exact key h
  ·rename_i hr
   rcases List.mem_cons.1 h with rfl | h
   ·exact⟨Nat.le_refl _,by simp,by simp,hr⟩
   ·exact key h
theorem jtL(n:jad)(hr:n.refs.length=16){k:Nat}(hk:k < n.refsL.length):n.ri k < 16/\n.refs[n.ri k]?=some (n.rr k)/\(n.rr k).size≠0:=by
 have hm:(n.refsL.getD k (0,⟨#[]⟩))∈n.refsL:=by rw[List.getD_eq_getElem?_getD,List.getElem?_eq_getElem hk];exact List.getElem_mem _
 obtain⟨_,h2,h3,h4⟩:=je0 n.refs 0 _ hm
 rw[hr]at h2
 exact⟨by unfold jad.ri;omega,h3,h4⟩
theorem Tryz.szForm:(Tryz.prog.info? 208).map (·.size)=some 19:=by kernel_rfl
theorem jbU(W:World)(b:Nat)(n:jad)(hr:n.refs.length=16)(hB:Blk W b (.cells n.cells.toArray 208)):(Instr.loadAt 208 (.pointer (some ⟨b,0,none⟩))).run Tryz.prog W=.ok n.V W:=by
 obtain⟨fs,hu⟩:=jgP Tryz.isForm
 exact je1 hu (by rw[n.cells_len hr];exact Tryz.szForm) (fun j v hv=>by rw[jjg];exact hB.cellL hv)
def jvt(n:jad)(k:Nat):Nat:=match k with | 0=>0 | k+1=>n.ri k+1
def jad.behindN(n:jad):Nat:=jvt n n.refsL.length
def BehC(w:World)(gn gb:Nat)(n:jad)(k:Nat)(W:World):Prop:=Ext w W/\Blk W gn (.cells n.cells.toArray 208)/\Blk W gb (.cells #[.int .i64 (jvt n k:Nat)] 3)
theorem jmV(w:World)(n:jad)(hr:n.refs.length=16):vR 230 #[n.V] w (.int .i64 (n.behindN:Nat)):=by
 have HV:Hid (n.V=.agg n.cells.toArray):=rfl
 obtain⟨W0,hW0⟩:=vE ((w.alloc (.cells n.cells.toArray 208)).alloc (.cells #[.int .i64 0] 3))
 have B0:Blk W0 w.heap.size (.cells n.cells.toArray 208):=by rw[hW0];exact (Blk.new w _).alloc _
 have hld:=jbU W0 w.heap.size n hr B0;rw[hW0]at hld;unfold jad.V at hld ⊢;refine (callsIn_wide (n:=0)).1 ?_;refine callsIn_of_wp_marks Tryz.func230 rfl trivial ?_ rfl;simp only[Tryz.ntmps230,List.size_toArray,List.length_cons,List.length_nil,Nat.reduceAdd,Nat.reduceSub,Array.replicate_succ,Array.replicate_zero,List.push_toArray,List.append_toArray,List.nil_append,List.cons_append];gi_wp2_with (refine jbk rfl 208 (.tmp 1) rfl _ _ rfl hld ?_)
 refine⟨trivial,rfl,CallsIn.mono (callsIn_wide.2 (jnJ _ n)) ?_⟩
 rintro e w1 ⟨rfl,hbn,hE⟩;rw[<-hW0]at hbn hE ⊢
 obtain⟨gb,hgb⟩:=vE (w.heap.size+1)
 have hE0:Ext w W0:=by rw[hW0];exact ((ExtR w).alloc _).alloc _
 have B1:Blk W0 gb (.cells #[.int .i64 0] 3):=by
  rw[hW0,hgb];have:=Blk.new (w.alloc (.cells n.cells.toArray 208)) (.cells #[.int .i64 0] 3);rwa [World.size_alloc]at this
 have hs0:W0.heap.size=w.heap.size+2:=by rw[hW0];simp
 have B2:=B1.keeps hE (fun h=>h);rw[<-hgb]
 obtain⟨gn,hgn⟩:=vE W0.heap.size
 rw[<-hgn]at hbn ⊢;have hne:gb≠gn:=by omega
 have hb1:=B2.lt;have hb2:=hbn.lt;have hE1:=hE0.trans hE;have hge:w.heap.size<=gb:=by omega
 have hgw:w.heap.size<=w1.heap.size:=hE1.size;have HE1:=Hd hE1;clear hld hE hE0 B0 B1 hs0 hgb hgn hW0 W0;gi_wp2_with fail
 refine jei (N:=n.refsL.length) (gf:=215) (lb:=#[.pointer (some ⟨gn,0,none⟩)]) rfl (vX 215) (jj1 gn n hr)
  (fun k=>rfl) (BehC w gn gb n) (fun _ _ _=>False) (fun k W W' ⟨h1,h2,h3⟩ e=>⟨h1.trans e,h2.keeps e (fun h=>h),h3.keeps e (fun h=>h)⟩) (fun _ _ _ _ h _=>h) (fun k W ⟨_,h,_⟩=>h)
  (fun k W o ⟨h1,h2,h3⟩=>⟨h1.putObj (.inr hgw) _,h2.put_other vO _,h3.put_other vO _⟩)
  (fun k W o ⟨h1,h2,h3⟩=>⟨h1.putObj (.inr vO) _,h2.put_other vO _,h3.put_other vO _⟩) (fun _ _ _ _ h=>h)
  ⟨HE1.o,hbn,B2⟩ (fun k=>{ tmps:=#[n.V,.pointer (some ⟨w.heap.size,0,none⟩),.int .i64 0,.pointer (some ⟨gb,0,none⟩),.int .i64 (n.ri k:Nat),n.V,.func (.func 215) #[] #[.pointer (some ⟨gn,0,none⟩)],.int .i64 (n.ri k:Nat),.string (n.rr k),undef,undef,undef],defers:=[] })
  ?hassign ?hbody ?hdone ?hstop
 case hassign =>
  intro l j W K hK;rw[jtQ,jqc];simp only[List.set_cons_zero,List.set_cons_succ];gi_wp2;exact hK
 case hbody =>
  intro l k W hk ⟨h1,h2,h3⟩ hlt;have q:=h3.cell (i:=0) (v:=.int .i64 (jvt n k:Nat)) vF;have f:W.frozen? ⟨gb,0,none⟩=false:=h3.frozen;have H1:=Hd h1;have H2:=Hd h2;have H3:=Hd h3;clear h1 h2 h3;have hri:=(jtL n hr hk).1;gi_wp2;rw[show ((n.ri k:Nat):Int)+1=((n.ri k+1:Nat):Int)from by omega];have hb3:=H2.o.lt;have hx:jae (fun b=>b≠w1.heap.size/\b≠w1.heap.size+1) W (W.setCell ⟨gb,0,none⟩ (.int .i64 ((n.ri k+1:Nat):Int))):=(jae.refl _ W).setCell (.inl ⟨by show gb≠_;omega,by show gb≠_;omega⟩) _
  exact⟨hx,H1.o.setCell (.inr hge) _,H2.o.set_other (p:=⟨gb,0,none⟩) (fun e=>hne e.symm) _,H3.o.set_same (i:=0) _⟩
 case hdone =>
  intro W ⟨h1,h2,h3⟩ hd;have q:=h3.cell (i:=0) (v:=.int .i64 (n.behindN:Nat)) vF;have H1:=Hd h1;have HD:=Hd hd;clear h1 h2 h3 hd;gi_wp2
  refine⟨by simp,.inl ⟨_,_,rfl,run_takeDeferred HD.o,?_⟩⟩
  refine⟨_,results_tmp rfl _ _ _,?_⟩
  exact⟨rfl,H1.o.putObj (.inr hgw) _⟩
 case hstop=>intro c k W _ _ h;exact h.elim
theorem Tryz.uStrs:Tryz.prog.underlying 34=some (.slice 9):=by kernel_rfl
theorem Tryz.infoStr:(Tryz.prog.info? 9).map (fun i=>(i.zero,i.size,i.bytes))=some (some (.string ⟨#[]⟩),1,16):=by kernel_rfl
def jdM(n:jad)(k:Nat):List vB:=(n.refsL.take k).foldl (fun l x=>l.set x.1 x.2) (List.replicate 17 (jao ⟨#[]⟩))
def jbH(n:jad):List vB:=(jdM n n.refsL.length).set 16 (jao n.value)
def jdN(n:jad):vB:=ja4 (jbH n)
structure BrS(w:World)(gn gs gb:Nat)(n:jad)(xs:List vB)(W:World):Prop where
 ext:Ext w W
 node:Blk W gn (.cells n.cells.toArray 208)
 var:Blk W gb (.cells #[.slice (some ⟨gs,0,none⟩) 17 17] 34)
 row:Blk W gs (.cells (xs.map Value.string).toArray 9)
 len:xs.length=17
theorem BrS.st{w:World}{gn gs gb:Nat}{n:jad}{xs:List vB}{W W':World}(h:BrS w gn gs gb n xs W)(e:Ext W W'):BrS w gn gs gb n xs W':=
 ⟨h.ext.trans e,h.node.keeps e (fun h=>h),h.var.keeps e (fun h=>h),h.row.keeps e (fun h=>h),h.len⟩
theorem BrS.put{w:World}{gn gs gb:Nat}{n:jad}{xs:List vB}{W:World}(h:BrS w gn gs gb n xs W)(r:Nat)(hr:w.heap.size<=r)(h1:gn≠r)(h2:gs≠r)(h3:gb≠r)(o:Obj):BrS w gn gs gb n xs (W.putObj r o):=
 ⟨h.ext.putObj (.inr hr) _,h.node.put_other h1 _,h.var.put_other h3 _,h.row.put_other h2 _,h.len⟩
theorem BrS.set{w:World}{gn gs gb:Nat}{n:jad}{xs:List vB}{W:World}(h:BrS w gn gs gb n xs W)(hr:w.heap.size<=gs)(h1:gn≠gs)(h3:gb≠gs)(j:Nat)(x:vB):BrS w gn gs gb n (xs.set j x) (W.setCell ⟨gs,j,none⟩ (.string x)):=
 ⟨h.ext.setCell (.inr hr) _,h.node.set_other (p:=⟨gs,j,none⟩) h1 _,h.var.set_other (p:=⟨gs,j,none⟩) h3 _,by
  have:=h.row.set_same (i:=j) (.string x)
  rw[show (xs.map Value.string).toArray.setIfInBounds j (.string x)=((xs.set j x).map Value.string).toArray by simp[List.map_set]]at this;exact this,by simp[h.len]⟩
theorem jhp(n:jad)(k:Nat):(jdM n k).length=17:=by
 unfold jdM;generalize n.refsL.take k=l
 suffices ∀ (l:List (Nat × vB)) (m:List vB),(l.foldl (fun l x=>l.set x.1 x.2) m).length=m.length by rw[this];simp
 intro l;induction l with
 | nil=>intro m;rfl
 | cons x r ih=>intro m;rw[List.foldl_cons,ih];simp
theorem jkz(n:jad){k:Nat}(hk:k < n.refsL.length):jdM n (k+1)=(jdM n k).set (n.ri k) (n.rr k):=by
 unfold jdM;rw[List.take_succ_eq_append_getElem hk,List.foldl_append];simp[jad.ri,jad.rr,List.getD_eq_getElem?_getD,hk]
def jov(k:Nat):List vB:=List.replicate k (jao ⟨#[]⟩)++List.replicate (17 - k) ⟨#[]⟩
theorem jqa(k:Nat)(hk:k < 17):(jov k).set k (jao ⟨#[]⟩)=jov (k+1):=by
 unfold jov;rw[List.set_append_right _ _ (by simp),show k - (List.replicate k (jao ⟨#[]⟩)).length=0 by simp,show 17 - k=(17 - (k+1))+1 by omega,List.replicate_succ,List.set_cons_zero,List.replicate_succ']
 simp
def jyf(w:World)(gn gs gb:Nat)(n:jad)(i:Value)(wr:World):Prop:=∃ k:Nat,k<=17/\i=.int .i64 k/\BrS w gn gs gb n (jov k) wr
theorem jkB(w:World)(n:jad)(hr:n.refs.length=16)(hv:n.value.size<=100000)(hc:(catB (jbH n)).size<=1000000000):vR 198 #[n.V] w (.string (jdN n)):=by
 have HV:Hid (n.V=.agg n.cells.toArray):=rfl
 obtain⟨i0,hi,hz0,hz1,hz2⟩:=info_parts Tryz.infoStr
 have hmk:=je3 (P:=Tryz.prog) (w.alloc (.cells n.cells.toArray 208)) Tryz.uStrs hi hz0 hz1 rfl .i64 .i64 17 (by rw[hz2];omega) (by unfold maxLen;omega)
 obtain⟨gs,hgs⟩:∃ g,g=w.heap.size+1:=⟨_,rfl⟩
 obtain⟨gb,hgb⟩:∃ g,g=w.heap.size+2:=⟨_,rfl⟩
 rw[World.size_alloc, <-hgs]at hmk
 obtain⟨W1,hW1⟩:=vE ((w.alloc (.cells n.cells.toArray 208)).alloc (.cells (List.replicate 17 (Value.string ⟨#[]⟩)).toArray 9))
 rw[<-hW1]at hmk;have hmk':(Instr.makeSlice 34 (.int .i64 17) (.int .i64 17)).run Tryz.prog (w.alloc (.cells n.cells.toArray 208))=.ok (.slice (some ⟨gs,0,none⟩) 17 17) W1:=hmk;clear hmk;have hs1:W1.heap.size=gb:=by rw[hW1,hgb];simp
 have S0:BrS w w.heap.size gs gb n (jov 0) (W1.alloc (.cells #[.slice (some ⟨gs,0,none⟩) 17 17] 34)):=
  ⟨by rw[hW1];exact (((ExtR w).alloc _).alloc _).alloc _,by rw[hW1];exact ((Blk.new w _).alloc _).alloc _,by rw[<-hs1];exact Blk.new W1 _,by
   rw[hW1,hgs]
   have:=(Blk.new (w.alloc (.cells n.cells.toArray 208)) (.cells (List.replicate 17 (Value.string ⟨#[]⟩)).toArray 9)).alloc (.cells #[.slice (some ⟨w.heap.size+1,0,none⟩) 17 17] 34)
   rw[World.size_alloc]at this;exact this,rfl⟩
 obtain⟨gn,hgn⟩:∃ g,g=w.heap.size:=⟨_,rfl⟩
 rw[<-hgn]at S0;have n1:gn≠gs:=by omega
 have n2:gb≠gs:=by omega
 have n3:w.heap.size<=gs:=by omega
 have S0':=Hd S0;have HG:=Hd hgn;have HGS:=Hd hgs;have HGB:=Hd hgb;have HS1:=Hd hs1;have N1:=Hd n1;have N2:=Hd n2;clear hW1 S0 hgn hgs hgb hs1 n1 n2;unfold jad.V;refine (callsIn_wide (n:=0)).1 ?_;refine callsIn_of_wp_marks Tryz.func198 rfl trivial ?_ rfl;simp only[Tryz.ntmps198,List.size_toArray,List.length_cons,List.length_nil,Nat.reduceAdd,Nat.reduceSub,Array.replicate_succ,Array.replicate_zero,List.push_toArray,List.append_toArray,List.nil_append,List.cons_append];gi_wp2_with fail
 rw[<-HG.o,HS1.o];gi_loopw [10] (fun i wr=>jyf w gn gs gb n i wr) (fun i _=>17 - (intOf i).toNat)
 case atStart=>exact⟨0,by omega,rfl,S0'.o⟩
 case round =>
  obtain⟨k,hk,rfl,hS⟩:=hrel
  have q3:=hS.var.cell (i:=0) (v:=.slice (some ⟨gs,0,none⟩) 17 17) vF;have HS:=Hd hS;clear hS
  by_cases hlt:k < 17
  ·have b1:(k:Int) < 17:=by omega
   gi_wp2_with fail
   refine wpIn_wide.2 (jau [0,1,2,3,4] [4] Ext ExtR ExtT vY vY vY ?_);refine qL ⟨gb,0,none⟩ _ rfl (fun w1 h1=>jab Tryz.uStrs rfl (jaa (by exact HS.o.var.cell (i:=0) (v:=.slice (some ⟨gs,0,none⟩) 17 17) vF) h1)) ?_;refine vS ?_
   refine vP ?_
   refine jcY _ 160 #[.string ⟨#[]⟩] (.string (jao ⟨#[]⟩)) rfl vY rfl (fun w1=>jay (vX 160) vY) (fun w1 h1=>jee w1 ⟨#[]⟩ vI) ?_;refine vS ?_
   refine vP ?_
   refine qH _ rfl (fun w1 he K hK=>?_);have S1:=HS.o.st ((jaj wr).trans he)
   obtain⟨old,q1⟩:∃ v,w1.cell? ⟨gs,k,none⟩=some v:=⟨_,S1.row.cellL (List.getElem?_eq_getElem (by rw[List.length_map,S1.len];exact hlt))⟩
   have q2:w1.frozen? ⟨gs,k,none⟩=false:=S1.row.frozen;have S2:=S1.set n3 N1.o N2.o k (jao ⟨#[]⟩);rw[jqa k hlt]at S2;have HS2:=Hd S2;clear S1 S2 he q3 HS;go_simp;refine hK _ _ ?_;clear hK K q1 q2;refine qE (fun w2 he=>?_);have HS3:=Hd (HS2.o.st he);clear he HS2;gi_wp2;go_roundw
   case rel=>exact⟨k+1,by omega,by go_num,HS3.o⟩
   case measure=>simp[intOf];omega
  ·have hk17:k=17:=by omega
   subst hk17;have hB:=HS.o.node;have hld:=jbU wr gn n hr hB;unfold jad.V at hld;clear hB;gi_wp2_with (refine jbk rfl 208 (.tmp 1) rfl _ _ rfl hld ?_)
   refine⟨trivial,rfl,CallsIn.mono (callsIn_wide.2 (jnJ _ n)) ?_⟩
   rintro e w1 ⟨rfl,hbn,hE⟩;have S1:=HS.o.st hE
   obtain⟨gn2,hgn2⟩:∃ g,g=wr.heap.size:=⟨_,rfl⟩
   rw[<-hgn2]at hbn ⊢;have h1:gn < gn2:=by rw[hgn2];exact HS.o.node.lt
   have h2:gs < gn2:=by rw[hgn2];exact HS.o.row.lt
   have h3:gb < gn2:=by rw[hgn2];exact HS.o.var.lt
   have h4:=hbn.lt;have hge:w.heap.size<=w1.heap.size:=S1.ext.size;have he0:jov 17=jdM n 0:=rfl;rw[he0]at S1;clear hld hE HS q3 he0 hgn2;gi_wp2_with fail
   refine jei (N:=n.refsL.length) (gf:=215) (lb:=#[.pointer (some ⟨gn2,0,none⟩)]) rfl (vX 215) (jj1 gn2 n hr)
    (fun k=>rfl) (fun k W=>BrS w gn gs gb n (jdM n k) W/\Blk W gn2 (.cells n.cells.toArray 208)) (fun _ _ _=>False) (fun k W W' ⟨h1,h2⟩ e=>⟨h1.st e,h2.keeps e (fun h=>h)⟩) (fun _ _ _ _ h _=>h) (fun k W ⟨_,h⟩=>h)
    (fun k W o ⟨h5,h6⟩=>⟨h5.put _ hge vO vO vO _,h6.put_other vO _⟩)
    (fun k W o ⟨h5,h6⟩=>⟨h5.put _ vO vO vO vO _,h6.put_other vO _⟩) (fun _ _ _ _ h=>h)
    ⟨S1,hbn⟩ (fun k=>{ tmps:=#[n.V,.pointer (some ⟨gn,0,none⟩),.string ⟨#[]⟩,.pointer (some ⟨gb,0,none⟩),u4,.int .i64 (n.ri k:Nat),.string (n.rr k),.slice (some ⟨gs,0,none⟩) 17 17,.slice (some ⟨gs,0,none⟩) 17 17,.int .i64 17,.int .i64 17,.bool false,u12,u13,u14,u15,u16,u17,n.V,.func (.func 215) #[] #[.pointer (some ⟨gn2,0,none⟩)],.int .i64 (n.ri k:Nat),.string (n.rr k),undef,undef,undef,undef,undef,undef,undef,undef,undef,undef,undef],defers:=[] })
    ?hassign ?hbody ?hdone ?hstop
   case hassign =>
    intro l j W K hK;rw[jtQ,jqc];simp only[List.set_cons_zero,List.set_cons_succ];gi_wp2;exact hK
   case hbody =>
    intro l k W hk ⟨hS,hB⟩ hlt2;have hri:=jtL n hr hk;have q3:=hS.var.cell (i:=0) (v:=.slice (some ⟨gs,0,none⟩) 17 17) vF;have hki:=hri.1;have c1:(n.ri k:Int) < 17:=by omega
    obtain⟨old,q1⟩:∃ v,W.cell? ⟨gs,n.ri k,none⟩=some v:=⟨_,hS.row.cellL (List.getElem?_eq_getElem (by rw[List.length_map,hS.len];omega))⟩
    have q2:W.frozen? ⟨gs,n.ri k,none⟩=false:=hS.row.frozen;have HS:=Hd hS;have HB:=Hd hB;clear hS hB hri S1;gi_wp2;have hb1:=HS.o.row.lt;have hb2:=HS.o.ext.size
    exact⟨(jae.refl _ W).setCell (.inl ⟨by show gs≠_;omega,by show gs≠_;omega⟩) _,by rw[jkz n hk];exact HS.o.set n3 N1.o N2.o _ _,HB.o.set_other (p:=⟨gs,n.ri k,none⟩) (by show gn2≠gs;omega) _⟩
   case hdone =>
    intro W ⟨hS,hB⟩ hd;have q3:=hS.var.cell (i:=0) (v:=.slice (some ⟨gs,0,none⟩) 17 17) vF;have HS:=Hd hS;have HD:=Hd hd;clear hS hB hd S1;gi_wp2_with fail
    refine wpIn_wide.2 (jau [0,1,2,3,4,5] [5] Ext ExtR ExtT vY vY vY ?_);refine qL ⟨gb,0,none⟩ _ rfl (fun w1 h1=>jab Tryz.uStrs rfl (jaa (by exact HS.o.var.cell (i:=0) (v:=.slice (some ⟨gs,0,none⟩) 17 17) vF) h1)) ?_;refine vS ?_
    refine vP ?_
    refine qL ⟨gn,2,none⟩ (.string n.value) rfl (fun w1 h1=>jab Tryz.uStr rfl (jaa (by exact HS.o.node.cellL vF) h1)) ?_;refine vS ?_;refine jcY _ 160 #[.string n.value] (.string (jao n.value)) rfl vY rfl (fun w1=>jay (vX 160) vY) (fun w1 h1=>jee w1 n.value vO) ?_;refine vS ?_
    refine vP ?_
    refine qH _ rfl (fun w2 he K hK=>?_);have S1:=HS.o.st ((jaj W).trans he);have hd2:=HD.o.keeps ((jaj W).trans he) (fun h=>h)
    obtain⟨old,q1⟩:∃ v,w2.cell? ⟨gs,16,none⟩=some v:=⟨_,S1.row.cellL (List.getElem?_eq_getElem (by rw[List.length_map,S1.len];omega))⟩
    have q2:w2.frozen? ⟨gs,16,none⟩=false:=S1.row.frozen;have S2:=S1.set n3 N1.o N2.o 16 (jao n.value);have hd3:=hd2.set_other (p:=⟨gs,16,none⟩) (by show w1.heap.size≠gs;omega) (.string (jao n.value));have HS2:=Hd S2;have HD2:=Hd hd3;clear S1 S2 he q3 HS HD hd2 hd3;go_simp;refine hK _ _ ?_;clear hK K q1 q2;refine qE (fun w3 he=>?_);have HS3:=Hd (HS2.o.st he);have HD3:=Hd (HD2.o.keeps he (fun h=>h));have q3:=HS3.o.var.cell (i:=0) (v:=.slice (some ⟨gs,0,none⟩) 17 17) vF;clear he HS2 HD2;gi_wp2_with fail
    have hrd:RdS w3 (.slice (some ⟨gs,0,none⟩) 17 17) (jbH n):=by
     have hl:(jbH n).length=17:=HS3.o.len;exact .inr ⟨gs,0,17,by rw[hl],HS3.o.row.lt,by omega,fun j x hx=>by rw[Nat.zero_add];exact HS3.o.row.cellL (by rw[List.getElem?_map];show ((jbH n)[j]?).map _=_;rw[hx];rfl)⟩
    refine⟨trivial,rfl,CallsIn.mono (callsIn_wide.2 (jqz w3 _ (jbH n) hrd hc (by have:(jbH n).length=17:=HS3.o.len;omega))) ?_⟩
    rintro e w4 ⟨rfl,hE⟩;have hd4:=HD3.o.keeps hE (fun h=>h);have HE:=Hd (HS3.o.ext.trans hE);have HD4:=Hd hd4;clear hE hd4 HS3 HD3 hrd q3;gi_wp2_with fail
    refine⟨by simp,.inl ⟨_,_,rfl,run_takeDeferred HD4.o,?_⟩⟩
    refine⟨_,results_tmp rfl _ _ _,?_⟩
    exact⟨rfl,HE.o.putObj (.inr hge) _⟩
   case hstop=>intro c k W _ _ h;exact h.elim
def jfN(x:vB):Prop:=∀ y:vB,(x++y).size<=1000000000->∃ r,cutN (x++y)=some r/\r.2.1+r.2.2=x.size
theorem ju5(x:vB)(xs:List vB):catB (x :: xs)=x++catB xs:=by
 apply ByteArray.ext;apply Array.ext';simp[catB,ByteArray.data_append]
theorem jkO(x y:vB):(x++y).extract 0 x.size=x:=ByteArray.extract_append_eq_left rfl
theorem jhH(x y:vB):(x++y).extract x.size (x++y).size=y:=ByteArray.extract_append_eq_right rfl (by rw[ByteArray.size_append])
theorem jjs{s:vB}{r:Bool × Nat × Nat}(h:cutN s=some r):0 < s.size/\0 < r.2.1+r.2.2:=by
 unfold cutN at h
 by_cases h0:0 < s.size
 ·refine⟨h0,?_⟩
  rw[dif_pos h0]at h;simp only at h
  by_cases h1:s[0].toNat < 128
  ·rw[if_pos h1]at h
   obtain rfl:=Option.some.inj h;simp
  ·rw[if_neg h1]at h
   obtain⟨lm,hlm⟩:∃ lm:Bool × Nat,lm=if s[0].toNat < 192 then (false,s[0].toNat - 128)else (true,s[0].toNat - 192):=⟨_,rfl⟩
   rw[<-hlm]at h;clear hlm
   obtain⟨l,m⟩:=lm
   simp only at h
   by_cases h3:m<=55
   ·rw[if_pos h3]at h
    split at h
    ·obtain rfl:=Option.some.inj h;simp only;omega
    ·cases h
   ·rw[if_neg h3]at h
    split at h
    ·split at h
     ·obtain rfl:=Option.some.inj h;simp only;omega
     ·cases h
    ·cases h
 ·rw[dif_neg h0]at h;cases h
theorem jsK{xs:List vB}{k:Nat}(h:k < xs.length):catB (xs.drop k)=xs[k]++catB (xs.drop (k+1)):=by
 rw[List.drop_eq_getElem_cons h,ju5]
def jik:Value->Nat | .string b=>b.size | _=>0
def juC(W:World)(xs:List vB)(C:Nat->World->Prop)(v:Value)(wr:World):Prop:=∃ k:Nat,k<=xs.length/\v=.string (catB (xs.drop k))/\C k wr
theorem jvd(b:Nat)(xs:List vB)(hx:∀ x∈xs,jfN x)(hs:(catB xs).size<=1000000000):jsc Tryz.prog 246 #[.pointer (some ⟨b,0,none⟩)] xs.length (fun k=>#[.string (xs.getD k ⟨#[]⟩),.nilIface]) (fun W=>Blk W b (.cells #[.string (catB xs)] 9)):=by
 intro l C Cx hC hCx hS W hY h0;have hB:=(hS 0 W h0).cell (i:=0) (v:=.string (catB xs)) vF;have HY:=Hd hY;have H0:=Hd h0;have HSZ:=Hd hs;clear hY h0 hS hs;refine callsIn_of_wp Tryz.func246 rfl trivial ?_ rfl;simp only[Tryz.ntmps246,List.size_toArray,List.length_cons,List.length_nil,Nat.reduceAdd,Nat.reduceSub,Array.replicate_succ,Array.replicate_zero,List.push_toArray,List.append_toArray,List.nil_append,List.cons_append];gi_wp2;have HST:=Hd hC;have HSX:=Hd hCx;clear hC hCx;gi_loopw [3] (fun v wr=>juC W xs C v wr) (fun v _=>jik v)
 case atStart=>exact⟨0,by omega,rfl,H0.o⟩
 case round =>
  obtain⟨k,hk,rfl,hCk⟩:=hrel
  have HCk:=Hd hCk;clear hCk
  by_cases hlt:k < xs.length
  ·obtain⟨x,hxk⟩:=vE (xs[k])
   have hdc:=jsK hlt;rw[<-hxk]at hdc
   obtain⟨y,hy⟩:=vE (catB (xs.drop (k+1)))
   rw[<-hy]at hdc;have hsz:(x++y).size<=1000000000:=by
    have h1:(catB (xs.drop k)).size<=(catB xs).size:=by
     have h2:(catB xs).size=(catB (xs.take k)).size+(catB (xs.drop k)).size:=by
      conv=>lhs;rw[<-List.take_append_drop k xs]
      simp only[catB,ByteArray.size,List.map_append,List.flatten_append,List.size_toArray,List.length_append]
     omega
    rw[hdc]at h1;have:=HSZ.o;omega
   obtain⟨r,hr1,hr2⟩:=hx x (hxk ▸ List.getElem_mem hlt) y hsz
   obtain⟨z,hz⟩:=vE (x++y)
   have hzs:z.size=x.size+y.size:=by rw[hz,ByteArray.size_append]
   rw[<-hz]at hdc hsz hr1;rw[hdc];have hpos:=jjs hr1;have hne:=ja8 hpos.1;have he1:z.extract (r.2.1+r.2.2) z.size=y:=by
    rw[hr2,hz];exact jhH x y
   have he2:z.extract 0 x.size=x:=by
    rw[hz];exact jkO x y
   have hgx:xs.getD k ⟨#[]⟩=x:=by rw[List.getD_eq_getElem?_getD,List.getElem?_eq_getElem hlt, <-hxk];rfl
   have HGX:=Hd hgx;have HX:=Hd hxk;have HSS:=Hd hsz;have HYY:=Hd hy;have HZ:=Hd hz;have HZS:=Hd hzs;have HP:=Hd hpos;have HR2:=Hd hr2;clear hxk hdc hy hz hgx hpos hr2 hzs;gi_wp2_with fail
   refine⟨trivial,rfl,CallsIn.mono (callsIn_wide.2 (jw9 wr z r hsz hr1)) ?_⟩
   rintro e w1 ⟨rfl,hE⟩;unfold jdr;rw[he1]
   obtain⟨u,hu⟩:=vE (z.extract r.2.1 (r.2.1+r.2.2))
   rw[<-hu]
   obtain⟨b1,o,ln⟩:=r
   simp only;clear hr1 he1 hu hsz
   obtain⟨fn,tm,asg,bd,hyr,hrd⟩:=HY.o k w1 hlt (HST.o k _ _ HCk.o hE)
   simp only[HGX.o]at hyr;have HRD:=Hd hrd;clear hE hrd;have c1:(z.size:Int) - (y.size:Int)=(x.size:Int):=by have:=HZS.o;omega
   have c2:(x.size:Int)<=(z.size:Int):=by have:=HZS.o;omega
   have c3:z.size<=1000000000:=HSS.o;gi_wp2
   refine⟨rfl,(HRD.o.mono ?_)⟩
   rintro e w5 (⟨rfl,C5⟩ |⟨rfl,C5⟩)
   ·have HC5:=Hd C5
    clear C5;gi_wp2;go_roundw
    case rel=>exact⟨k+1,by omega,by rw[<-HYY.o],HC5.o⟩
    case measure=>show y.size < z.size;have:=(show 0 < o+ln from HP.o.2);have:=HZS.o;have:=(show o+ln=x.size from HR2.o);omega
   ·have HC5:=Hd C5
    clear C5;gi_wp2;refine bodyPost_ret (results_none rfl _ _ _) rfl ?_
    exact⟨⟨_,rfl⟩,.inr ⟨k+1,by omega,by omega,HC5.o⟩⟩
  ·have hkl:k=xs.length:=by omega
   subst hkl;have hd:catB (xs.drop xs.length)=⟨#[]⟩:=by rw[List.drop_length];rfl
   rw[hd];gi_wp2;refine bodyPost_end (results_none rfl _ _ _) rfl ?_
   exact⟨⟨_,rfl⟩,.inl HCk.o⟩
theorem jxd(w:World)(s:vB):vQ 226 #[.string s] w fun e w'=>e=.returned (.func (.func 246) #[] #[.pointer (some ⟨w.heap.size,0,none⟩)])/\Blk w' w.heap.size (.cells #[.string s] 9)/\Ext w w':=by
 go_enter Tryz.func226,Tryz.ntmps226;go_wp2_with fail
 go_ret
 exact⟨rfl,Blk.new w _,(ExtR w).alloc _⟩
theorem Tryz.sStrs:jeF Tryz.prog 34 9 1 16:=jeF.mk' vY (show (Tryz.prog.info? 9).map (fun i=>(i.zero,i.size,i.bytes))=some (some (.string ⟨#[]⟩),1,16) by kernel_rfl) rfl vI
structure ItS(w:World)(g m:Nat)(xs:List vB)(k:Nat)(W:World):Prop where
 ext:Ext w W
 b2:Blk W g (.cells #[.slice none 0 0] 34)
 b3:Blk W (g+1) (.cells #[.int .i64 0] 27)
 bc:Blk W (g+3) (.cells #[.string (catB xs)] 9)
 row:∃ v,Blk W (g+2) (.cells #[v] 34)/\W.ownsRow 0 9 1 v k ((xs.take k).map Value.string)/\∀ b,v.ownBlock=some b->m+2<=b
theorem ItS.st{w:World}{g m:Nat}{xs:List vB}{k:Nat}{W W':World}(h:ItS w g m xs k W)(e:Ext W W'):ItS w g m xs k W':=
 let ⟨v,h1,h2,h3⟩:=h.row
 ⟨h.ext.trans e,h.b2.keeps e (fun h=>h),h.b3.keeps e (fun h=>h),h.bc.keeps e (fun h=>h),v,h1.keeps e (fun h=>h),jbe h2 e,h3⟩
theorem ItS.put{w:World}{g m:Nat}{xs:List vB}{k:Nat}{W:World}(h:ItS w g m xs k W){r:Nat}(hr:w.heap.size<=r)(h1:g+3 < r)(h2:r < m+2)(o:Obj):ItS w g m xs k (W.putObj r o):=
 let ⟨v,h3,h4,h5⟩:=h.row
 ⟨h.ext.putObj (.inr hr) _,h.b2.put_other vO _,h.b3.put_other vO _,h.bc.put_other vO _,v,h3.put_other vO _,
  jaW h4 (jae.onePut W r o) (fun b hb e=>by have:=h5 b hb;omega),h5⟩
theorem jqt(w:World)(xs:List vB)(hx:∀ x∈xs,jfN x)(hs:(catB xs).size<=1000000000)(hn:xs.length<=1000000):vQ 188 #[.string (catB xs)] w fun e w'=>∃ v,e=.returned (.tuple #[v,.int .i64 0])/\SRow w w' v xs.length xs:=by
 obtain⟨i0,hi,hz0,hz1,hz2⟩:=info_parts Tryz.infoStr
 refine (callsIn_wide (n:=0)).1 ?_;refine callsIn_of_wp_marks Tryz.func188 rfl trivial ?_ rfl;simp only[Tryz.ntmps188,List.size_toArray,List.length_cons,List.length_nil,Nat.reduceAdd,Nat.reduceSub,Array.replicate_succ,Array.replicate_zero,List.push_toArray,List.append_toArray,List.nil_append,List.cons_append];gi_wp2_with fail
 obtain⟨W0,hW0⟩:=vE (((w.alloc (.cells #[.slice none 0 0] 34)).alloc (.cells #[.int .i64 0] 27)).alloc (.cells #[.slice none 0 0] 34))
 rw[<-hW0];have hs0:W0.heap.size=w.heap.size+3:=by rw[hW0];simp
 have E0:Ext w W0:=by rw[hW0];exact ((((ExtR w).alloc _).alloc _).alloc _)
 have B2:Blk W0 w.heap.size (.cells #[.slice none 0 0] 34):=by rw[hW0];exact ((Blk.new w _).alloc _).alloc _
 have B3:Blk W0 (w.heap.size+1) (.cells #[.int .i64 0] 27):=by
  rw[hW0];have:=(Blk.new (w.alloc (.cells #[.slice none 0 0] 34)) (.cells #[.int .i64 0] 27)).alloc (.cells #[.slice none 0 0] 34);rwa [World.size_alloc]at this
 have B4:Blk W0 (w.heap.size+2) (.cells #[.slice none 0 0] 34):=by
  rw[hW0];have:=(Blk.new ((w.alloc (.cells #[.slice none 0 0] 34)).alloc (.cells #[.int .i64 0] 27)) (.cells #[.slice none 0 0] 34));rwa [World.size_alloc,World.size_alloc]at this
 clear hW0
 refine⟨trivial,rfl,CallsIn.mono (callsIn_wide.2 (jxd W0 (catB xs))) ?_⟩
 rintro e w1 ⟨rfl,hbc,hE⟩;rw[hs0]at hbc ⊢;have S0:ItS w w.heap.size w1.heap.size xs 0 w1:=⟨E0.trans hE,B2.keeps hE (fun h=>h),B3.keeps hE (fun h=>h),hbc,_,B4.keeps hE (fun h=>h),World.ownsRow_nil _ _ _ _,fun b hb=>by cases hb⟩;have hl1:=hbc.lt;have HS0:=Hd S0;clear hs0 E0 B2 B3 B4 hbc hE S0 W0;gi_wp2_with fail
 refine jei (N:=xs.length) (gf:=246) (lb:=#[.pointer (some ⟨w.heap.size+3,0,none⟩)]) rfl (vX 246) (jvd (w.heap.size+3) xs hx hs)
  (fun k=>rfl) (ItS w w.heap.size w1.heap.size xs) (fun _ _ _=>False) (fun k W W' h e=>h.st e) (fun _ _ _ _ h _=>h) (fun k W h=>h.bc)
  (fun k W o h=>h.put vO vO vO _)
  (fun k W o h=>h.put vO vO vO _) (fun _ _ _ _ h=>h)
  HS0.o (fun k=>{ tmps:=#[.string (catB xs),undef,.pointer (some ⟨w.heap.size,0,none⟩),.pointer (some ⟨w.heap.size+1,0,none⟩),.pointer (some ⟨w.heap.size+1+1,0,none⟩),.string (xs.getD k ⟨#[]⟩),.nilIface,undef,undef,.string (catB xs),.func (.func 246) #[] #[.pointer (some ⟨w.heap.size+3,0,none⟩)],.string (xs.getD k ⟨#[]⟩),.nilIface,undef,undef,undef,undef,undef,undef,undef,undef,undef,undef,undef,undef,undef],defers:=[] })
  ?hassign ?hbody ?hdone ?hstop
 case hassign =>
  intro l j W K hK;rw[jqc];simp only[List.set_cons_zero,List.set_cons_succ];gi_wp2;exact hK
 case hbody =>
  intro l k W hk hS hlt
  obtain⟨v,h1,h2,h3⟩:=hS.row
  obtain⟨ad,cp,rfl⟩:=jaJ h2
  obtain⟨x,hxk⟩:=vE (xs.getD k ⟨#[]⟩)
  rw[<-hxk];have q4:W.cell? ⟨w.heap.size+1+1,0,none⟩=some (.slice ad k cp):=h1.cell (i:=0) vF;have f4:W.frozen? ⟨w.heap.size+1+1,0,none⟩=false:=h1.frozen;have HS:=Hd hS;have H1:=Hd h1;have H2:=Hd h2;have H3:=Hd h3;have HXK:=Hd hxk;clear hS h1 h2 h3 hxk;gi_wp2_with (gi_at_builtin;refine jbV _ rfl (.tmp 21) (.tmp 23) 34 rfl 9 i0 _ 1 16 Tryz.uStrs hi hz0 hz1 hz2 rfl vI (.slice ad k cp) k _ rfl (jbe H2.o ((ExtR W).alloc _)) ⟨W.heap.size,0,none⟩ 1 1 [.string x] rfl rfl (jaS (Blk.new W _)) (by simp[Value.oneCell']) (by unfold maxLen;omega) vO ?_)
  intro v' w6 r1 r2 r3;have K6:jae (fun b=>(Value.slice ad k cp).ownBlock=some b) W w6:=((jae.refl _ W).alloc _).trans r2;have e1:((xs.take k).map Value.string++[.string x])=(xs.take (k+1)).map Value.string:=by
   rw[List.take_succ_eq_append_getElem hk,List.map_append,HXK.o];simp[List.getD_eq_getElem?_getD,hk]
  have r1:w6.ownsRow 0 9 1 v' (k+1) ((xs.take (k+1)).map Value.string):=by rw[<-e1,List.map_take];exact r1
  have hlt1:=HS.o.b2.lt;have hlt4:=H1.o.lt;have hw3:w.heap.size<=w1.heap.size:=by omega
  have nb:∀ b,b < w1.heap.size+2->¬(Value.slice ad k cp).ownBlock=some b:=fun b hb e=>by have:=H3.o b e;omega
  obtain⟨ad',cp',rfl⟩:=jaJ r1
  have hv':∀ b,(Value.slice ad' (k+1) cp').ownBlock=some b->w1.heap.size+2<=b:=fun b hb=>by
   rcases r3 with r3 | r3
   ·exact H3.o b (r3 ▸ hb)
   ·have:=r3 b hb;omega
  have B4:=H1.o.keeps K6 (nb _ vO);have q4':w6.cell? ⟨w.heap.size+1+1,0,none⟩=some (.slice ad k cp):=B4.cell (i:=0) vF;have f4':w6.frozen? ⟨w.heap.size+1+1,0,none⟩=false:=B4.frozen;have HK6:=Hd K6;have HB4:=Hd B4;have R1:=Hd r1;have HV':=Hd hv';have NB:=Hd nb;clear K6 r1 r2 r3 e1 hv' B4 nb q4 f4;gi_wp2;have k7:jae (fun b=>b=w.heap.size+1+1) w6 (w6.setCell ⟨w.heap.size+1+1,0,none⟩ (.slice ad' (k+1) cp')):=jae.oneSet w6 ⟨w.heap.size+1+1,0,none⟩ _
  refine⟨(HK6.o.mono (fun x _ e=>?_)).trans' k7 (fun x _ e=>?_),?_⟩
  ·have:=H3.o x e;show x≠_/\x≠_;omega
  ·have e:x=_:=e;show x≠_/\x≠_;omega
  ·refine⟨(HS.o.ext.trans' HK6.o (fun x hx e=>by have:=H3.o x e;omega)).trans' k7 (fun x hx e=>by have e:x=_:=e;omega),
    (HS.o.b2.keeps HK6.o (NB.o _ vO)).keeps k7 (fun e=>by omega),(HS.o.b3.keeps HK6.o (NB.o _ vO)).keeps k7 (fun e=>by omega),(HS.o.bc.keeps HK6.o (NB.o _ vO)).keeps k7 (fun e=>by omega),
    _,HB4.o.set_same (i:=0) _,jaW R1.o k7 (fun b hb e=>by have:=HV'.o b hb;omega),HV'.o⟩
 case hdone =>
  intro W hS hd
  obtain⟨v,h1,h2,h3⟩:=hS.row
  obtain⟨ad,cp,rfl⟩:=jaJ h2
  have q4:W.cell? ⟨w.heap.size+1+1,0,none⟩=some (.slice ad xs.length cp):=h1.cell (i:=0) vF;have q2:=hS.b2.cell (i:=0) (v:=.slice none 0 0) vF;have f2:W.frozen? ⟨w.heap.size,0,none⟩=false:=hS.b2.frozen;have q3:=hS.b3.cell (i:=0) (v:=.int .i64 0) vF;have f3:W.frozen? ⟨w.heap.size+1,0,none⟩=false:=hS.b3.frozen;have HS:=Hd hS;have H2:=Hd h2;have H3:=Hd h3;have HD:=Hd hd;clear hS h1 h2 h3 hd;gi_wp2
  obtain⟨W3,hW3⟩:=vE ((W.setCell ⟨w.heap.size,0,none⟩ (.slice ad xs.length cp)).setCell ⟨w.heap.size+1,0,none⟩ (.int .i64 0))
  rw[<-hW3];have B2:=(HS.o.b2.set_same (i:=0) (.slice ad xs.length cp)).set_other (p:=⟨w.heap.size+1,0,none⟩) (by show w.heap.size≠w.heap.size+1;omega) (.int .i64 0);have B3:=(HS.o.b3.set_other (p:=⟨w.heap.size,0,none⟩) (by show w.heap.size+1≠w.heap.size;omega) (.slice ad xs.length cp)).set_same (i:=0) (.int .i64 0);have BD:=(HD.o.set_other (p:=⟨w.heap.size,0,none⟩) (by show w1.heap.size≠w.heap.size;omega) (.slice ad xs.length cp)).set_other (p:=⟨w.heap.size+1,0,none⟩) (by show w1.heap.size≠w.heap.size+1;omega) (.int .i64 0);rw[<-hW3]at B2 B3 BD;have K1:=(jae.oneSet W ⟨w.heap.size,0,none⟩ (.slice ad xs.length cp));have K3:jae (fun b=>b=w.heap.size\/b=w.heap.size+1\/b=w1.heap.size) W (W3.putObj w1.heap.size (.deferred none)):=by
   rw[hW3];exact (((jae.refl _ W).setCell (.inl (.inl rfl)) _).setCell (.inl (.inr (.inl rfl))) _).putObj (.inl (.inr (.inr rfl))) _
  have c2:(W3.putObj w1.heap.size (.deferred none)).cell? ⟨w.heap.size,0,none⟩=some (.slice ad xs.length cp):=(B2.put_other vO _).cell (i:=0) (by simp);have c3:(W3.putObj w1.heap.size (.deferred none)).cell? ⟨w.heap.size+1,0,none⟩=some (.int .i64 0):=(B3.put_other vO _).cell (i:=0) (by simp)
  refine⟨by simp,.inl ⟨_,_,rfl,run_takeDeferred BD,?_⟩⟩
  refine⟨.tuple #[.slice ad xs.length cp,.int .i64 0],by simp[results,Tryz.results188,go_sem,c2,c3],?_⟩
  refine⟨_,rfl,⟨_,_,rfl⟩,?_,HS.o.ext.trans' K3 (fun x hx e=>by omega),fun b hb=>by have:=H3.o b hb;omega⟩
  have h5:=jaW H2.o K3 (fun b hb e=>by have:=H3.o b hb;omega)
  rwa [List.take_length]at h5
 case hstop=>intro c k W _ _ h;exact h.elim
end
theorem jqv:∀ (f n:Nat),n < 256 ^ f->beN (leF f n).reverse=n
 | 0,n,h=>by simp at h;subst h;rfl
 | f+1,n,h=>by
  unfold leF
  by_cases h0:n=0
  ·rw[if_pos h0,h0];rfl
  ·rw[if_neg h0,List.reverse_cons,jjj,jqv f (n / 256) (by rw[Nat.pow_succ]at h;omega)]
   have:(UInt8.ofNat n).toNat=n % 256:=rfl
   omega
theorem jns:∀ (f n:Nat),n < 256 ^ f->0 < n->∃ x l,(leF f n).reverse=x :: l/\x≠0
 | 0,n,h,h0=>by simp at h;omega
 | f+1,n,h,h0=>by
  unfold leF;rw[if_neg vO,List.reverse_cons]
  by_cases h1:n / 256=0
  ·have:leF f (n / 256)=[]:=by rw[h1];cases f <;> simp[leF]
   rw[this]
   refine⟨_,_,rfl,fun e=>?_⟩
   have e2:(UInt8.ofNat n).toNat=(0:UInt8).toNat:=by rw[e]
   have:(UInt8.ofNat n).toNat=n % 256:=rfl
   have h3:(0:UInt8).toNat=0:=rfl;omega
  ·obtain⟨x,l,h2,h3⟩:=jns f (n / 256) (by rw[Nat.pow_succ]at h;omega) vO
   exact⟨x,l++[UInt8.ofNat n],by rw[h2];rfl,h3⟩
theorem jfV(a:UInt8)(t:List UInt8):cutN ⟨(a :: t).toArray⟩ =
  (if a.toNat < 128 then some (false,0,1)else
   if (if a.toNat < 192 then a.toNat - 128 else a.toNat - 192)<=55 then
    if 1+(if a.toNat < 192 then a.toNat - 128 else a.toNat - 192)<=t.length+1/\(decide (192<=a.toNat)=true\/(if a.toNat < 192 then a.toNat - 128 else a.toNat - 192)≠1\/128<=((a :: t).getD 1 0).toNat)then some (decide (192<=a.toNat),1,(if a.toNat < 192 then a.toNat - 128 else a.toNat - 192))else none
   else match lenB ⟨(a :: t).toArray⟩ (1+((if a.toNat < 192 then a.toNat - 128 else a.toNat - 192) - 55))with
    | some n=>if 1+((if a.toNat < 192 then a.toNat - 128 else a.toNat - 192) - 55)+n<=t.length+1 then some (decide (192<=a.toNat),1+((if a.toNat < 192 then a.toNat - 128 else a.toNat - 192) - 55),n)else none
    | none=>none):=by
 have hsz:(⟨(a :: t).toArray⟩:vB).size=t.length+1:=rfl;have h0:0 < (⟨(a :: t).toArray⟩:vB).size:=by rw[hsz];omega
 have ha:(⟨(a :: t).toArray⟩:vB)[0]'h0=a:=rfl;unfold cutN;rw[dif_pos h0];simp only[ha,hsz]
 by_cases h1:a.toNat < 128
 ·rw[if_pos h1,if_pos h1]
 ·rw[if_neg h1,if_neg h1]
  by_cases h2:a.toNat < 192
  ·simp only[if_pos h2,show decide (192<=a.toNat)=false by simp;omega];rfl
  ·simp only[if_neg h2,show decide (192<=a.toNat)=true by simp;omega];rfl
def hb(l:Bool):UInt8:=if l then 192 else 128
theorem juz(a b:UInt8)(h:a.toNat+b.toNat < 256):(a+b).toNat=a.toNat+b.toNat:=by rw[UInt8.toNat_add];omega
theorem jo8(n:Nat)(h:n < 256):(UInt8.ofNat n).toNat=n:=by show n % 256=n;omega
theorem juo(l:Bool):(hb l).toNat=if l then 192 else 128:=by cases l <;> rfl
theorem jsB(l:Bool)(b y:List UInt8)(hn:b.length<=1048576)(h1:l=false->b.length=1->128<=(b.headD 0).toNat) :
  cutN ⟨((jbZ (hb l) b.length).data.toList++(b++y)).toArray⟩=some (l,(jbZ (hb l) b.length).size,b.length):=by
 by_cases hs:b.length<=55
 ·have he:(jbZ (hb l) b.length)=⟨#[hb l+UInt8.ofNat b.length]⟩:=by unfold jbZ;rw[if_pos hs]
  rw[he];have ha:(hb l+UInt8.ofNat b.length).toNat=(if l then 192 else 128)+b.length:=by
   rw[juz _ _ (by rw[juo,jo8 _ vO];split <;> omega),juo,jo8 _ vO]
  have hsz:(⟨#[hb l+UInt8.ofNat b.length]⟩:vB).size=1:=rfl;rw[hsz]
  obtain⟨a,hadef⟩:=vE (hb l+UInt8.ofNat b.length)
  rw[<-hadef]at ha ⊢;have hm:(if a.toNat < 192 then a.toNat - 128 else a.toNat - 192)=b.length:=by
   rw[ha];cases l <;> simp only[Bool.false_eq_true,if_false,if_true]
   ·rw[if_pos vO];omega
   ·rw[if_neg vO];omega
  have hl2:decide (192<=a.toNat)=l:=by
   rw[ha];cases l <;> simp <;> omega
  show cutN ⟨(a ::(b++y)).toArray⟩=_;rw[jfV,hm,hl2,if_neg (by rw[ha];split <;> omega),if_pos hs,if_pos]
  refine⟨by rw[List.length_append];omega,?_⟩
  cases l with
  | true=>exact .inl rfl
  | false =>
   refine .inr ?_
   by_cases h2:b.length=1
   ·refine .inr ?_
    have:=h1 rfl h2
    match b,h2 with
    | [x],_=>simpa using this
   ·exact .inl h2
 ·obtain⟨d,hd⟩:=vE (leF 8 b.length).reverse
  have hp:b.length < 256 ^ 8:=by omega
  have hk8:d.length<=8:=by rw[hd,List.length_reverse];exact jgI _ _
  have hbe:beN d=b.length:=by rw[hd];exact jqv _ _ hp
  obtain⟨x,r,hxr,hx0⟩:=jns 8 b.length hp vO
  rw[<-hd]at hxr;have hdig:jcJ b.length=⟨d.toArray⟩:=by unfold jcJ;rw[hd]
  have hdl:(⟨d.toArray⟩:vB).size=d.length:=rfl;have he:(jbZ (hb l) b.length)=⟨#[hb l+55+UInt8.ofNat d.length]⟩++⟨d.toArray⟩:=by unfold jbZ;rw[if_neg hs,hdig,hdl]
  have hel:(jbZ (hb l) b.length).data.toList=(hb l+55+UInt8.ofNat d.length) :: d:=by
   rw[he,ByteArray.data_append];simp
  have hes:(jbZ (hb l) b.length).size=1+d.length:=by
   show (jbZ (hb l) b.length).data.toList.length=_;rw[hel,List.length_cons];omega
  rw[hel,hes];have h55:(hb l+55:UInt8).toNat=(if l then 192 else 128)+55:=by cases l <;> rfl
  have ha:(hb l+55+UInt8.ofNat d.length).toNat=(if l then 192 else 128)+55+d.length:=by
   rw[juz _ _ (by rw[h55,jo8 _ vO];split <;> omega),h55,jo8 _ vO]
  obtain⟨a,hadef⟩:=vE (hb l+55+UInt8.ofNat d.length)
  rw[<-hadef]at ha ⊢;have hk1:1<=d.length:=by rw[hxr];simp
  have hm:(if a.toNat < 192 then a.toNat - 128 else a.toNat - 192)=55+d.length:=by
   rw[ha];cases l <;> simp only[Bool.false_eq_true,if_false,if_true]
   ·rw[if_pos vO];omega
   ·rw[if_neg vO];omega
  have hl2:decide (192<=a.toNat)=l:=by
   rw[ha];cases l <;> simp <;> omega
  have hln:lenB ⟨(a ::(d++(b++y))).toArray⟩ (1+d.length)=some b.length:=by
   have e1:((⟨(a ::(d++(b++y))).toArray⟩:vB).data.toList.take (1+d.length)).drop 1=d:=by
    show ((a ::(d++(b++y))).take (1+d.length)).drop 1=d;rw[Nat.add_comm,List.take_succ_cons,List.drop_succ_cons,List.drop_zero,List.take_left]
   unfold lenB;rw[if_neg,e1,hbe,if_pos ⟨by omega,hn⟩];rintro (h | h)
   ·have:(⟨(a ::(d++(b++y))).toArray⟩:vB).size=(d++(b++y)).length+1:=rfl
    rw[this,List.length_append]at h;omega
   ·have:(⟨(a ::(d++(b++y))).toArray⟩:vB).data.toList.getD 1 0=x:=by rw[hxr];rfl
    rw[this]at h;exact hx0 h
  show cutN ⟨(a ::(d++(b++y))).toArray⟩=_;rw[jfV,hm,hl2,if_neg (by rw[ha];split <;> omega),if_neg vO,show 55+d.length - 55=d.length by omega,hln];simp only[List.length_append];rw[if_pos vO]
theorem jsl(s:vB):s=⟨s.data.toList.toArray⟩:=rfl
theorem jkK(l:Bool)(b y:vB)(hn:b.size<=1048576)(h1:l=false->b.size=1->128<=(b.data.toList.headD 0).toNat) :
  cutN (jbZ (hb l) b.size++b++y)=some (l,(jbZ (hb l) b.size).size,b.size):=by
 have h:=jsB l b.data.toList y.data.toList hn h1;rw[jsl (jbZ (hb l) b.size++b++y)];simp only[ByteArray.data_append,Array.toList_append,List.append_assoc];exact h
theorem jhK(h b y:vB):(h++b++y).extract h.size (h.size+b.size)=b:=by
 apply ByteArray.ext;apply Array.ext';rw[ByteArray.data_extract,Array.toList_extract,ByteArray.data_append,ByteArray.data_append,Array.toList_append,Array.toList_append,List.extract_eq_take_drop,
  show h.size+b.size - h.size=b.data.toList.length by show _=b.size;omega,List.append_assoc,show h.size=h.data.toList.length from rfl,List.drop_left,List.take_left]
theorem jhy(b y:vB)(hn:b.size<=1048576):∃ o,cutN (jao b++y)=some (false,o,b.size)/\o+b.size=(jao b).size/\(jao b++y).extract o (o+b.size)=b:=by
 by_cases h:b.size=1/\b.data.toList.headD 255 < 128
 ·obtain⟨h1,h2⟩:=h
  obtain⟨⟨lb⟩⟩:=b
  have h1':lb.length=1:=h1
  match lb,h1',h2 with
  | [x],_,h2 =>
   have h2':x.toNat < 128:=UInt8.lt_iff_toNat_lt.1 h2;have ht:jao ⟨#[x]⟩=⟨#[x]⟩:=by unfold jao;rw[if_pos ⟨rfl,h2⟩]
   refine⟨0,?_,?_,?_⟩
   ·rw[show (⟨[x].toArray⟩:vB)=⟨#[x]⟩from rfl,ht,jsl (_++y),ByteArray.data_append,Array.toList_append]
    show cutN ⟨(x :: y.data.toList).toArray⟩=_;rw[jfV,if_pos h2'];rfl
   ·rw[show (⟨[x].toArray⟩:vB)=⟨#[x]⟩from rfl,ht];rfl
   ·rw[show (⟨[x].toArray⟩:vB)=⟨#[x]⟩from rfl,ht,Nat.zero_add];exact jkO _ _
 ·have ht:jao b=jbZ (hb false) b.size++b:=by unfold jao;rw[if_neg h];rfl
  rw[ht]
  refine⟨_,jkK false b y hn (fun _ h1=>?_),by rw[ByteArray.size_append],jhK _ _ _⟩
  obtain⟨⟨lb⟩⟩:=b
  have h1':lb.length=1:=h1
  match lb,h1',h with
  | [x],_,h =>
   have h3:¬ x < 128:=fun hx=>h ⟨rfl,hx⟩;have h4:¬ x.toNat < (128:UInt8).toNat:=fun hx=>h3 (UInt8.lt_iff_toNat_lt.2 hx);have h5:(128:UInt8).toNat=128:=rfl;show 128<=x.toNat;omega
theorem jhv(xs:List vB)(y:vB)(hn:(catB xs).size<=1048576):∃ o,cutN (ja4 xs++y)=some (true,o,(catB xs).size)/\o+(catB xs).size=(ja4 xs).size/\(ja4 xs++y).extract o (o+(catB xs).size)=catB xs:=by
 have ht:ja4 xs=jbZ (hb true) (catB xs).size++catB xs:=rfl;rw[ht]
 exact⟨_,jkK true _ y hn (fun h=>by cases h),by rw[ByteArray.size_append],jhK _ _ _⟩
theorem jcS(b:vB)(hn:b.size<=1048576):jfN (jao b):=fun y _=>let ⟨o,h1,h2,_⟩:=jhy b y hn;⟨_,h1,h2⟩
theorem jmp(xs:List vB)(hn:(catB xs).size<=1048576):jfN (ja4 xs):=fun y _=>let ⟨o,h1,h2,_⟩:=jhv xs y hn;⟨_,h1,h2⟩
theorem jpv(x:vB):x++⟨#[]⟩=x:=ByteArray.append_empty
theorem jhx(b:vB)(hn:b.size<=1048576):∃ o,cutN (jao b)=some (false,o,b.size)/\o+b.size=(jao b).size/\(jao b).extract o (o+b.size)=b:=by
 have:=jhy b ⟨#[]⟩ hn;rwa [jpv]at this
theorem jeP(xs:List vB)(hn:(catB xs).size<=1048576):∃ o,cutN (ja4 xs)=some (true,o,(catB xs).size)/\o+(catB xs).size=(ja4 xs).size/\(ja4 xs).extract o (o+(catB xs).size)=catB xs:=by
 have:=jhv xs ⟨#[]⟩ hn;rwa [jpv]at this
theorem jd8(b:vB)(hn:b.size<=1048576):∃ r,cutN (jao b)=some r/\jeX (jao b) r=some b:=by
 obtain⟨o,h1,h2,h3⟩:=jhx b hn
 exact⟨_,h1,by unfold jeX;rw[if_pos ⟨rfl,h2⟩,h3]⟩
theorem jf1(b:vB)(hn:b.size=32):∃ r,cutN (jao b)=some r/\jfZ (jao b) r=some b:=by
 obtain⟨r,h1,h2⟩:=jd8 b vO
 exact⟨r,h1,by unfold jfZ;rw[h2];simp[Option.filter,hn]⟩
theorem jkW(xs:List vB)(hn:(catB xs).size<=1048576):∃ r,cutN (ja4 xs)=some r/\jfZ (ja4 xs) r=none:=by
 obtain⟨o,h1,h2,h3⟩:=jeP xs hn
 exact⟨_,h1,by unfold jfZ jeX;rw[if_neg (by simp)];rfl⟩
section
attribute [local go_sem] Oper.semAt_some
theorem jaf{P:Program}{w:World}{ops:Array Oper}{rest:List Oper}{o:Oper}{a:Act}{Q:Exit->Act->World->Prop}(t:TypeId)(x:Operand)(ho:o.op=.load t x)(hw:Region.wanted o (yielded ops a.tmps)=true)(v:Value)(p:Addr)(hx:a.eval x=.pointer (some p))
  (hr:(Instr.loadAt t (.pointer (some p))).run P w=.ok v w) (h:wpList P ops Q rest (a.put o.dst v) w):wpList P ops Q (o :: rest) a w:=by
 unfold wpList;rw[if_pos hw];refine .inl (jcy (v:=v) (w':=w) ?_ h);simp only[execOp,ho,hx,Sem.run_bind,hr,Result.andThen,Sem.run_pure]
theorem je2(W:World)(n:jad)(hr:n.refs.length=16):(Instr.loadAt 208 (.pointer (some ⟨W.heap.size,0,none⟩))).run Tryz.prog (W.alloc (.cells n.cells.toArray 208))=.ok n.V (W.alloc (.cells n.cells.toArray 208)):=
 jbU _ _ n hr (Blk.new W _)
theorem Tryz.isNode:jhf (Tryz.prog.underlying 144)=true:=by kernel_rfl
theorem Tryz.szNode:(Tryz.prog.info? 144).map (·.size)=some 19:=by kernel_rfl
theorem jan(W:World)(b:Nat)(n:jad)(hr:n.refs.length=16)(hB:Blk W b (.cells n.cells.toArray 144)):(Instr.loadAt 144 (.pointer (some ⟨b,0,none⟩))).run Tryz.prog W=.ok n.V W:=by
 obtain⟨fs,hu⟩:=jgP Tryz.isNode
 exact je1 hu (by rw[n.cells_len hr];exact Tryz.szNode) (fun j v hv=>by rw[jjg];exact hB.cellL hv)
theorem jxw(w:World)(n:jad)(hr:n.refs.length=16)(hp:n.pathOk 0=true)(h0:0 < n.value.size)(h8:n.value.size<=80)(hb:n.behindN=0):vR 192 #[n.V] w (.bool true):=by
 have hps:n.path.size<=1000000:=by
  have:n.pathOk 0=true:=hp
  simp only[jad.pathOk,Bool.and_eq_true,decide_eq_true_eq]at this;omega
 have hld:=je2 w n hr;have e2:n.cells[2]?=some (.string n.value):=rfl;have hne:=ja8 h0;have c1:(n.value.size:Int)<=80:=by omega
 have HP:=Hd hp;have HB:=Hd hb;have HH:=Hd h0;clear hp hb h0;unfold jad.V at hld ⊢;go_enter Tryz.func192,Tryz.ntmps192;go_wp2_with (refine jaf 208 (.tmp 1) rfl rfl _ _ rfl hld ?_)
 refine vC (jq5 _ n hr 0 hps) fun w1 hE=>?_;rw[HP.o];have B1:=(Blk.new w (.cells n.cells.toArray 208)).keeps hE (fun h=>h);have q2:=B1.cellL e2;have hld1:=jbU w1 _ n hr B1;have HE1:=Hd (((ExtR w).alloc _).trans hE);unfold jad.V at hld1;clear hld hE B1;go_wp2_with (refine jaf 208 (.tmp 1) rfl rfl _ _ rfl hld1 ?_)
 refine vC (jmV _ n hr) fun w2 hE=>?_;rw[HB.o];have HE2:=Hd (HE1.o.trans hE);clear hld1 hE q2;go_wp2_with fail
 go_ret
 exact⟨rfl,HE2.o⟩
def jar:jad:=⟨0,⟨#[]⟩,⟨#[]⟩,List.replicate 16 ⟨#[]⟩⟩
theorem jxA(w:World):vR 191 #[jar.V] w (.bool true):=by
 have hld:=je2 w jar rfl;have he:jar.cells.toArray=#[.int .i64 0,.string ⟨#[]⟩,.string ⟨#[]⟩,.string ⟨#[]⟩,.string ⟨#[]⟩,.string ⟨#[]⟩,.string ⟨#[]⟩,.string ⟨#[]⟩,.string ⟨#[]⟩,.string ⟨#[]⟩,.string ⟨#[]⟩,.string ⟨#[]⟩,.string ⟨#[]⟩,.string ⟨#[]⟩,.string ⟨#[]⟩,.string ⟨#[]⟩,.string ⟨#[]⟩,.string ⟨#[]⟩,.string ⟨#[]⟩]:=rfl;unfold jad.V at hld ⊢;rw[he]at hld ⊢;have hq:∀ w,(binOp .eql 208 (.agg #[.int .i64 0,.string ⟨#[]⟩,.string ⟨#[]⟩,.string ⟨#[]⟩,.string ⟨#[]⟩,.string ⟨#[]⟩,.string ⟨#[]⟩,.string ⟨#[]⟩,.string ⟨#[]⟩,.string ⟨#[]⟩,.string ⟨#[]⟩,.string ⟨#[]⟩,.string ⟨#[]⟩,.string ⟨#[]⟩,.string ⟨#[]⟩,.string ⟨#[]⟩,.string ⟨#[]⟩,.string ⟨#[]⟩,.string ⟨#[]⟩]) (.agg #[.int .i64 0,.string ⟨#[]⟩,.string ⟨#[]⟩,.string ⟨#[]⟩,.string ⟨#[]⟩,.string ⟨#[]⟩,.string ⟨#[]⟩,.string ⟨#[]⟩,.string ⟨#[]⟩,.string ⟨#[]⟩,.string ⟨#[]⟩,.string ⟨#[]⟩,.string ⟨#[]⟩,.string ⟨#[]⟩,.string ⟨#[]⟩,.string ⟨#[]⟩,.string ⟨#[]⟩,.string ⟨#[]⟩,.string ⟨#[]⟩])).run Tryz.prog w=.ok (.bool true) w:=fun w=>by kernel_rfl
 go_enter Tryz.func191,Tryz.ntmps191;go_wp2_with (refine jaf 208 (.tmp 1) rfl rfl _ _ rfl hld ?_)
 go_ret
 exact⟨rfl,(ExtR w).alloc _⟩
end
end Go.Proofs.YtcpnjmcipainpaaGreatDoor
