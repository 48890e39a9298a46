/- Lemmas; each is under no condition but those that it states. -/
import Derived.Test.YtfjmkebdhojanaaGreatDoorPt9
import Derived.Test.YtfjmkebdhojanaaGreatDoorPt8
import Derived.Sort.QuietIn
import Derived.LoopIn
import Derived.LoopNIn
import Derived.OwnWalkIn
namespace Go.Proofs.YtfjmkebdhojanaaGreatDoor
set_option linter.unusedSimpArgs false
set_option linter.unusedVariables false
set_option maxRecDepth 100000
set_option maxHeartbeats 16000000
open Go Go.RowKit
def jed(leaf odd:Bool):vU:=(if leaf then 2 else 0)+(if odd then 1 else 0)
theorem jxH(leaf odd:Bool):jzR leaf odd=((jed leaf odd).toNat:Int):=by cases leaf <;> cases odd <;> rfl
def oddB(p:vB):Bool:=p.size % 2 == 1
def jci(p:vB)(leaf:Bool):vN:=jed leaf (oddB p) ::(if oddB p then []else [0])
def putB(p:vB)(leaf:Bool):vB:=jbu ⟨(jci p leaf++p.data.toList).toArray⟩
theorem jz7(w:vW)(p:vB)(b:Nat)(hp:w.cell? ⟨b,0,none⟩=some (.string p)):vQ 173 #[.pointer (some ⟨b,0,none⟩)] w fun e w'=>e=.returned (.bool (oddB p))/\w=w':=by
 have e:oddB p=decide ((p.size:Int) % 2=1):=by
  unfold oddB
  by_cases h:p.size % 2=1
  ·have o:(p.size:Int) % 2=1:=vO
   simp[h,o]
  ·have o:¬(p.size:Int) % 2=1:=vO
   simp only[o,decide_false];simp;omega
 unfold vQ;go_in;go_wp2_with fail
 go_ret
 exact⟨by rw[e];rfl,rfl⟩
theorem Tryz.run_lit1(w:vW)(b:vU):(convert 120 9 (.slice (some ⟨w.heap.size,0,none⟩) 1 1)).run Tryz.prog (w.alloc (.cells #[.int .u8 (b.toNat:Int)] 5))=.ok (.string ⟨#[b]⟩) (w.alloc (.cells #[.int .u8 (b.toNat:Int)] 5)):=by
 refine run_convert_bytes_back (w.alloc (.cells #[.int .u8 (b.toNat:Int)] 5)) _ _ _ ⟨w.heap.size,0,none⟩ 1 [b] Tryz.uBytes Tryz.uU8 Tryz.uStr (fun j e=>?_);have o:j=0:=by simp at e;omega
 subst o;exact (Blk.new w _).cell vF
theorem jAi(w:vW)(p:vB)(leaf:Bool)(hs:p.size<=900000)(hv:jaB p=true):vR 161 #[.string p,.bool leaf] w (.tuple #[.string (putB p leaf),.bool true]):=by
 have HV:=Hd hv;clear hv;unfold vR vQ;go_in;go_wp2_with fail
 refine vC (jlq _ p vO) fun w1 H=>?_;rw[HV.o]
 obtain⟨g,hg⟩:=vE w.heap.size
 have q1:w1.cell? ⟨g,0,none⟩=some (.string p):=by rw[H,hg];exact (Blk.new w _).cell vF
 have hE:Ext w w1:=by rw[H];exact (ExtR w).alloc _
 rw[<-hg];have HE:=Hd hE;clear hE H hg;go_wp2_with fail
 refine (jz7 w1 p g q1).mono ?_;rintro e w2 ⟨rfl,rfl⟩
 obtain⟨od,J⟩:∃ o,o=oddB p:=⟨_,rfl⟩
 rw[<-J];have K:=Hd J;clear J;go_wp2_with fail
 refine (jzS w1 leaf od).mono ?_;rintro e w2 ⟨rfl,rfl⟩;rw[jxH]
 obtain⟨E,O⟩:∃ f,f=jed leaf od:=⟨_,rfl⟩
 rw[<-O];have a4:=Tryz.run_lit1 w2 E;have a0:=jaa q1 ((ExtR w2).alloc (.cells #[Value.int .u8 (E.toNat:Int)] 5));have a1:Ext w (w2.alloc (.cells #[Value.int .u8 (E.toNat:Int)] 5)):=HE.o.alloc _;have Q:=Hd a1;have a2:=Hd O;clear a1 HE O q1;go_wp2_with fail
 clear a4
 obtain⟨w3,a3⟩:∃ x,x=w2.alloc (.cells #[Value.int .u8 (E.toNat:Int)] 5):=⟨_,rfl⟩
 rw[<-a3]at a0 Q ⊢;clear a3;refine (jz7 w3 p g a0).mono ?_;rintro e w4 ⟨rfl,rfl⟩;rw[<-K.o];cases od with
 | true =>
  go_wp2_with fail
  have X:((⟨#[E]⟩:vB)++p).size<=1000000:=by rw[bV];show 1+p.size<=_;omega
  refine vC (joe _ _ X) fun w5 Z=>?_;have hX:=Q.o.trans Z;have A:jbu ((⟨#[E]⟩:vB)++p)=putB p leaf:=by
   unfold putB jci;rw[<-K.o, <-a2.o,if_pos rfl]
   congr 1
  rw[A];go_wp2_with fail
  exact bodyPost_ret (v:=.tuple #[.string (putB p leaf),.bool true]) vY rfl ⟨rfl,hX⟩
 | false =>
  go_wp2_with fail
  have X:((⟨#[E]⟩:vB)++⟨#[0]⟩++p).size<=1000000:=by rw[bV,bV];show 1+1+p.size<=_;omega
  refine vC (joe _ _ X) fun w5 Z=>?_;have hX:=Q.o.trans Z;have A:jbu ((⟨#[E]⟩:vB)++⟨#[0]⟩++p)=putB p leaf:=by
   unfold putB jci;rw[<-K.o, <-a2.o,if_neg vI]
   congr 1
  rw[A];go_wp2_with fail
  exact bodyPost_ret (v:=.tuple #[.string (putB p leaf),.bool true]) vY rfl ⟨rfl,hX⟩
structure jad where
 kind:Nat
 path:vB
 value:vB
 refs:vM
def jad.cells(n:jad):List vV:=.int .i64 (n.kind:Int) :: .string n.path :: .string n.value :: n.refs.map Value.string
def jad.V(n:jad):vV:=.agg n.cells.toArray
def jad.pathOk(n:jad)(least:Nat):Bool:=decide (least<=n.path.size) && decide (n.path.size<=12) && jaB n.path
theorem jad.cells_len(n:jad)(h:n.refs.length=16):n.cells.length=19:=by simp[jad.cells,h]
theorem jtf(w:vW)(n:jad)(hr:n.refs.length=16)(least:Nat)(hs:n.path.size<=1000000):vR 148 #[n.V,.int .i64 least] w (.bool (n.pathOk least)):=by
 obtain⟨k,p,v,E⟩:=n
 have H:(jad.cells ⟨k,p,v,E⟩).length=19:=jad.cells_len _ hr;simp only at hr hs;have Q:=Hd H;clear H;unfold jad.V;have X:(jad.cells ⟨k,p,v,E⟩)[1]?=some (.string p):=rfl;have e:∀ b:Bool,b=(jad.pathOk ⟨k,p,v,E⟩ least)->Ending.returned (.bool b)=Ending.returned (.bool (jad.pathOk ⟨k,p,v,E⟩ least)):=fun b h=>by rw[h]
 by_cases h1:least<=p.size
 ·have J:(least:Int)<=(p.size:Int):=vO
  by_cases h2:p.size<=12
  ·have K:(p.size:Int)<=12:=vO
   unfold vR vQ;go_in;go_wp2_with fail
   refine vC (jlq _ p vO) fun w1 A=>?_;have O:Hid (Ext w w1):=Hd (by rw[A];exact (ExtR w).alloc _);clear A;go_wp2_with fail
   go_ret
   exact⟨e _ (by simp[jad.pathOk,h1,h2]),O.o⟩
  ·have K:¬(p.size:Int)<=12:=vO
   unfold vR vQ;go_in;go_wp2_with fail
   go_ret
   exact⟨e false (by simp[jad.pathOk,h2]),(ExtR w).alloc _⟩
 ·have J:¬(least:Int)<=(p.size:Int):=vO
  unfold vR vQ;go_in;go_wp2_with fail
  go_ret
  exact⟨e false (by simp[jad.pathOk,h1]),(ExtR w).alloc _⟩
def jkU(ops:Array Oper):Bool:=ops.toList.all fun o=>match o.op with | .defer _=>false | _=>true
theorem jsh(p q:Tmp)(x y:vV)(t:List vV):(#[p,q].zip #[x,y]).foldl (fun t (p,v)=>t.setIfInBounds p v) t.toArray=((t.set p x).set q y).toArray:=by simp
theorem jzT(p:Tmp)(x:vV)(t:List vV):(#[p].zip #[x]).foldl (fun t (p,v)=>t.setIfInBounds p v) t.toArray=(t.set p x).toArray:=by simp
def St(C:vW->Prop):Prop:=∀ W W',C W->Ext W W'->C W'
def jrk(P:Program)(l:Nat)(args:Array vV)(W:vW)(Ct Cf:vW->Prop):Prop:=
 YieldAt Fence.wide 0 P l args W fun e W'=>(e=.returned (.bool true)/\Ct W')\/(e=.returned (.bool false)/\Cf W')
def jrg(N:Nat)(C Cx:Nat->vW->Prop)(e:Ending)(W':vW):Prop:=(∃ v,e=.returned v)/\(C N W'\/∃ k,k<=N/\0 < k/\Cx k W')
def jur(P:Program)(gf:FuncId)(lb:Array vV)(N:Nat)(vals:Nat->Array vV)(S:vW->Prop):Prop:=
 ∀ (l:Nat) (C:Nat->vW->Prop) (Cx:Nat->vW->Prop),(∀ k,St (C k))->(∀ k,St (Cx k))->(∀ k W,C k W->S W) ->
  ∀ W,(∀ k W',k < N->C k W'->jrk P l (vals k) W' (C (k+1)) (Cx (k+1)))->C 0 W ->
   CallsIn Fence.wide 0 P gf (#[.func (.yield l) #[] #[]]++lb) W (jrg N C Cx)
def jzg(g:Nat)(W:vW)(Ct:vW->Prop)(Cj:Code->vW->Prop):Exit->Act->vW->Prop
 | .normal,_,W'=>jae (fun b=>b≠g/\b≠g+1) W W'/\Ct W'
 | .ret,_,W'=>jae (fun b=>b≠g/\b≠g+1) W W'/\Cj .ret W'
 | .exit i,_,W'=>jae (fun b=>b≠g/\b≠g+1) W W'/\Cj (.exit i) W'
 | _,_,_=>False
theorem jeD{P:Program}{g:Operand}{ps:Array Tmp}{assign body:Code}{Q:Exit->Act->vW->Prop}{a:Act}{w:vW}
  {gf:Nat} {lb:Array vV} (hg:a.eval g=.func (.func gf) #[] lb) (eg:∀ args w,(callFunc gf args).run P w=.ok (.enter gf args) w)
  {N:Nat} {vals:Nat->Array vV} {S:vW->Prop} (IS:jur P gf lb N vals S)
  (hps:∀ k,(vals k).size=ps.size)
  (C:Nat->vW->Prop) (Cj:Code->Nat->vW->Prop) (hC:∀ k,St (C k)) (hCj:∀ c k,St (Cj c k)) (hS:∀ k W,C k W->S W)
  (hup:∀ k W o,C k W->C k (W.putObj w.heap.size o)) (hup1:∀ k W o,C k W->C k (W.putObj (w.heap.size+1) o)) (hupj:∀ c k W o,Cj c k W->Cj c k (W.putObj (w.heap.size+1) o))
  (h0:C 0 w) (a₁:Nat->Act)
  (hassign:∀ (l k:Nat) (W:vW) (K:Act->vW->Prop),K (a₁ k) W ->
   assign.wpIn (Fence.wide.inRound l) 0 P (Exit.then K (fun _ _ _=>False)) { tmps:=(ps.zip (vals k)).foldl (fun t (p,v)=>t.setIfInBounds p v) a.tmps,defers:=[] } W)
  (hbody:∀ (l k:Nat) (W:vW),k < N->C k W->w.heap.size+1 < W.heap.size->body.wpIn (Fence.wide.inRound l) 0 P (jzg w.heap.size W (C (k+1)) (fun c=>Cj c (k+1))) (a₁ k) W)
  (hdone:∀ (W:vW),C N W->Blk W w.heap.size (.deferred (some []))->Q .normal { a with defers:={ target:=.collected w.heap.size,args:=#[] } :: a.defers } W)
  (hstop:∀ (c:Code) (k:Nat) (W:vW),k<=N->0 < k->Cj c k W->Blk W w.heap.size (.deferred (some [])) ->
   c.wpIn Fence.wide 0 P Q { a with defers:={ target:=.collected w.heap.size,args:=#[] } :: a.defers } W) :
  (Code.rangeFunc g ps assign body).wpIn Fence.wide 0 P Q a w:=by
 refine wpIn_rangeFunc ?_;intro fn _;show ∃ l mark w₁ d w₁' f args w₂,(Instr.enterLoop fn a.tmps ps assign body none).run P w=_/\_
 obtain⟨A,E⟩:∃ A:LoopState->Option Code->Loop,A=fun st pe=>{ state:=st,pending:=pe,fn,tmps:=a.tmps,params:=ps,assign,body,defers:=w.heap.size }:=⟨_,rfl⟩
 obtain⟨O,X⟩:∃ O,(w.alloc (.deferred (some []))).alloc (.loop (A .ready none))=O:=⟨_,rfl⟩
 have a2:Blk O (w.heap.size+1) (.loop (A .ready none)):=by
  rw[<-X];have:=Blk.new (w.alloc (.deferred (some []))) (.loop (A .ready none));rwa [bT]at this
 have a3:Blk O w.heap.size (.deferred (some [])):=by
  rw[<-X];exact (Blk.new w _).alloc _
 have a4:Ext w O:=by rw[<-X];exact ((jae.refl _ w).alloc _).alloc _
 refine⟨w.heap.size+1,[{ target:=.collected w.heap.size,args:=#[] }],O,{ target:=.fn (.func gf) lb,args:=#[.func (.yield (w.heap.size+1)) #[] #[]] },O,gf,
  #[.func (.yield (w.heap.size+1)) #[] #[]]++lb,O,?_,?_,?_,?_,fun h=>by simp[Fence.wide]at h,?_⟩
 ·rw[<-X,E];exact run_enterLoop_outer _ _ _ _ _
 ·simp only[resolve,hg]
  simp[go_sem]
 ·intro f' _;trivial
 ·simp[invoke,go_sem,eg]
 ·let CC:Nat->vW->Prop:=fun k W=>C k W/\Blk W (w.heap.size+1) (.loop (A .ready none))/\Blk W w.heap.size (.deferred (some []))
  let CX:Nat->vW->Prop:=fun k W=>∃ c,Cj c k W/\Blk W (w.heap.size+1) (.loop (A .done (some c)))/\Blk W w.heap.size (.deferred (some []))
  have a5:=IS (w.heap.size+1) CC CX (fun k W H ⟨Z,h2,J⟩ e=>⟨hC k _ _ Z e,h2.keeps e (fun h=>h),J.keeps e (fun h=>h)⟩)
   (fun k W H ⟨c,Z,h2,J⟩ e=>⟨c,hCj c k _ _ Z e,h2.keeps e (fun h=>h),J.keeps e (fun h=>h)⟩) (fun k W h=>hS k W h.1) O ?_ ⟨hC 0 _ _ h0 a4,a2,a3⟩
  ·refine CallsIn.mono a5 ?_
   rintro e H ⟨⟨v,rfl⟩,a0⟩;rcases a0 with⟨Z,J,h4⟩ |⟨k,hk1,hk2,c,Z,J,h4⟩
   ·obtain⟨ox,he⟩:∃ ox,(Instr.endLoop (w.heap.size+1)).run P H=.ok none (H.putObj (w.heap.size+1) ox):=⟨_,(run_endLoop (r:=A .ready none) J (by rw[E];simp)).trans (by rw[E])⟩
    exact⟨none,_,he,hdone _ (hup1 N _ _ Z) (h4.put_other vO _)⟩
   ·obtain⟨ox,he⟩:∃ ox,(Instr.endLoop (w.heap.size+1)).run P H=.ok (some c) (H.putObj (w.heap.size+1) ox):=⟨_,(run_endLoop (r:=A .done (some c)) J (by rw[E];simp)).trans (by rw[E])⟩
    exact⟨some c,_,he,hstop c k _ hk1 hk2 (hupj c k _ _ Z) (h4.put_other vO _)⟩
  ·rintro k W hk ⟨Z,J,h4⟩
   refine⟨_,_,_,_,run_yield J (by rw[E];exact hps k),?_⟩
   refine roundIn_of_wpIn trivial ?_;rw[show (A .ready none).tmps=a.tmps from by rw[E],show (A .ready none).params=ps from by rw[E],show (A .ready none).assign=assign from by rw[E],show (A .ready none).body=body from by rw[E]];refine hassign _ k W _ ?_
   refine⟨_,run_beginRound J (by rw[E]),?_⟩
   have a6:C k (W.putObj (w.heap.size+1) (.loop { A .ready none with state:=.busy })):=hup1 k _ _ Z;refine Code.wpIn_mono ?_ (hbody (w.heap.size+1) k _ hk a6 (by rw[World.putObj_size];exact J.lt));have a1:∀ (j:Option Code) (H:vW),jae (fun b=>b≠w.heap.size/\b≠w.heap.size+1) (W.putObj (w.heap.size+1) (.loop { A .ready none with state:=.busy })) H ->
     (Instr.endRound (w.heap.size+1) j).run P H=.ok (.bool j.isNone) (H.putObj (w.heap.size+1) (.loop (A (if j.isNone then .ready else .done) j))) /\
     Blk (H.putObj (w.heap.size+1) (.loop (A (if j.isNone then .ready else .done) j))) (w.heap.size+1) (.loop (A (if j.isNone then .ready else .done) j)) /\
     Blk (H.putObj (w.heap.size+1) (.loop (A (if j.isNone then .ready else .done) j))) w.heap.size (.deferred (some [])):=by
    intro j H hK;have hl:Blk H (w.heap.size+1) (.loop { A .ready none with state:=.busy }):=(J.put_same _).keeps hK (fun h=>h.2 rfl);have hd:Blk H w.heap.size (.deferred (some [])):=(h4.put_other vO _).keeps hK (fun h=>h.1 rfl)
    refine⟨?_,hl.put_same _,hd.put_other vO _⟩
    rw[run_endRound j hl,E]
   intro e a' H hq;cases e with
   | normal =>
    obtain⟨hK,hc⟩:=hq
    obtain⟨f1,f2,f3⟩:=a1 none H hK
    exact⟨_,_,f1,.inl ⟨rfl,hup1 _ _ _ hc,f2,f3⟩⟩
   | ret =>
    obtain⟨hK,hc⟩:=hq
    obtain⟨f1,f2,f3⟩:=a1 (some .ret) H hK
    exact⟨_,_,f1,.inr ⟨rfl,.ret,hupj _ _ _ _ hc,f2,f3⟩⟩
   | exit i =>
    obtain⟨hK,hc⟩:=hq
    obtain⟨f1,f2,f3⟩:=a1 (some (.exit i)) H hK
    exact⟨_,_,f1,.inr ⟨rfl,.exit i,hupj _ _ _ _ hc,f2,f3⟩⟩
   | goto t=>exact hq.elim
   | panic ch=>exact hq.elim
   | outgrown=>exact hq.elim
theorem jeU{P:Program}{T e:TypeId}{n:Nat}(hu:P.underlying T=some (.array n e))(hs:(P.info? e).map (·.size)=some 1)(hag:∀ w,(isAgg e).run P w=.ok false w)(cs:List vV)(k:Nat)(hk:k < n)(x:vV)(hx:cs[k]?=some x)(w:vW) :
  (Instr.index T (.agg cs.toArray) (.int .i64 (k:Int))).run P w=.ok x w:=by
 obtain⟨i,A,E⟩:=fE.1 hs
 have o:(sizeOf e).run P w=.ok 1 w:=by simp[sizeOf,typeInfo,A,E]
 have H:(0:Int)<=(k:Int)/\(k:Int) < (n:Int):=vO
 simp only[Instr.index,asIntOf,cA,cO,Result.andThen,run_underlying hu];rw[if_pos H];simp only[cA,o,Result.andThen];simp[part,cA,hag,Result.andThen,hx,cO]
def jax:Nat->vM->List (Nat × vB)
 | _,[]=>[]
 | i,r :: rs=>if r.size=0 then jax (i+1) rs else (i,r) :: jax (i+1) rs
def jad.refsL(n:jad):List (Nat × vB):=jax 0 n.refs
theorem jdW:∀ (a b:vM) (i:Nat),jax i (a++b)=jax i a++jax (i+a.length) b
 | [],b,i=>by simp[jax]
 | x :: a,b,i=>by
  have h:=jdW a b (i+1);simp only[dA,jax,bF];rw[h,show i+1+a.length=i+(a.length+1) by omega];split <;> simp
section
attribute [local go_sem] Oper.semAt_some
theorem jbx{F:Fence}{n:Nat}{P:Program}{w:vW}{ops:Array Oper}{rest:List Oper}{o:Oper}{a:Act}{Q:Exit->Act->vW->Prop}(hg:o.guard=none)(t:TypeId)(x:Operand)(ho:o.op=.load t x)(v:vV)(p:Addr)(hx:a.eval x=.pointer (some p))
  (hr:(Instr.loadAt t (.pointer (some p))).run P w=.ok v w) (h:wpListIn F n P ops Q rest (a.put o.dst v) w):wpListIn F n P ops Q (o :: rest) a w:=by
 refine wpListIn_plain hg fun K e=>?_;unfold Oper.wpIn
 refine⟨?_,?_⟩
 ·simp[Oper.about,ho]
 ·rw[Oper.semAt_plain F _ _ (by rw[ho];intro c A;cases A)]
  simp only[execOp,ho,hx,cA,hr,Result.andThen,cO];exact e _ _ h
theorem Tryz.uRefs:Tryz.prog.underlying 101=some (.array 16 9):=vY
theorem Tryz.iRefs:(Tryz.prog.info? 101).map (·.size)=some 16:=vY
def jad.rv(n:jad)(k:Nat):Array vV:=#[.int .i64 (((n.refsL.getD k (0,⟨#[]⟩)).1:Nat):Int),.string (n.refsL.getD k (0,⟨#[]⟩)).2]
def jA0(W:vW)(b:Nat)(n:jad)(C:Nat->vW->Prop)(v:vV)(wr:vW):Prop:=∃ i:Nat,i<=16/\v=.int .i64 i/\C (jax 0 (n.refs.take i)).length wr
theorem ji4(n:jad){i:Nat}{r:vB}(h:n.refs[i]?=some r):jax 0 (n.refs.take (i+1))=jax 0 (n.refs.take i)++(if r.size=0 then []else [(i,r)]):=by
 have e:=(bP.1 h).1;rw[bW,h,Option.toList_some,jdW]
 have:(n.refs.take i).length=i:=by simp;omega
 simp[jax,this]
theorem jyj(n:jad){i:Nat}{r:vB}(h:n.refs[i]?=some r)(hr:r.size≠0):(jax 0 (n.refs.take i)).length < n.refsL.length/\n.refsL.getD (jax 0 (n.refs.take i)).length (0,⟨#[]⟩)=(i,r):=by
 have e:=ji4 n h;rw[if_neg hr]at e;have o:n.refsL=jax 0 (n.refs.take i)++((i,r) :: jax (0+(n.refs.take (i+1)).length) (n.refs.drop (i+1))):=by
  unfold jad.refsL
  conv=>lhs;rw[<-cV (i+1) n.refs]
  rw[jdW,e,cE];rfl
 rw[o];constructor
 ·simp
 ·simp[bH]
theorem Tryz.strOne:(Tryz.prog.info? 9).map (·.size)=some 1:=vY
theorem Tryz.strAgg(w:vW):(isAgg 9).run Tryz.prog w=.ok false w:=vY
theorem jld(b:Nat)(n:jad)(hr:n.refs.length=16):jur Tryz.prog 122 #[.pointer (some ⟨b,0,none⟩)] n.refsL.length n.rv (fun W=>Blk W b (.cells n.cells.toArray 172)):=by
 intro l C Cx hC Q hS W hY h0;have hB:=hS 0 W h0;have X:W.rangeAt b 3 (n.refs.map Value.string):=fun j v hv=>hB.cellL (by
  unfold jad.cells;rw[show 3+j=j+3 by omega];simpa using hv)
 have Z:=run_loadVar_mid (P:=Tryz.prog) W b 3 101 _ _ X Tryz.uRefs rfl (by simp only[cC,hr];exact Tryz.iRefs);have a3:(Instr.loadAt 101 (.pointer (some ⟨b,3,none⟩))).run Tryz.prog W=.ok (.agg (n.refs.map Value.string).toArray) W:=by
  simp[Instr.loadAt,Instr.sureAddr,cA,Result.andThen,Z]
 have HB:=Hd hB;have HY:=Hd hY;have H0:=Hd h0;have HR:=Hd hr;clear hB hY h0 X Z hr;refine callsIn_of_wp Tryz.func122 rfl trivial ?_ rfl;simp only[Tryz.ntmps122,dK,bF,cF,Nat.reduceAdd,Nat.reduceSub,dP,dO,fC,dY,cT,dA];gi_wp2_with (refine jbx rfl 101 (.tmp 5) rfl _ _ rfl a3 ?_)
 have b1:=Hd hC;have b2:=Hd Q;have HS:=Hd hS;clear hC Q hS a3;gi_loopw [7] (fun v wr=>jA0 W b n C v wr) (fun v _=>16 - (intOf v).toNat)
 case atStart=>exact⟨0,by omega,rfl,by simpa [jax]using H0.o⟩
 case round =>
  obtain⟨i,hi,rfl,a4⟩:=hrel
  have J:=Hd a4;clear a4
  by_cases hlt:i < 16
  ·obtain⟨r,E⟩:∃ r,n.refs[i]?=some r:=⟨_,bA (by have:=HR.o;omega)⟩
   have b3:(Instr.index 101 (.agg (n.refs.map Value.string).toArray) (.int .i64 (i:Int))).run Tryz.prog wr=.ok (.string r) wr:=jeU Tryz.uRefs Tryz.strOne Tryz.strAgg _ i hlt _ (by rw[bX,E];rfl) wr;have A:=ji4 n E
   by_cases hr0:r.size=0
   ·have a7:r=⟨#[]⟩:=by
     obtain⟨⟨l⟩⟩:=r
     cases l with
     | nil=>rfl
     | cons x y=>exact absurd hr0 (iI _)
    rw[if_pos hr0,bZ]at A;subst a7;have a0:=Hd A;clear A E hr0;gi_wp2
    refine⟨(fun f h=>by cases h),?_⟩
    gi_wp2;go_roundw
    case rel=>exact⟨i+1,by omega,by go_num,by rw[a0.o];exact J.o⟩
    case measure=>exact vJ
   ·have H:=jyj n E hr0
    have b4:=jbe (s:=r) vO;rw[if_neg hr0]at A
    obtain⟨k,hk⟩:=vE (jax 0 (n.refs.take i)).length
    rw[<-hk]at H J;have a5:n.rv k=#[.int .i64 (i:Int),.string r]:=by unfold jad.rv;rw[H.2]
    obtain⟨fn,tm,b5,bd,a8,a6⟩:=HY.o k wr H.1 J.o
    rw[a5]at a8;have K:(jax 0 (n.refs.take (i+1))).length=k+1:=by rw[A,bC, <-hk];rfl
    have a1:=Hd K;have a9:=Hd H;have b0:=Hd a6;clear K H a6 A a5 hk E hr0;gi_wp2
    refine⟨rfl,b0.o.mono ?_⟩
    rintro e w5 (⟨rfl,C5⟩ |⟨rfl,C5⟩)
    ·have O:=Hd C5
     clear C5;gi_wp2;go_roundw
     case rel=>exact⟨i+1,by omega,by go_num,by rw[a1.o];exact O.o⟩
     case measure=>exact vJ
    ·have O:=Hd C5
     clear C5;gi_wp2;refine bodyPost_ret (results_none rfl _ _ _) rfl ?_
     exact⟨⟨_,rfl⟩,.inr ⟨k+1,a9.o.1,by omega,O.o⟩⟩
  ·have a2:i=16:=vO
   subst a2;gi_wp2;refine bodyPost_end (results_none rfl _ _ _) rfl ?_
   refine⟨⟨_,rfl⟩,.inl ?_⟩
   have h:=J.o;rw[bN (by have:=HR.o;omega)]at h;exact h
end
theorem jpL(w:vW)(n:jad):vQ 89 #[n.V] w fun e w'=>e=.returned (.func (.func 122) #[] #[.pointer (some ⟨w.heap.size,0,none⟩)])/\Blk w' w.heap.size (.cells n.cells.toArray 172)/\Ext w w':=by
 unfold jad.V;unfold vQ;go_in;go_wp2_with fail
 go_ret
 exact⟨rfl,Blk.new w _,(ExtR w).alloc _⟩
theorem jqQ(w:vW)(n:jad):vR 139 #[n.V] w (.string (jao ⟨#[]⟩)):=by
 unfold jad.V;unfold vR vQ;go_in;go_wp2_with fail
 refine vH (jea _ ⟨#[]⟩ vI) fun w1 e=>?_;have A:Hid (Ext w w1):=Hd (((ExtR w).alloc _).trans e);go_wp2_with fail
 go_ret
 exact⟨rfl,A.o⟩
section
section mixe
variable {P:Program} {l:List Oper} {E:vW->vW->Prop}
def anyK(P:Program)(ops:Array Oper)(E:vW->vW->Prop)(Q:Act->vW->Prop):Nat->Array Bool->Act->vW->Prop
 | 0,listed,a,w=>∀ w1,E w w1->Region.ready .any ops listed=[]/\Q a w1
 | fuel+1,listed,a,w=>∀ w1,E w w1 ->
  (Region.ready .any ops listed=[]->Q a w1) /\
  ∀ i∈Region.ready .any ops listed,wpOp P ops NoQ i (fun a' w'=>E w1 w'/\anyK P ops E Q fuel (listed.setIfInBounds i true) a' w') a w1
theorem jru(hT:∀ x y z,E x y->E y z->E x z){ops:Array Oper}{Q:Act->vW->Prop}:∀ (fuel:Nat) (listed:Array Bool) (a:Act) (w w1:vW),anyK P ops E Q fuel listed a w->E w w1->anyK P ops E Q fuel listed a w1
 | 0,_,_,_,_,h,he=>fun e o=>h e (hT _ _ _ he o)
 | _+1,_,_,_,_,h,he=>fun e o=>h e (hT _ _ _ he o)
theorem jjx(hE:∀ w,E w w){ops:Array Oper}{Q:Act->vW->Prop}{Q':Exit->Act->vW->Prop}(hQ:∀ a w,Q a w->Q' .normal a w) :
  ∀ (fuel:Nat) (listed:Array Bool) (a:Act) (w:vW),anyK P ops E Q fuel listed a w->wpAny P .any ops Q' fuel listed a w
 | 0,_,_,w,h=>let ⟨h1,h2⟩:=h w (hE w);⟨h1,hQ _ _ h2⟩
 | fuel+1,_,_,w,h=>let ⟨h1,h2⟩:=h w (hE w)
  ⟨fun e=>hQ _ _ (h1 e),fun i o=>jh9 (fun A w' ⟨_,H⟩=>jjx hE hQ fuel _ A w' H) (h2 i o)⟩
theorem jqf(hE:∀ w,E w w)(hT:∀ x y z,E x y->E y z->E x z){ops:Array Oper}{Q:Act->vW->Prop}{i:Nat}{oi:Oper}{v:vV}(hi:ops[i]?=some oi)(hsel:∀ (j:Nat) (o:Oper) cs b,ops[j]?=some o->o.op≠.select cs b) :
  ∀ (J:Nat) (A:Array Bool) (a:Act) (w:vW),
   (∀ j oj,ops[j]?=some oj->j≠i->A.getD j true=false->(∀ e∈oj.after,Region.binds .any e=true->e.on≠i)->oi.apart ops oj=true) ->
   i∈Region.ready .any ops A->jbO P ops E w oi v a ->
   anyK P ops E Q J (A.setIfInBounds i true) (a.put oi.dst v) w->anyK P ops E Q (J+1) A a w:=by
 intro J;induction J with
 | zero =>
  intro A a w _ hr hy H w1 X
  refine⟨fun h=>(by rw[h]at hr;cases hr),fun j hj=>?_⟩
  by_cases hji:j=i
  ·subst hji;exact hy.wpOp hi X hE (fun w' K=>⟨K,jru hT _ _ _ _ _ H (hT _ _ _ X K)⟩)
  ·have:=ready_mono hj hji
   rw[(H w1 X).1]at this;cases this
 | succ J ih =>
  intro A a w O hr hy H w1 X
  refine⟨fun h=>(by rw[h]at hr;cases hr),fun j hj=>?_⟩
  by_cases hji:j=i
  ·subst hji;exact hy.wpOp hi X hE (fun w' K=>⟨K,jru hT _ _ _ _ _ H (hT _ _ _ X K)⟩)
  ·have K:=(H w1 X).2 j (ready_mono hj hji)
   obtain⟨a0,oj,a3,a4⟩:=mem_ready.1 hj
   have a5:∀ e∈oj.after,Region.binds .any e=true->e.on≠i:=fun e X hb a7=>by
    have K:=a4 e X hb;have h0:=(mem_ready.1 hr).1;rw[a7]at K;rcases fQ i A.size with h' | h'
    ·simp[h']at h0 K;rw[h0]at K;cases K
    ·simp[gP h']at K
   have h2:=jfy (v:=v) (Y:=fun a'=>execOp a'.eval oi=execOp a.eval oi/\Region.wanted oi (yielded ops a'.tmps)=Region.wanted oi (yielded ops a.tmps)) a3 (O j oj a3 hji a0 a5) (fun cs b=>hsel i oi cs b hi) (fun cs b=>hsel j oj cs b a3)
    (fun a1 a2 h e1 e2=>⟨e1.trans h.1,e2.trans h.2⟩) ⟨rfl,rfl⟩ K
   have Z:∀ k ok,ops[k]?=some ok->k≠i->(A.setIfInBounds j true).getD k true=false ->
     (∀ e∈ok.after,Region.binds .any e=true->e.on≠i)->oi.apart ops ok=true:=fun k ok hk a8 a6 a9=>by
    refine O k ok hk a8 ?_ a9
    by_cases hjk:j=k
    ·subst hjk;exact a0
    ·rw[getD_set_ne true hjk]at a6;exact a6
   refine wpOp_mono (fun a' w' h3=>⟨h3.2.1,?_⟩) h2
   obtain⟨⟨e1,e2⟩,h4,h5⟩:=h3
   have b0:jbO P ops E w' oi v a':=(hy.of_same e1 e2).st hT (hT _ _ _ X h4);refine ih (A.setIfInBounds j true) a' w' Z (ready_mono hr (Ne.symm hji)) b0 ?_;rw[gX _ _ hji];exact h5
def MixK(P:Program)(l:List Oper)(E:vW->vW->Prop)(Q:Act->vW->Prop):List Nat->List Nat->Act->vW->Prop
 | [],done,a,w=>∀ w1,E w w1->Region.ready .any l.toArray (jbj l done)=[]/\Q a w1
 | k :: ord,done,a,w =>
  (k∈Region.ready .any l.toArray (jbj l done)/\Region.free .any l.toArray (jbj l done) k=true/\∃ o v,l[k]?=some o/\jbO P l.toArray E w o v a/\MixK P l E Q ord (k :: done) (a.put o.dst v) w) \/
  (Region.ready .any l.toArray (jbj l done)=[k]/\∀ w1,E w w1->wpOp P l.toArray NoQ k (fun a' w'=>E w1 w'/\MixK P l E Q ord (k :: done) a' w') a w1)
theorem jf2(hE:∀ w,E w w)(hT:∀ x y z,E x y->E y z->E x z)(hs:Region.noSelect l.toArray=true){Q:Act->vW->Prop}:∀ (ord:List Nat) (done:List Nat) (a:Act) (w:vW),
  MixK P l E Q ord done a w->anyK P l.toArray E Q ord.length (jbj l done) a w
 | [],_,_,_,h=>h
 | k :: ord,done,a,w,h=>by
  rcases h with⟨hr,hf,o,v,ho,hy,h⟩ |⟨hr,h⟩
  ·have e:l.toArray[k]?=some o:=by simpa using ho
   exact jqf hE hT e (iK hs) ord.length (jbj l done) a w (iU e hf) hr hy (jf2 hE hT hs ord _ _ _ h)
  ·intro w1 K
   refine⟨fun A=>(by rw[hr]at A;cases A),fun i H=>?_⟩
   rw[hr]at H;obtain rfl:i=k:=by simpa using H
   exact wpOp_mono (fun O w' J=>⟨J.1,jf2 hE hT hs ord _ _ _ J.2⟩) (h w1 K)
theorem jag(ord:List Nat)(E:vW->vW->Prop)(hE:∀ w,E w w)(hT:∀ x y z,E x y->E y z->E x z){id:Nat}{Q:Exit->Act->vW->Prop}{a:Act}{w:vW}
  (hm:P.follows .mixedOrders=true) (hs:Region.noSelect l.toArray=true) (hl:ord.length=l.toArray.size)
  (h:MixK P l E (fun a w=>Q .normal a w) ord [] a w.drew):(Code.region id l.toArray true).wp P Q a w:=by
 refine wp_region_any hm ?_;rw[<-hl]
 have:=jf2 hE hT hs ord _ _ _ h
 unfold jbj at this;rw[hl]at this ⊢;exact jjx hE (fun _ _ h=>h) _ _ _ _ this
variable {Q:Act->vW->Prop} {ord done:List Nat} {a:Act} {w:vW} {k:Nat} {o:Oper}
def jhL(l:List Oper)(done:List Nat)(k:Nat):Bool:=(Region.ready .any l.toArray (jbj l done)).contains k && Region.free .any l.toArray (jbj l done) k
def jwz(l:List Oper)(done:List Nat)(k:Nat):Bool:=Region.ready .any l.toArray (jbj l done) == [k]
theorem js0(o:Oper)(ho:l[k]?=some o)(hk:jhL l done k=true)(hw:Region.wanted o (yielded l.toArray a.tmps)=true)(hq:jjW o.op=true)
  (h:∀ K:Act->Prop,(∀ a',MixK P l E Q ord (k :: done) a' w->K a')->o.quiet P a (fun _=>True) K):MixK P l E Q (k :: ord) done a w:=by
 simp only[jhL,cY,dC]at hk
 obtain⟨v,H,J⟩:=h _ (fun _ h=>h)
 have A:jbO P l.toArray E w o v a:=by
  refine .inl ⟨hw,fun w1 _=>?_⟩;have e:=H w1 trivial;unfold Oper.quietAt at e;have O:=fun f args w'=>jk8 (ρ:=a.eval) hq P w1 w' f args;generalize (execOp a.eval o).run P w1=r at *;cases r with
  | ok n w'=>cases n <;> simp only[Oper.quietUpon]at e <;> first | exact e | exact absurd rfl (O _ _ _)
  | halt x w'=>simp only[Oper.quietUpon]at e
 exact .inl ⟨hk.1,hk.2,o,v,ho,A,J⟩
theorem jcv(o:Oper)(v:vV)(ho:l[k]?=some o)(hk:jhL l done k=true)(hw:Region.wanted o (yielded l.toArray a.tmps)=true)
  (hv:∀ w1,E w w1->(execOp a.eval o).run P w1=.ok (.value v) w1) (h:MixK P l E Q ord (k :: done) (a.put o.dst v) w):MixK P l E Q (k :: ord) done a w:=by
 simp only[jhL,cY,dC]at hk;exact .inl ⟨hk.1,hk.2,o,v,ho,.inl ⟨hw,fun w1 e=>by rw[hv w1 e];exact⟨rfl,rfl⟩⟩,h⟩
theorem jsZ(p:Addr)(v:vV){t:TypeId}{x:Operand}{d:Option Tmp}{ty:TypeId}{pos:String}{af:Array Edge}{g:Option (Nat × Bool)}(ho:l[k]?=some ⟨d,.load t x,ty,pos,af,g⟩)(hk:jhL l done k=true)
  (hw:Region.wanted ⟨d,.load t x,ty,pos,af,g⟩ (yielded l.toArray a.tmps)=true) (hx:a.eval x=.pointer (some p))
  (hv:∀ w1,E w w1->(Instr.loadAt t (.pointer (some p))).run P w1=.ok v w1) (h:MixK P l E Q ord (k :: done) (a.put d v) w):MixK P l E Q (k :: ord) done a w:=by
 refine jcv _ v ho hk hw (fun w1 e=>?_) h
 have:=hv w1 e
 simp only[execOp,hx,cA,this,Result.andThen,cO]
theorem qKL{t:TypeId}{x:Operand}{d:Option Tmp}{ty:TypeId}{pos:String}{af:Array Edge}{g:Option (Nat × Bool)}(p:Addr)(v:vV)(ho:l[k]?=some ⟨d,.load t x,ty,pos,af,g⟩)(hv:∀ w1,E w w1->(Instr.loadAt t (.pointer (some p))).run P w1=.ok v w1)(h:MixK P l E Q ord (k :: done) (a.put d v) w)(hk:jhL l done k=true:=by kernel_rfl)(hw:Region.wanted ⟨d,.load t x,ty,pos,af,g⟩ (yielded l.toArray a.tmps)=true:=by rfl)(hx:a.eval x=.pointer (some p):=by rfl):MixK P l E Q (k :: ord) done a w:=jsZ p v ho hk hw hx hv h
theorem js1(o:Oper)(ho:l[k]?=some o)(hk:jhL l done k=true)(hw:Region.wanted o (yielded l.toArray a.tmps)=false)
  (h:MixK P l E Q ord (k :: done) (a.put o.dst undef) w):MixK P l E Q (k :: ord) done a w:=by
 simp only[jhL,cY,dC]at hk;exact .inl ⟨hk.1,hk.2,o,undef,ho,.inr ⟨hw,rfl⟩,h⟩
theorem qKS(o:Oper)(ho:l[k]?=some o)(h:MixK P l E Q ord (k :: done) (a.put o.dst undef) w)(hk:jhL l done k=true:=by kernel_rfl)(hw:Region.wanted o (yielded l.toArray a.tmps)=false:=by rfl):MixK P l E Q (k :: ord) done a w:=js1 o ho hk hw h
theorem jsY(o:Oper)(f:FuncId)(args:Array vV)(v:vV)(ho:l[k]?=some o)(hk:jhL l done k=true)(hw:Region.wanted o (yielded l.toArray a.tmps)=true)
  (hv:∀ w1,(execOp a.eval o).run P w1=.ok (.enter f args) w1) (hc:∀ w1,E w w1->Calls P f args w1 (fun e H=>e=.returned v/\E w1 H))
  (h:MixK P l E Q ord (k :: done) (a.put o.dst v) w):MixK P l E Q (k :: ord) done a w:=by
 simp only[jhL,cY,dC]at hk;exact .inl ⟨hk.1,hk.2,o,v,ho,.inl ⟨hw,fun w1 A=>by rw[hv w1];exact⟨rfl,hc w1 A⟩⟩,h⟩
theorem qKC(o:Oper)(f:FuncId)(args:Array vV)(v:vV)(ho:l[k]?=some o)(hv:∀ w1,(execOp a.eval o).run P w1=.ok (.enter f args) w1)(hc:∀ w1,E w w1->Calls P f args w1 (fun e A=>e=.returned v/\E w1 A))(h:MixK P l E Q ord (k :: done) (a.put o.dst v) w)(hk:jhL l done k=true:=by kernel_rfl)(hw:Region.wanted o (yielded l.toArray a.tmps)=true:=by rfl):MixK P l E Q (k :: ord) done a w:=jsY o f args v ho hk hw hv hc h
theorem jeu(o:Oper)(ho:l[k]?=some o)(hk:jwz l done k=true)(hw:Region.wanted o (yielded l.toArray a.tmps)=true)
  (h:∀ w1,E w w1->∀ K:Act->vW->Prop,(∀ a' w',E w1 w'->MixK P l E Q ord (k :: done) a' w'->K a' w')->o.wp P a w1 K NoQ):MixK P l E Q (k :: ord) done a w:=by
 simp only[jwz,beq_iff_eq]at hk;refine .inr ⟨hk,fun w1 A=>?_⟩;unfold wpOp;have e:l.toArray[k]?=some o:=by simpa using ho
 simp only[e,hw,if_true];exact .inl (h w1 A _ (fun _ _ H J=>⟨H,J⟩))
theorem jvD(hk:(Region.ready .any l.toArray (jbj l done)).isEmpty=true)(h:∀ w1,E w w1->Q a w1):MixK P l E Q [] done a w:=
 fun w1 e=>⟨by simpa using hk,h w1 e⟩
theorem qKE(h:∀ w1,E w w1->Q a w1)(hk:(Region.ready .any l.toArray (jbj l done)).isEmpty=true:=by kernel_rfl):MixK P l E Q [] done a w:=jvD hk h
end mixe
end
