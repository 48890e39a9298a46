/- Lemmas; each is under no condition but those that it states. -/
import Derived.Test.YtepbencaoiompaaGreatDoorPa9
import Derived.Test.YtepbencaoiompaaGreatDoorPa8
import Derived.Sort.QuietIn
import Derived.LoopIn
import Derived.LoopNIn
import Derived.OwnWalkIn
namespace Go.Proofs.YtepbencaoiompaaGreatDoor
set_option linter.unusedSimpArgs false
set_option linter.unusedVariables false
set_option maxRecDepth 100000
set_option maxHeartbeats 16000000
open Go Go.RowKit
def jmo(leaf odd:Bool):vU:=(if leaf then 2 else 0)+(if odd then 1 else 0)
theorem jym(leaf odd:Bool):jAo leaf odd=((jmo leaf odd).toNat:Int):=by cases leaf <;> cases odd <;> rfl
def oddB(p:vB):Bool:=p.size % 2 == 1
def jeg(p:vB)(leaf:Bool):vN:=jmo leaf (oddB p) ::(if oddB p then []else [0])
def putB(p:vB)(leaf:Bool):vB:=jbC ⟨(jeg p leaf++p.data.toList).toArray⟩
theorem jAJ(w:vW)(p:vB)(b:Nat)(hp:w.cell? ⟨b,0,none⟩=some (.string p)):vQ 148 #[.pointer (some ⟨b,0,none⟩)] w fun e w'=>e=.returned (.bool (oddB p))/\w=w':=by
 have e:oddB p=decide ((p.size:Int) % 2=1):=by
  unfold oddB
  by_cases h:p.size % 2=1
  ·have o:(p.size:Int) % 2=1:=vO
   simp[h,o]
  ·have o:¬(p.size:Int) % 2=1:=vO
   simp only[o,decide_false];simp;omega
 go_enter Tryz.func148,Tryz.ntmps148;go_wp2_with fail
 go_ret
 exact⟨by rw[e];rfl,rfl⟩
theorem Tryz.run_lit1(w:vW)(b:vU):(convert 42 9 (.slice (some ⟨w.heap.size,0,none⟩) 1 1)).run Tryz.prog (w.alloc (.cells #[.int .u8 (b.toNat:Int)] 5))=.ok (.string ⟨#[b]⟩) (w.alloc (.cells #[.int .u8 (b.toNat:Int)] 5)):=by
 refine run_convert_bytes_back (w.alloc (.cells #[.int .u8 (b.toNat:Int)] 5)) _ _ _ ⟨w.heap.size,0,none⟩ 1 [b] Tryz.uBytes Tryz.uU8 Tryz.uStr (fun j e=>?_);have o:j=0:=by simp at e;omega
 subst o;exact (Blk.new w _).cell vF
theorem jAS(w:vW)(p:vB)(leaf:Bool)(hs:p.size<=900000)(hv:jaC p=true):vR 139 #[.string p,.bool leaf] w (.tuple #[.string (putB p leaf),.bool true]):=by
 have HV:=Hd hv;clear hv;go_enter Tryz.func139,Tryz.ntmps139;go_wp2_with fail
 refine vC (jlK _ p vO) fun w1 A=>?_;rw[HV.o]
 obtain⟨g,hg⟩:=vE w.heap.size
 have q1:w1.cell? ⟨g,0,none⟩=some (.string p):=by rw[A,hg];exact (Blk.new w _).cell vF
 have hE:Ext w w1:=by rw[A];exact (ExtR w).alloc _
 rw[<-hg];have HE:=Hd hE;clear hE A hg;go_wp2_with fail
 refine (jAJ w1 p g q1).mono ?_;rintro e X ⟨rfl,rfl⟩
 obtain⟨od,E⟩:∃ o,o=oddB p:=⟨_,rfl⟩
 rw[<-E];have H:=Hd E;clear E;go_wp2_with fail
 refine (jAp w1 leaf od).mono ?_;rintro e X ⟨rfl,rfl⟩;rw[jym]
 obtain⟨z,J⟩:∃ f,f=jmo leaf od:=⟨_,rfl⟩
 rw[<-J];have a3:=Tryz.run_lit1 X z;have Z:=jaa q1 ((ExtR X).alloc (.cells #[Value.int .u8 (z.toNat:Int)] 5));have a0:Ext w (X.alloc (.cells #[Value.int .u8 (z.toNat:Int)] 5)):=HE.o.alloc _;have K:=Hd a0;have a1:=Hd J;clear a0 HE J q1;go_wp2_with fail
 clear a3
 obtain⟨w3,a2⟩:∃ x,x=X.alloc (.cells #[Value.int .u8 (z.toNat:Int)] 5):=⟨_,rfl⟩
 rw[<-a2]at Z K ⊢;clear a2;refine (jAJ w3 p g Z).mono ?_;rintro e w4 ⟨rfl,rfl⟩;rw[<-H.o];cases od with
 | true =>
  go_wp2_with fail
  have O:((⟨#[z]⟩:vB)++p).size<=1000000:=by rw[cC];show 1+p.size<=_;omega
  refine vC (jon _ _ O) fun w5 Q=>?_;have hX:=K.o.trans Q;have q:jbC ((⟨#[z]⟩:vB)++p)=putB p leaf:=by
   unfold putB jeg;rw[<-H.o, <-a1.o,if_pos rfl]
   congr 1
  rw[q];go_wp2_with fail
  exact bodyPost_ret (v:=.tuple #[.string (putB p leaf),.bool true]) vY rfl ⟨rfl,hX⟩
 | false =>
  go_wp2_with fail
  have O:((⟨#[z]⟩:vB)++⟨#[0]⟩++p).size<=1000000:=by rw[cC,cC];show 1+1+p.size<=_;omega
  refine vC (jon _ _ O) fun w5 Q=>?_;have hX:=K.o.trans Q;have q:jbC ((⟨#[z]⟩:vB)++⟨#[0]⟩++p)=putB p leaf:=by
   unfold putB jeg;rw[<-H.o, <-a1.o,if_neg vI]
   congr 1
  rw[q];go_wp2_with fail
  exact bodyPost_ret (v:=.tuple #[.string (putB p leaf),.bool true]) vY rfl ⟨rfl,hX⟩
structure jad where
 kind:Nat
 path:vB
 value:vB
 refs:vM
def jad.cells(n:jad):List vV:=.int .i64 (n.kind:Int) :: .string n.path :: .string n.value :: n.refs.map Value.string
def jad.V(n:jad):vV:=.agg n.cells.toArray
def jad.pathOk(n:jad)(least:Nat):Bool:=decide (least<=n.path.size) && decide (n.path.size<=12) && jaC n.path
theorem jad.cells_len(n:jad)(h:n.refs.length=16):n.cells.length=19:=by simp[jad.cells,h]
theorem jfs(w:vW)(n:jad)(hr:n.refs.length=16)(least:Nat)(hs:n.path.size<=1000000):vR 136 #[n.V,.int .i64 least] w (.bool (n.pathOk least)):=by
 obtain⟨k,p,v,z⟩:=n
 have A:(jad.cells ⟨k,p,v,z⟩).length=19:=jad.cells_len _ hr;simp only at hr hs;have K:=Hd A;clear A;unfold jad.V;have O:(jad.cells ⟨k,p,v,z⟩)[1]?=some (.string p):=rfl;have e:∀ b:Bool,b=(jad.pathOk ⟨k,p,v,z⟩ least)->Ending.returned (.bool b)=Ending.returned (.bool (jad.pathOk ⟨k,p,v,z⟩ least)):=fun b h=>by rw[h]
 by_cases h1:least<=p.size
 ·have E:(least:Int)<=(p.size:Int):=vO
  by_cases h2:p.size<=12
  ·have H:(p.size:Int)<=12:=vO
   go_enter Tryz.func136,Tryz.ntmps136;go_wp2_with fail
   refine vC (jlK _ p vO) fun w1 q=>?_;have J:Hid (Ext w w1):=Hd (by rw[q];exact (ExtR w).alloc _);clear q;go_wp2_with fail
   go_ret
   exact⟨e _ (by simp[jad.pathOk,h1,h2]),J.o⟩
  ·have H:¬(p.size:Int)<=12:=vO
   go_enter Tryz.func136,Tryz.ntmps136;go_wp2_with fail
   go_ret
   exact⟨e false (by simp[jad.pathOk,h2]),(ExtR w).alloc _⟩
 ·have E:¬(least:Int)<=(p.size:Int):=vO
  go_enter Tryz.func136,Tryz.ntmps136;go_wp2_with fail
  go_ret
  exact⟨e false (by simp[jad.pathOk,h1]),(ExtR w).alloc _⟩
def jk9(ops:Array Oper):Bool:=ops.toList.all fun o=>match o.op with | .defer _=>false | _=>true
theorem jn1(p q:Tmp)(x y:vV)(t:List vV):(#[p,q].zip #[x,y]).foldl (fun t (p,v)=>t.setIfInBounds p v) t.toArray=((t.set p x).set q y).toArray:=by simp
theorem jAq(p:Tmp)(x:vV)(t:List vV):(#[p].zip #[x]).foldl (fun t (p,v)=>t.setIfInBounds p v) t.toArray=(t.set p x).toArray:=by simp
def St(C:vW->Prop):Prop:=∀ W W',C W->Ext W W'->C W'
def joK(P:Program)(l:Nat)(args:Array vV)(W:vW)(Ct Cf:vW->Prop):Prop:=
 YieldAt Fence.wide 0 P l args W fun e W'=>(e=.returned (.bool true)/\Ct W')\/(e=.returned (.bool false)/\Cf W')
def jlQ(N:Nat)(C Cx:Nat->vW->Prop)(e:Ending)(W':vW):Prop:=(∃ v,e=.returned v)/\(C N W'\/∃ k,k<=N/\0 < k/\Cx k W')
def juN(P:Program)(gf:FuncId)(lb:Array vV)(N:Nat)(vals:Nat->Array vV)(S:vW->Prop):Prop:=
 ∀ (l:Nat) (C:Nat->vW->Prop) (Cx:Nat->vW->Prop),(∀ k,St (C k))->(∀ k,St (Cx k))->(∀ k W,C k W->S W) ->
  ∀ W,(∀ k W',k < N->C k W'->joK P l (vals k) W' (C (k+1)) (Cx (k+1)))->C 0 W ->
   CallsIn Fence.wide 0 P gf (#[.func (.yield l) #[] #[]]++lb) W (jlQ N C Cx)
def jw4(g:Nat)(W:vW)(Ct:vW->Prop)(Cj:Code->vW->Prop):Exit->Act->vW->Prop
 | .normal,_,W'=>jag (fun b=>b≠g/\b≠g+1) W W'/\Ct W'
 | .ret,_,W'=>jag (fun b=>b≠g/\b≠g+1) W W'/\Cj .ret W'
 | .exit i,_,W'=>jag (fun b=>b≠g/\b≠g+1) W W'/\Cj (.exit i) W'
 | _,_,_=>False
theorem jd9{P:Program}{g:Operand}{ps:Array Tmp}{assign body:Code}{Q:Exit->Act->vW->Prop}{a:Act}{w:vW}
  {gf:Nat} {lb:Array vV} (hg:a.eval g=.func (.func gf) #[] lb) (eg:∀ args w,(callFunc gf args).run P w=.ok (.enter gf args) w)
  {N:Nat} {vals:Nat->Array vV} {S:vW->Prop} (IS:juN P gf lb N vals S)
  (hps:∀ k,(vals k).size=ps.size)
  (C:Nat->vW->Prop) (Cj:Code->Nat->vW->Prop) (hC:∀ k,St (C k)) (hCj:∀ c k,St (Cj c k)) (hS:∀ k W,C k W->S W)
  (hup:∀ k W o,C k W->C k (W.putObj w.heap.size o)) (hup1:∀ k W o,C k W->C k (W.putObj (w.heap.size+1) o)) (hupj:∀ c k W o,Cj c k W->Cj c k (W.putObj (w.heap.size+1) o))
  (h0:C 0 w) (a₁:Nat->Act)
  (hassign:∀ (l k:Nat) (W:vW) (K:Act->vW->Prop),K (a₁ k) W ->
   assign.wpIn (Fence.wide.inRound l) 0 P (Exit.then K (fun _ _ _=>False)) { tmps:=(ps.zip (vals k)).foldl (fun t (p,v)=>t.setIfInBounds p v) a.tmps,defers:=[] } W)
  (hbody:∀ (l k:Nat) (W:vW),k < N->C k W->w.heap.size+1 < W.heap.size->body.wpIn (Fence.wide.inRound l) 0 P (jw4 w.heap.size W (C (k+1)) (fun c=>Cj c (k+1))) (a₁ k) W)
  (hdone:∀ (W:vW),C N W->Blk W w.heap.size (.deferred (some []))->Q .normal { a with defers:={ target:=.collected w.heap.size,args:=#[] } :: a.defers } W)
  (hstop:∀ (c:Code) (k:Nat) (W:vW),k<=N->0 < k->Cj c k W->Blk W w.heap.size (.deferred (some [])) ->
   c.wpIn Fence.wide 0 P Q { a with defers:={ target:=.collected w.heap.size,args:=#[] } :: a.defers } W) :
  (Code.rangeFunc g ps assign body).wpIn Fence.wide 0 P Q a w:=by
 refine wpIn_rangeFunc ?_;intro fn _;show ∃ l mark w₁ d w₁' f args w₂,(Instr.enterLoop fn a.tmps ps assign body none).run P w=_/\_
 obtain⟨q,z⟩:∃ q:LoopState->Option Code->Loop,q=fun st pe=>{ state:=st,pending:=pe,fn,tmps:=a.tmps,params:=ps,assign,body,defers:=w.heap.size }:=⟨_,rfl⟩
 obtain⟨H,J⟩:∃ H,(w.alloc (.deferred (some []))).alloc (.loop (q .ready none))=H:=⟨_,rfl⟩
 have a1:Blk H (w.heap.size+1) (.loop (q .ready none)):=by
  rw[<-J];have:=Blk.new (w.alloc (.deferred (some []))) (.loop (q .ready none));rwa [bK]at this
 have a2:Blk H w.heap.size (.deferred (some [])):=by
  rw[<-J];exact (Blk.new w _).alloc _
 have a3:Ext w H:=by rw[<-J];exact ((jag.refl _ w).alloc _).alloc _
 refine⟨w.heap.size+1,[{ target:=.collected w.heap.size,args:=#[] }],H,{ target:=.fn (.func gf) lb,args:=#[.func (.yield (w.heap.size+1)) #[] #[]] },H,gf,
  #[.func (.yield (w.heap.size+1)) #[] #[]]++lb,H,?_,?_,?_,?_,fun h=>by simp[Fence.wide]at h,?_⟩
 ·rw[<-J,z];exact run_enterLoop_outer _ _ _ _ _
 ·simp only[resolve,hg]
  simp[go_sem]
 ·intro f' _;trivial
 ·simp[invoke,go_sem,eg]
 ·let CC:Nat->vW->Prop:=fun k W=>C k W/\Blk W (w.heap.size+1) (.loop (q .ready none))/\Blk W w.heap.size (.deferred (some []))
  let CX:Nat->vW->Prop:=fun k W=>∃ c,Cj c k W/\Blk W (w.heap.size+1) (.loop (q .done (some c)))/\Blk W w.heap.size (.deferred (some []))
  have a4:=IS (w.heap.size+1) CC CX (fun k W A ⟨O,h2,E⟩ e=>⟨hC k _ _ O e,h2.keeps e (fun h=>h),E.keeps e (fun h=>h)⟩)
   (fun k W A ⟨c,O,h2,E⟩ e=>⟨c,hCj c k _ _ O e,h2.keeps e (fun h=>h),E.keeps e (fun h=>h)⟩) (fun k W h=>hS k W h.1) H ?_ ⟨hC 0 _ _ h0 a3,a1,a2⟩
  ·refine CallsIn.mono a4 ?_
   rintro e A ⟨⟨v,rfl⟩,Z⟩;rcases Z with⟨O,E,h4⟩ |⟨k,hk1,hk2,c,O,E,h4⟩
   ·obtain⟨ox,he⟩:∃ ox,(Instr.endLoop (w.heap.size+1)).run P A=.ok none (A.putObj (w.heap.size+1) ox):=⟨_,(run_endLoop (r:=q .ready none) E (by rw[z];simp)).trans (by rw[z])⟩
    exact⟨none,_,he,hdone _ (hup1 N _ _ O) (h4.put_other vO _)⟩
   ·obtain⟨ox,he⟩:∃ ox,(Instr.endLoop (w.heap.size+1)).run P A=.ok (some c) (A.putObj (w.heap.size+1) ox):=⟨_,(run_endLoop (r:=q .done (some c)) E (by rw[z];simp)).trans (by rw[z])⟩
    exact⟨some c,_,he,hstop c k _ hk1 hk2 (hupj c k _ _ O) (h4.put_other vO _)⟩
  ·rintro k W hk ⟨O,E,h4⟩
   refine⟨_,_,_,_,run_yield E (by rw[z];exact hps k),?_⟩
   refine roundIn_of_wpIn trivial ?_;rw[show (q .ready none).tmps=a.tmps from by rw[z],show (q .ready none).params=ps from by rw[z],show (q .ready none).assign=assign from by rw[z],show (q .ready none).body=body from by rw[z]];refine hassign _ k W _ ?_
   refine⟨_,run_beginRound E (by rw[z]),?_⟩
   have a5:C k (W.putObj (w.heap.size+1) (.loop { q .ready none with state:=.busy })):=hup1 k _ _ O;refine Code.wpIn_mono ?_ (hbody (w.heap.size+1) k _ hk a5 (by rw[World.putObj_size];exact E.lt));have a0:∀ (j:Option Code) (A:vW),jag (fun b=>b≠w.heap.size/\b≠w.heap.size+1) (W.putObj (w.heap.size+1) (.loop { q .ready none with state:=.busy })) A ->
     (Instr.endRound (w.heap.size+1) j).run P A=.ok (.bool j.isNone) (A.putObj (w.heap.size+1) (.loop (q (if j.isNone then .ready else .done) j))) /\
     Blk (A.putObj (w.heap.size+1) (.loop (q (if j.isNone then .ready else .done) j))) (w.heap.size+1) (.loop (q (if j.isNone then .ready else .done) j)) /\
     Blk (A.putObj (w.heap.size+1) (.loop (q (if j.isNone then .ready else .done) j))) w.heap.size (.deferred (some [])):=by
    intro j A X;have hl:Blk A (w.heap.size+1) (.loop { q .ready none with state:=.busy }):=(E.put_same _).keeps X (fun h=>h.2 rfl);have hd:Blk A w.heap.size (.deferred (some [])):=(h4.put_other vO _).keeps X (fun h=>h.1 rfl)
    refine⟨?_,hl.put_same _,hd.put_other vO _⟩
    rw[run_endRound j hl,z]
   intro e a' A hq;cases e with
   | normal =>
    obtain⟨X,hc⟩:=hq
    obtain⟨f1,f2,f3⟩:=a0 none A X
    exact⟨_,_,f1,.inl ⟨rfl,hup1 _ _ _ hc,f2,f3⟩⟩
   | ret =>
    obtain⟨X,hc⟩:=hq
    obtain⟨f1,f2,f3⟩:=a0 (some .ret) A X
    exact⟨_,_,f1,.inr ⟨rfl,.ret,hupj _ _ _ _ hc,f2,f3⟩⟩
   | exit i =>
    obtain⟨X,hc⟩:=hq
    obtain⟨f1,f2,f3⟩:=a0 (some (.exit i)) A X
    exact⟨_,_,f1,.inr ⟨rfl,.exit i,hupj _ _ _ _ hc,f2,f3⟩⟩
   | goto t=>exact hq.elim
   | panic ch=>exact hq.elim
   | outgrown=>exact hq.elim
theorem je5{P:Program}{T e:TypeId}{n:Nat}(hu:P.underlying T=some (.array n e))(hs:(P.info? e).map (·.size)=some 1)(hag:∀ w,(isAgg e).run P w=.ok false w)(cs:List vV)(k:Nat)(hk:k < n)(x:vV)(hx:cs[k]?=some x)(w:vW) :
  (Instr.index T (.agg cs.toArray) (.int .i64 (k:Int))).run P w=.ok x w:=by
 obtain⟨i,q,z⟩:=cV.1 hs
 have o:(sizeOf e).run P w=.ok 1 w:=by simp[sizeOf,typeInfo,q,z]
 have A:(0:Int)<=(k:Int)/\(k:Int) < (n:Int):=vO
 simp only[Instr.index,asIntOf,bS,cJ,Result.andThen,run_underlying hu];rw[if_pos A];simp only[bS,o,Result.andThen];simp[part,bS,hag,Result.andThen,hx,cJ]
def jaA:Nat->vM->List (Nat × vB)
 | _,[]=>[]
 | i,r :: rs=>if r.size=0 then jaA (i+1) rs else (i,r) :: jaA (i+1) rs
def jad.refsL(n:jad):List (Nat × vB):=jaA 0 n.refs
theorem jd6:∀ (a b:vM) (i:Nat),jaA i (a++b)=jaA i a++jaA (i+a.length) b
 | [],b,i=>by simp[jaA]
 | x :: a,b,i=>by
  have h:=jd6 a b (i+1);simp only[cQ,jaA,bO];rw[h,show i+1+a.length=i+(a.length+1) by omega];split <;> simp
section
attribute [local go_sem] Oper.semAt_some
theorem jbg{F:Fence}{n:Nat}{P:Program}{w:vW}{ops:Array Oper}{rest:List Oper}{o:Oper}{a:Act}{Q:Exit->Act->vW->Prop}(hg:o.guard=none)(t:TypeId)(x:Operand)(ho:o.op=.load t x)(v:vV)(p:Addr)(hx:a.eval x=.pointer (some p))
  (hr:(Instr.loadAt t (.pointer (some p))).run P w=.ok v w) (h:wpListIn F n P ops Q rest (a.put o.dst v) w):wpListIn F n P ops Q (o :: rest) a w:=by
 refine wpListIn_plain hg fun K e=>?_;unfold Oper.wpIn
 refine⟨?_,?_⟩
 ·simp[Oper.about,ho]
 ·rw[Oper.semAt_plain F _ _ (by rw[ho];intro c q;cases q)]
  simp only[execOp,ho,hx,bS,hr,Result.andThen,cJ];exact e _ _ h
theorem Tryz.uRefs:Tryz.prog.underlying 97=some (.array 16 9):=vY
theorem Tryz.iRefs:(Tryz.prog.info? 97).map (·.size)=some 16:=vY
def jad.rv(n:jad)(k:Nat):Array vV:=#[.int .i64 (((n.refsL.getD k (0,⟨#[]⟩)).1:Nat):Int),.string (n.refsL.getD k (0,⟨#[]⟩)).2]
def jBq(W:vW)(b:Nat)(n:jad)(C:Nat->vW->Prop)(v:vV)(wr:vW):Prop:=∃ i:Nat,i<=16/\v=.int .i64 i/\C (jaA 0 (n.refs.take i)).length wr
theorem jng(n:jad){i:Nat}{r:vB}(h:n.refs[i]?=some r):jaA 0 (n.refs.take (i+1))=jaA 0 (n.refs.take i)++(if r.size=0 then []else [(i,r)]):=by
 have e:=(bW.1 h).1;rw[cE,h,Option.toList_some,jd6]
 have:(n.refs.take i).length=i:=by simp;omega
 simp[jaA,this]
theorem jyZ(n:jad){i:Nat}{r:vB}(h:n.refs[i]?=some r)(hr:r.size≠0):(jaA 0 (n.refs.take i)).length < n.refsL.length/\n.refsL.getD (jaA 0 (n.refs.take i)).length (0,⟨#[]⟩)=(i,r):=by
 have e:=jng n h;rw[if_neg hr]at e;have o:n.refsL=jaA 0 (n.refs.take i)++((i,r) :: jaA (0+(n.refs.take (i+1)).length) (n.refs.drop (i+1))):=by
  unfold jad.refsL
  conv=>lhs;rw[<-dD (i+1) n.refs]
  rw[jd6,e,bX];rfl
 rw[o];constructor
 ·simp
 ·simp[bE]
theorem Tryz.strOne:(Tryz.prog.info? 9).map (·.size)=some 1:=vY
theorem Tryz.strAgg(w:vW):(isAgg 9).run Tryz.prog w=.ok false w:=vY
theorem ji6(b:Nat)(n:jad)(hr:n.refs.length=16):juN Tryz.prog 117 #[.pointer (some ⟨b,0,none⟩)] n.refsL.length n.rv (fun W=>Blk W b (.cells n.cells.toArray 147)):=by
 intro l C Cx hC K hS W hY h0;have hB:=hS 0 W h0;have O:W.rangeAt b 3 (n.refs.map Value.string):=fun j v hv=>hB.cellL (by
  unfold jad.cells;rw[show 3+j=j+3 by omega];simpa using hv)
 have Q:=run_loadVar_mid (P:=Tryz.prog) W b 3 97 _ _ O Tryz.uRefs rfl (by simp only[cB,hr];exact Tryz.iRefs);have X:(Instr.loadAt 97 (.pointer (some ⟨b,3,none⟩))).run Tryz.prog W=.ok (.agg (n.refs.map Value.string).toArray) W:=by
  simp[Instr.loadAt,Instr.sureAddr,bS,Result.andThen,Q]
 have HB:=Hd hB;have HY:=Hd hY;have H0:=Hd h0;have HR:=Hd hr;clear hB hY h0 O Q hr;refine callsIn_of_wp Tryz.func117 rfl trivial ?_ rfl;simp only[Tryz.ntmps117,cT,bO,dG,Nat.reduceAdd,Nat.reduceSub,cY,cX,dI,dC,cM,cQ];gi_wp2_with (refine jbg rfl 97 (.tmp 5) rfl _ _ rfl X ?_)
 have a9:=Hd hC;have b0:=Hd K;have HS:=Hd hS;clear hC K hS X;gi_loopw [7] (fun v wr=>jBq W b n C v wr) (fun v _=>16 - (intOf v).toNat)
 case atStart=>exact⟨0,by omega,rfl,by simpa [jaA]using H0.o⟩
 case round =>
  obtain⟨i,hi,rfl,Z⟩:=hrel
  have E:=Hd Z;clear Z
  by_cases hlt:i < 16
  ·obtain⟨r,z⟩:∃ r,n.refs[i]?=some r:=⟨_,bA (by have:=HR.o;omega)⟩
   have b1:(Instr.index 97 (.agg (n.refs.map Value.string).toArray) (.int .i64 (i:Int))).run Tryz.prog wr=.ok (.string r) wr:=je5 Tryz.uRefs Tryz.strOne Tryz.strAgg _ i hlt _ (by rw[cA,z];rfl) wr;have q:=jng n z
   by_cases hr0:r.size=0
   ·have a5:r=⟨#[]⟩:=by
     obtain⟨⟨l⟩⟩:=r
     cases l with
     | nil=>rfl
     | cons x y=>exact absurd hr0 (iA _)
    rw[if_pos hr0,bU]at q;subst a5;have a0:=Hd q;clear q z hr0;gi_wp2
    refine⟨(fun f h=>by cases h),?_⟩
    gi_wp2;go_roundw
    case rel=>exact⟨i+1,by omega,by go_num,by rw[a0.o];exact E.o⟩
    case measure=>exact vJ
   ·have A:=jyZ n z hr0
    have b2:=ja4 (s:=r) vO;rw[if_neg hr0]at q
    obtain⟨k,hk⟩:=vE (jaA 0 (n.refs.take i)).length
    rw[<-hk]at A E;have a3:n.rv k=#[.int .i64 (i:Int),.string r]:=by unfold jad.rv;rw[A.2]
    obtain⟨fn,tm,b3,bd,a6,a4⟩:=HY.o k wr A.1 E.o
    rw[a3]at a6;have H:(jaA 0 (n.refs.take (i+1))).length=k+1:=by rw[q,bF, <-hk];rfl
    have a1:=Hd H;have a7:=Hd A;have a8:=Hd a4;clear H A a4 q a3 hk z hr0;gi_wp2
    refine⟨rfl,a8.o.mono ?_⟩
    rintro e w5 (⟨rfl,C5⟩ |⟨rfl,C5⟩)
    ·have J:=Hd C5
     clear C5;gi_wp2;go_roundw
     case rel=>exact⟨i+1,by omega,by go_num,by rw[a1.o];exact J.o⟩
     case measure=>exact vJ
    ·have J:=Hd C5
     clear C5;gi_wp2;refine bodyPost_ret (results_none rfl _ _ _) rfl ?_
     exact⟨⟨_,rfl⟩,.inr ⟨k+1,a7.o.1,by omega,J.o⟩⟩
  ·have a2:i=16:=vO
   subst a2;gi_wp2;refine bodyPost_end (results_none rfl _ _ _) rfl ?_
   refine⟨⟨_,rfl⟩,.inl ?_⟩
   have h:=E.o;rw[cD (by have:=HR.o;omega)]at h;exact h
end
theorem jnf(w:vW)(n:jad):vQ 77 #[n.V] w fun e w'=>e=.returned (.func (.func 117) #[] #[.pointer (some ⟨w.heap.size,0,none⟩)])/\Blk w' w.heap.size (.cells n.cells.toArray 147)/\Ext w w':=by
 unfold jad.V;go_enter Tryz.func77,Tryz.ntmps77;go_wp2_with fail
 go_ret
 exact⟨rfl,Blk.new w _,(ExtR w).alloc _⟩
theorem jq9(w:vW)(n:jad):vR 113 #[n.V] w (.string (jaz ⟨#[]⟩)):=by
 unfold jad.V;go_enter Tryz.func113,Tryz.ntmps113;go_wp2_with fail
 refine vH (jcv _ ⟨#[]⟩ vI) fun w1 e=>?_;have q:Hid (Ext w w1):=Hd (((ExtR w).alloc _).trans e);go_wp2_with fail
 go_ret
 exact⟨rfl,q.o⟩
section
section mixe
variable {P:Program} {l:List Oper} {E:vW->vW->Prop}
def anyK(P:Program)(ops:Array Oper)(E:vW->vW->Prop)(Q:Act->vW->Prop):Nat->Array Bool->Act->vW->Prop
 | 0,listed,a,w=>∀ w1,E w w1->Region.ready .any ops listed=[]/\Q a w1
 | fuel+1,listed,a,w=>∀ w1,E w w1 ->
  (Region.ready .any ops listed=[]->Q a w1) /\
  ∀ i∈Region.ready .any ops listed,wpOp P ops NoQ i (fun a' w'=>E w1 w'/\anyK P ops E Q fuel (listed.setIfInBounds i true) a' w') a w1
theorem jrR(hT:∀ x y z,E x y->E y z->E x z){ops:Array Oper}{Q:Act->vW->Prop}:∀ (fuel:Nat) (listed:Array Bool) (a:Act) (w w1:vW),anyK P ops E Q fuel listed a w->E w w1->anyK P ops E Q fuel listed a w1
 | 0,_,_,_,_,h,he=>fun e o=>h e (hT _ _ _ he o)
 | _+1,_,_,_,_,h,he=>fun e o=>h e (hT _ _ _ he o)
theorem jjB(hE:∀ w,E w w){ops:Array Oper}{Q:Act->vW->Prop}{Q':Exit->Act->vW->Prop}(hQ:∀ a w,Q a w->Q' .normal a w) :
  ∀ (fuel:Nat) (listed:Array Bool) (a:Act) (w:vW),anyK P ops E Q fuel listed a w->wpAny P .any ops Q' fuel listed a w
 | 0,_,_,w,h=>let ⟨h1,h2⟩:=h w (hE w);⟨h1,hQ _ _ h2⟩
 | fuel+1,_,_,w,h=>let ⟨h1,h2⟩:=h w (hE w)
  ⟨fun e=>hQ _ _ (h1 e),fun i o=>jij (fun q w' ⟨_,z⟩=>jjB hE hQ fuel _ q w' z) (h2 i o)⟩
theorem jqx(hE:∀ w,E w w)(hT:∀ x y z,E x y->E y z->E x z){ops:Array Oper}{Q:Act->vW->Prop}{i:Nat}{oi:Oper}{v:vV}(hi:ops[i]?=some oi)(hsel:∀ (j:Nat) (o:Oper) cs b,ops[j]?=some o->o.op≠.select cs b) :
  ∀ (A:Nat) (q:Array Bool) (a:Act) (w:vW),
   (∀ j oj,ops[j]?=some oj->j≠i->q.getD j true=false->(∀ e∈oj.after,Region.binds .any e=true->e.on≠i)->oi.apart ops oj=true) ->
   i∈Region.ready .any ops q->jb7 P ops E w oi v a ->
   anyK P ops E Q A (q.setIfInBounds i true) (a.put oi.dst v) w->anyK P ops E Q (A+1) q a w:=by
 intro A;induction A with
 | zero =>
  intro q a w _ hr hy H w1 O
  refine⟨fun h=>(by rw[h]at hr;cases hr),fun j hj=>?_⟩
  by_cases hji:j=i
  ·subst hji;exact hy.wpOp hi O hE (fun w' J=>⟨J,jrR hT _ _ _ _ _ H (hT _ _ _ O J)⟩)
  ·have:=ready_mono hj hji
   rw[(H w1 O).1]at this;cases this
 | succ A ih =>
  intro q a w K hr hy H w1 O
  refine⟨fun h=>(by rw[h]at hr;cases hr),fun j hj=>?_⟩
  by_cases hji:j=i
  ·subst hji;exact hy.wpOp hi O hE (fun w' J=>⟨J,jrR hT _ _ _ _ _ H (hT _ _ _ O J)⟩)
  ·have J:=(H w1 O).2 j (ready_mono hj hji)
   obtain⟨Z,oj,a0,a3⟩:=mem_ready.1 hj
   have a4:∀ e∈oj.after,Region.binds .any e=true->e.on≠i:=fun e O hb a6=>by
    have J:=a3 e O hb;have h0:=(mem_ready.1 hr).1;rw[a6]at J;rcases fO i q.size with h' | h'
    ·simp[h']at h0 J;rw[h0]at J;cases J
    ·simp[gH h']at J
   have h2:=jfF (v:=v) (Y:=fun a'=>execOp a'.eval oi=execOp a.eval oi/\Region.wanted oi (yielded ops a'.tmps)=Region.wanted oi (yielded ops a.tmps)) a0 (K j oj a0 hji Z a4) (fun cs b=>hsel i oi cs b hi) (fun cs b=>hsel j oj cs b a0)
    (fun a1 a2 h e1 e2=>⟨e1.trans h.1,e2.trans h.2⟩) ⟨rfl,rfl⟩ J
   have X:∀ k ok,ops[k]?=some ok->k≠i->(q.setIfInBounds j true).getD k true=false ->
     (∀ e∈ok.after,Region.binds .any e=true->e.on≠i)->oi.apart ops ok=true:=fun k ok hk a7 a5 a8=>by
    refine K k ok hk a7 ?_ a8
    by_cases hjk:j=k
    ·subst hjk;exact Z
    ·rw[getD_set_ne true hjk]at a5;exact a5
   refine wpOp_mono (fun a' w' h3=>⟨h3.2.1,?_⟩) h2
   obtain⟨⟨e1,e2⟩,h4,h5⟩:=h3
   have a9:jb7 P ops E w' oi v a':=(hy.of_same e1 e2).st hT (hT _ _ _ O h4);refine ih (q.setIfInBounds j true) a' w' X (ready_mono hr (Ne.symm hji)) a9 ?_;rw[gQ _ _ hji];exact h5
def MixK(P:Program)(l:List Oper)(E:vW->vW->Prop)(Q:Act->vW->Prop):List Nat->List Nat->Act->vW->Prop
 | [],done,a,w=>∀ w1,E w w1->Region.ready .any l.toArray (jbi l done)=[]/\Q a w1
 | k :: ord,done,a,w =>
  (k∈Region.ready .any l.toArray (jbi l done)/\Region.free .any l.toArray (jbi l done) k=true/\∃ o v,l[k]?=some o/\jb7 P l.toArray E w o v a/\MixK P l E Q ord (k :: done) (a.put o.dst v) w) \/
  (Region.ready .any l.toArray (jbi l done)=[k]/\∀ w1,E w w1->wpOp P l.toArray NoQ k (fun a' w'=>E w1 w'/\MixK P l E Q ord (k :: done) a' w') a w1)
theorem jf9(hE:∀ w,E w w)(hT:∀ x y z,E x y->E y z->E x z)(hs:Region.noSelect l.toArray=true){Q:Act->vW->Prop}:∀ (ord:List Nat) (done:List Nat) (a:Act) (w:vW),
  MixK P l E Q ord done a w->anyK P l.toArray E Q ord.length (jbi l done) a w
 | [],_,_,_,h=>h
 | k :: ord,done,a,w,h=>by
  rcases h with⟨hr,hf,o,v,ho,hy,h⟩ |⟨hr,h⟩
  ·have e:l.toArray[k]?=some o:=by simpa using ho
   exact jqx hE hT e (iD hs) ord.length (jbi l done) a w (iQ e hf) hr hy (jf9 hE hT hs ord _ _ _ h)
  ·intro w1 J
   refine⟨fun q=>(by rw[hr]at q;cases q),fun i A=>?_⟩
   rw[hr]at A;obtain rfl:i=k:=by simpa using A
   exact wpOp_mono (fun K w' H=>⟨H.1,jf9 hE hT hs ord _ _ _ H.2⟩) (h w1 J)
theorem jan(ord:List Nat)(E:vW->vW->Prop)(hE:∀ w,E w w)(hT:∀ x y z,E x y->E y z->E x z){id:Nat}{Q:Exit->Act->vW->Prop}{a:Act}{w:vW}
  (hm:P.follows .mixedOrders=true) (hs:Region.noSelect l.toArray=true) (hl:ord.length=l.toArray.size)
  (h:MixK P l E (fun a w=>Q .normal a w) ord [] a w.drew):(Code.region id l.toArray true).wp P Q a w:=by
 refine wp_region_any hm ?_;rw[<-hl]
 have:=jf9 hE hT hs ord _ _ _ h
 unfold jbi at this;rw[hl]at this ⊢;exact jjB hE (fun _ _ h=>h) _ _ _ _ this
variable {Q:Act->vW->Prop} {ord done:List Nat} {a:Act} {w:vW} {k:Nat} {o:Oper}
def jhV(l:List Oper)(done:List Nat)(k:Nat):Bool:=(Region.ready .any l.toArray (jbi l done)).contains k && Region.free .any l.toArray (jbi l done) k
def jw9(l:List Oper)(done:List Nat)(k:Nat):Bool:=Region.ready .any l.toArray (jbi l done) == [k]
theorem jts(o:Oper)(ho:l[k]?=some o)(hk:jhV l done k=true)(hw:Region.wanted o (yielded l.toArray a.tmps)=true)(hq:jj1 o.op=true)
  (h:∀ K:Act->Prop,(∀ a',MixK P l E Q ord (k :: done) a' w->K a')->o.quiet P a (fun _=>True) K):MixK P l E Q (k :: ord) done a w:=by
 simp only[jhV,cI,cZ]at hk
 obtain⟨v,z,A⟩:=h _ (fun _ h=>h)
 have q:jb7 P l.toArray E w o v a:=by
  refine .inl ⟨hw,fun w1 _=>?_⟩;have e:=z w1 trivial;unfold Oper.quietAt at e;have H:=fun f args w'=>jlo (ρ:=a.eval) hq P w1 w' f args;generalize (execOp a.eval o).run P w1=r at *;cases r with
  | ok n w'=>cases n <;> simp only[Oper.quietUpon]at e <;> first | exact e | exact absurd rfl (H _ _ _)
  | halt x w'=>simp only[Oper.quietUpon]at e
 exact .inl ⟨hk.1,hk.2,o,v,ho,q,A⟩
theorem jcB(o:Oper)(v:vV)(ho:l[k]?=some o)(hk:jhV l done k=true)(hw:Region.wanted o (yielded l.toArray a.tmps)=true)
  (hv:∀ w1,E w w1->(execOp a.eval o).run P w1=.ok (.value v) w1) (h:MixK P l E Q ord (k :: done) (a.put o.dst v) w):MixK P l E Q (k :: ord) done a w:=by
 simp only[jhV,cI,cZ]at hk;exact .inl ⟨hk.1,hk.2,o,v,ho,.inl ⟨hw,fun w1 e=>by rw[hv w1 e];exact⟨rfl,rfl⟩⟩,h⟩
theorem jtr(p:Addr)(v:vV){t:TypeId}{x:Operand}{d:Option Tmp}{ty:TypeId}{pos:String}{af:Array Edge}{g:Option (Nat × Bool)}(ho:l[k]?=some ⟨d,.load t x,ty,pos,af,g⟩)(hk:jhV l done k=true)
  (hw:Region.wanted ⟨d,.load t x,ty,pos,af,g⟩ (yielded l.toArray a.tmps)=true) (hx:a.eval x=.pointer (some p))
  (hv:∀ w1,E w w1->(Instr.loadAt t (.pointer (some p))).run P w1=.ok v w1) (h:MixK P l E Q ord (k :: done) (a.put d v) w):MixK P l E Q (k :: ord) done a w:=by
 refine jcB _ v ho hk hw (fun w1 e=>?_) h
 have:=hv w1 e
 simp only[execOp,hx,bS,this,Result.andThen,cJ]
theorem qKL{t:TypeId}{x:Operand}{d:Option Tmp}{ty:TypeId}{pos:String}{af:Array Edge}{g:Option (Nat × Bool)}(p:Addr)(v:vV)(ho:l[k]?=some ⟨d,.load t x,ty,pos,af,g⟩)(hv:∀ w1,E w w1->(Instr.loadAt t (.pointer (some p))).run P w1=.ok v w1)(h:MixK P l E Q ord (k :: done) (a.put d v) w)(hk:jhV l done k=true:=by kernel_rfl)(hw:Region.wanted ⟨d,.load t x,ty,pos,af,g⟩ (yielded l.toArray a.tmps)=true:=by rfl)(hx:a.eval x=.pointer (some p):=by rfl):MixK P l E Q (k :: ord) done a w:=jtr p v ho hk hw hx hv h
theorem jtt(o:Oper)(ho:l[k]?=some o)(hk:jhV l done k=true)(hw:Region.wanted o (yielded l.toArray a.tmps)=false)
  (h:MixK P l E Q ord (k :: done) (a.put o.dst undef) w):MixK P l E Q (k :: ord) done a w:=by
 simp only[jhV,cI,cZ]at hk;exact .inl ⟨hk.1,hk.2,o,undef,ho,.inr ⟨hw,rfl⟩,h⟩
theorem qKS(o:Oper)(ho:l[k]?=some o)(h:MixK P l E Q ord (k :: done) (a.put o.dst undef) w)(hk:jhV l done k=true:=by kernel_rfl)(hw:Region.wanted o (yielded l.toArray a.tmps)=false:=by rfl):MixK P l E Q (k :: ord) done a w:=jtt o ho hk hw h
theorem jtq(o:Oper)(f:FuncId)(args:Array vV)(v:vV)(ho:l[k]?=some o)(hk:jhV l done k=true)(hw:Region.wanted o (yielded l.toArray a.tmps)=true)
  (hv:∀ w1,(execOp a.eval o).run P w1=.ok (.enter f args) w1) (hc:∀ w1,E w w1->Calls P f args w1 (fun e z=>e=.returned v/\E w1 z))
  (h:MixK P l E Q ord (k :: done) (a.put o.dst v) w):MixK P l E Q (k :: ord) done a w:=by
 simp only[jhV,cI,cZ]at hk;exact .inl ⟨hk.1,hk.2,o,v,ho,.inl ⟨hw,fun w1 q=>by rw[hv w1];exact⟨rfl,hc w1 q⟩⟩,h⟩
theorem qKC(o:Oper)(f:FuncId)(args:Array vV)(v:vV)(ho:l[k]?=some o)(hv:∀ w1,(execOp a.eval o).run P w1=.ok (.enter f args) w1)(hc:∀ w1,E w w1->Calls P f args w1 (fun e q=>e=.returned v/\E w1 q))(h:MixK P l E Q ord (k :: done) (a.put o.dst v) w)(hk:jhV l done k=true:=by kernel_rfl)(hw:Region.wanted o (yielded l.toArray a.tmps)=true:=by rfl):MixK P l E Q (k :: ord) done a w:=jtq o f args v ho hk hw hv hc h
theorem jeC(o:Oper)(ho:l[k]?=some o)(hk:jw9 l done k=true)(hw:Region.wanted o (yielded l.toArray a.tmps)=true)
  (h:∀ w1,E w w1->∀ K:Act->vW->Prop,(∀ a' w',E w1 w'->MixK P l E Q ord (k :: done) a' w'->K a' w')->o.wp P a w1 K NoQ):MixK P l E Q (k :: ord) done a w:=by
 simp only[jw9,beq_iff_eq]at hk;refine .inr ⟨hk,fun w1 q=>?_⟩;unfold wpOp;have e:l.toArray[k]?=some o:=by simpa using ho
 simp only[e,hw,if_true];exact .inl (h w1 q _ (fun _ _ z A=>⟨z,A⟩))
theorem jv3(hk:(Region.ready .any l.toArray (jbi l done)).isEmpty=true)(h:∀ w1,E w w1->Q a w1):MixK P l E Q [] done a w:=
 fun w1 e=>⟨by simpa using hk,h w1 e⟩
theorem qKE(h:∀ w1,E w w1->Q a w1)(hk:(Region.ready .any l.toArray (jbi l done)).isEmpty=true:=by kernel_rfl):MixK P l E Q [] done a w:=jv3 hk h
end mixe
end
end Go.Proofs.YtepbencaoiompaaGreatDoor
