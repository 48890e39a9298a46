/- Lemmas; each is under no condition but those that it states. -/
import Derived.Test.YtdofbjccfkaijaaGreatDoorPn9
import Derived.Test.YtdofbjccfkaijaaGreatDoorPn8
import Derived.Sort.QuietIn
import Derived.LoopIn
import Derived.LoopNIn
import Derived.OwnWalkIn
namespace Go.Proofs.YtdofbjccfkaijaaGreatDoor
set_option linter.unusedSimpArgs false
set_option linter.unusedVariables false
set_option maxRecDepth 100000
set_option maxHeartbeats 16000000
open Go Go.RowKit
def jed(leaf odd:Bool):vU:=(if leaf then 2 else 0)+(if odd then 1 else 0)
theorem jxL(leaf odd:Bool):jz3 leaf odd=((jed leaf odd).toNat:Int):=by cases leaf <;> cases odd <;> rfl
def oddB(p:vB):Bool:=p.size % 2 == 1
def jch(p:vB)(leaf:Bool):vN:=jed leaf (oddB p) ::(if oddB p then []else [0])
def putB(p:vB)(leaf:Bool):vB:=jbt ⟨(jch p leaf++p.data.toList).toArray⟩
theorem jAj(w:vW)(p:vB)(b:Nat)(hp:w.cell? ⟨b,0,none⟩=some (.string p)):vQ 168 #[.pointer (some ⟨b,0,none⟩)] w fun e w'=>e=.returned (.bool (oddB p))/\w=w':=by
 have e:oddB p=decide ((p.size:Int) % 2=1):=by
  unfold oddB
  by_cases h:p.size % 2=1
  ·have o:(p.size:Int) % 2=1:=vO
   simp[h,o]
  ·have o:¬(p.size:Int) % 2=1:=vO
   simp only[o,decide_false];simp;omega
 unfold vQ;go_in;go_wp2_with fail
 go_ret
 exact⟨by rw[e];rfl,rfl⟩
theorem Tryz.run_lit1(w:vW)(b:vU):(convert 132 9 (.slice (some ⟨w.heap.size,0,none⟩) 1 1)).run Tryz.prog (w.alloc (.cells #[.int .u8 (b.toNat:Int)] 5))=.ok (.string ⟨#[b]⟩) (w.alloc (.cells #[.int .u8 (b.toNat:Int)] 5)):=by
 refine run_convert_bytes_back (w.alloc (.cells #[.int .u8 (b.toNat:Int)] 5)) _ _ _ ⟨w.heap.size,0,none⟩ 1 [b] Tryz.uBytes Tryz.uU8 Tryz.uStr (fun j e=>?_);have o:j=0:=by simp at e;omega
 subst o;exact (Blk.new w _).cell vF
theorem jAv(w:vW)(p:vB)(leaf:Bool)(hs:p.size<=900000)(hv:jaB p=true):vR 150 #[.string p,.bool leaf] w (.tuple #[.string (putB p leaf),.bool true]):=by
 have HV:=Hd hv;clear hv;unfold vR vQ;go_in;go_wp2_with fail
 refine vC (jll _ p vO) fun w1 E=>?_;rw[HV.o]
 obtain⟨g,hg⟩:=vE w.heap.size
 have q1:w1.cell? ⟨g,0,none⟩=some (.string p):=by rw[E,hg];exact (Blk.new w _).cell vF
 have hE:Ext w w1:=by rw[E];exact (ExtR w).alloc _
 rw[<-hg];have HE:=Hd hE;clear hE E hg;go_wp2_with fail
 refine (jAj w1 p g q1).mono ?_;rintro e Z ⟨rfl,rfl⟩
 obtain⟨od,H⟩:∃ o,o=oddB p:=⟨_,rfl⟩
 rw[<-H];have J:=Hd H;clear H;go_wp2_with fail
 refine (jz4 w1 leaf od).mono ?_;rintro e Z ⟨rfl,rfl⟩;rw[jxL]
 obtain⟨A,K⟩:∃ f,f=jed leaf od:=⟨_,rfl⟩
 rw[<-K];have a4:=Tryz.run_lit1 Z A;have a0:=jaa q1 ((ExtR Z).alloc (.cells #[Value.int .u8 (A.toNat:Int)] 5));have a1:Ext w (Z.alloc (.cells #[Value.int .u8 (A.toNat:Int)] 5)):=HE.o.alloc _;have O:=Hd a1;have a2:=Hd K;clear a1 HE K q1;go_wp2_with fail
 clear a4
 obtain⟨w3,a3⟩:∃ x,x=Z.alloc (.cells #[Value.int .u8 (A.toNat:Int)] 5):=⟨_,rfl⟩
 rw[<-a3]at a0 O ⊢;clear a3;refine (jAj w3 p g a0).mono ?_;rintro e w4 ⟨rfl,rfl⟩;rw[<-J.o];cases od with
 | true =>
  go_wp2_with fail
  have Q:((⟨#[A]⟩:vB)++p).size<=1000000:=by rw[bU];show 1+p.size<=_;omega
  refine vC (jn0 _ _ Q) fun w5 X=>?_;have hX:=O.o.trans X;have z:jbt ((⟨#[A]⟩:vB)++p)=putB p leaf:=by
   unfold putB jch;rw[<-J.o, <-a2.o,if_pos rfl]
   congr 1
  rw[z];go_wp2_with fail
  exact bodyPost_ret (v:=.tuple #[.string (putB p leaf),.bool true]) vY rfl ⟨rfl,hX⟩
 | false =>
  go_wp2_with fail
  have Q:((⟨#[A]⟩:vB)++⟨#[0]⟩++p).size<=1000000:=by rw[bU,bU];show 1+1+p.size<=_;omega
  refine vC (jn0 _ _ Q) fun w5 X=>?_;have hX:=O.o.trans X;have z:jbt ((⟨#[A]⟩:vB)++⟨#[0]⟩++p)=putB p leaf:=by
   unfold putB jch;rw[<-J.o, <-a2.o,if_neg vI]
   congr 1
  rw[z];go_wp2_with fail
  exact bodyPost_ret (v:=.tuple #[.string (putB p leaf),.bool true]) vY rfl ⟨rfl,hX⟩
structure jad where
 kind:Nat
 path:vB
 value:vB
 refs:vM
def jad.cells(n:jad):List vV:=.int .i64 (n.kind:Int) :: .string n.path :: .string n.value :: n.refs.map Value.string
def jad.V(n:jad):vV:=.agg n.cells.toArray
def jad.pathOk(n:jad)(least:Nat):Bool:=decide (least<=n.path.size) && decide (n.path.size<=12) && jaB n.path
theorem jad.cells_len(n:jad)(h:n.refs.length=16):n.cells.length=19:=by simp[jad.cells,h]
theorem jtg(w:vW)(n:jad)(hr:n.refs.length=16)(least:Nat)(hs:n.path.size<=1000000):vR 147 #[n.V,.int .i64 least] w (.bool (n.pathOk least)):=by
 obtain⟨k,p,v,A⟩:=n
 have E:(jad.cells ⟨k,p,v,A⟩).length=19:=jad.cells_len _ hr;simp only at hr hs;have O:=Hd E;clear E;unfold jad.V;have Q:(jad.cells ⟨k,p,v,A⟩)[1]?=some (.string p):=rfl;have e:∀ b:Bool,b=(jad.pathOk ⟨k,p,v,A⟩ least)->Ending.returned (.bool b)=Ending.returned (.bool (jad.pathOk ⟨k,p,v,A⟩ least)):=fun b h=>by rw[h]
 by_cases h1:least<=p.size
 ·have H:(least:Int)<=(p.size:Int):=vO
  by_cases h2:p.size<=12
  ·have J:(p.size:Int)<=12:=vO
   unfold vR vQ;go_in;go_wp2_with fail
   refine vC (jll _ p vO) fun w1 z=>?_;have K:Hid (Ext w w1):=Hd (by rw[z];exact (ExtR w).alloc _);clear z;go_wp2_with fail
   go_ret
   exact⟨e _ (by simp[jad.pathOk,h1,h2]),K.o⟩
  ·have J:¬(p.size:Int)<=12:=vO
   unfold vR vQ;go_in;go_wp2_with fail
   go_ret
   exact⟨e false (by simp[jad.pathOk,h2]),(ExtR w).alloc _⟩
 ·have H:¬(least:Int)<=(p.size:Int):=vO
  unfold vR vQ;go_in;go_wp2_with fail
  go_ret
  exact⟨e false (by simp[jad.pathOk,h1]),(ExtR w).alloc _⟩
def jkO(ops:Array Oper):Bool:=ops.toList.all fun o=>match o.op with | .defer _=>false | _=>true
theorem jsi(p q:Tmp)(x y:vV)(t:List vV):(#[p,q].zip #[x,y]).foldl (fun t (p,v)=>t.setIfInBounds p v) t.toArray=((t.set p x).set q y).toArray:=by simp
theorem jz5(p:Tmp)(x:vV)(t:List vV):(#[p].zip #[x]).foldl (fun t (p,v)=>t.setIfInBounds p v) t.toArray=(t.set p x).toArray:=by simp
def St(C:vW->Prop):Prop:=∀ W W',C W->Ext W W'->C W'
def jrm(P:Program)(l:Nat)(args:Array vV)(W:vW)(Ct Cf:vW->Prop):Prop:=
 YieldAt Fence.wide 0 P l args W fun e W'=>(e=.returned (.bool true)/\Ct W')\/(e=.returned (.bool false)/\Cf W')
def jrh(N:Nat)(C Cx:Nat->vW->Prop)(e:Ending)(W':vW):Prop:=(∃ v,e=.returned v)/\(C N W'\/∃ k,k<=N/\0 < k/\Cx k W')
def juw(P:Program)(gf:FuncId)(lb:Array vV)(N:Nat)(vals:Nat->Array vV)(S:vW->Prop):Prop:=
 ∀ (l:Nat) (C:Nat->vW->Prop) (Cx:Nat->vW->Prop),(∀ k,St (C k))->(∀ k,St (Cx k))->(∀ k W,C k W->S W) ->
  ∀ W,(∀ k W',k < N->C k W'->jrm P l (vals k) W' (C (k+1)) (Cx (k+1)))->C 0 W ->
   CallsIn Fence.wide 0 P gf (#[.func (.yield l) #[] #[]]++lb) W (jrh N C Cx)
def jzs(g:Nat)(W:vW)(Ct:vW->Prop)(Cj:Code->vW->Prop):Exit->Act->vW->Prop
 | .normal,_,W'=>jaf (fun b=>b≠g/\b≠g+1) W W'/\Ct W'
 | .ret,_,W'=>jaf (fun b=>b≠g/\b≠g+1) W W'/\Cj .ret W'
 | .exit i,_,W'=>jaf (fun b=>b≠g/\b≠g+1) W W'/\Cj (.exit i) W'
 | _,_,_=>False
theorem jeD{P:Program}{g:Operand}{ps:Array Tmp}{assign body:Code}{Q:Exit->Act->vW->Prop}{a:Act}{w:vW}
  {gf:Nat} {lb:Array vV} (hg:a.eval g=.func (.func gf) #[] lb) (eg:∀ args w,(callFunc gf args).run P w=.ok (.enter gf args) w)
  {N:Nat} {vals:Nat->Array vV} {S:vW->Prop} (IS:juw P gf lb N vals S)
  (hps:∀ k,(vals k).size=ps.size)
  (C:Nat->vW->Prop) (Cj:Code->Nat->vW->Prop) (hC:∀ k,St (C k)) (hCj:∀ c k,St (Cj c k)) (hS:∀ k W,C k W->S W)
  (hup:∀ k W o,C k W->C k (W.putObj w.heap.size o)) (hup1:∀ k W o,C k W->C k (W.putObj (w.heap.size+1) o)) (hupj:∀ c k W o,Cj c k W->Cj c k (W.putObj (w.heap.size+1) o))
  (h0:C 0 w) (a₁:Nat->Act)
  (hassign:∀ (l k:Nat) (W:vW) (K:Act->vW->Prop),K (a₁ k) W ->
   assign.wpIn (Fence.wide.inRound l) 0 P (Exit.then K (fun _ _ _=>False)) { tmps:=(ps.zip (vals k)).foldl (fun t (p,v)=>t.setIfInBounds p v) a.tmps,defers:=[] } W)
  (hbody:∀ (l k:Nat) (W:vW),k < N->C k W->w.heap.size+1 < W.heap.size->body.wpIn (Fence.wide.inRound l) 0 P (jzs w.heap.size W (C (k+1)) (fun c=>Cj c (k+1))) (a₁ k) W)
  (hdone:∀ (W:vW),C N W->Blk W w.heap.size (.deferred (some []))->Q .normal { a with defers:={ target:=.collected w.heap.size,args:=#[] } :: a.defers } W)
  (hstop:∀ (c:Code) (k:Nat) (W:vW),k<=N->0 < k->Cj c k W->Blk W w.heap.size (.deferred (some [])) ->
   c.wpIn Fence.wide 0 P Q { a with defers:={ target:=.collected w.heap.size,args:=#[] } :: a.defers } W) :
  (Code.rangeFunc g ps assign body).wpIn Fence.wide 0 P Q a w:=by
 refine wpIn_rangeFunc ?_;intro fn _;show ∃ l mark w₁ d w₁' f args w₂,(Instr.enterLoop fn a.tmps ps assign body none).run P w=_/\_
 obtain⟨z,A⟩:∃ z:LoopState->Option Code->Loop,z=fun st pe=>{ state:=st,pending:=pe,fn,tmps:=a.tmps,params:=ps,assign,body,defers:=w.heap.size }:=⟨_,rfl⟩
 obtain⟨J,O⟩:∃ J,(w.alloc (.deferred (some []))).alloc (.loop (z .ready none))=J:=⟨_,rfl⟩
 have a2:Blk J (w.heap.size+1) (.loop (z .ready none)):=by
  rw[<-O];have:=Blk.new (w.alloc (.deferred (some []))) (.loop (z .ready none));rwa [bR]at this
 have a3:Blk J w.heap.size (.deferred (some [])):=by
  rw[<-O];exact (Blk.new w _).alloc _
 have a4:Ext w J:=by rw[<-O];exact ((jaf.refl _ w).alloc _).alloc _
 refine⟨w.heap.size+1,[{ target:=.collected w.heap.size,args:=#[] }],J,{ target:=.fn (.func gf) lb,args:=#[.func (.yield (w.heap.size+1)) #[] #[]] },J,gf,
  #[.func (.yield (w.heap.size+1)) #[] #[]]++lb,J,?_,?_,?_,?_,fun h=>by simp[Fence.wide]at h,?_⟩
 ·rw[<-O,A];exact run_enterLoop_outer _ _ _ _ _
 ·simp only[resolve,hg]
  simp[go_sem]
 ·intro f' _;trivial
 ·simp[invoke,go_sem,eg]
 ·let CC:Nat->vW->Prop:=fun k W=>C k W/\Blk W (w.heap.size+1) (.loop (z .ready none))/\Blk W w.heap.size (.deferred (some []))
  let CX:Nat->vW->Prop:=fun k W=>∃ c,Cj c k W/\Blk W (w.heap.size+1) (.loop (z .done (some c)))/\Blk W w.heap.size (.deferred (some []))
  have a5:=IS (w.heap.size+1) CC CX (fun k W E ⟨X,h2,H⟩ e=>⟨hC k _ _ X e,h2.keeps e (fun h=>h),H.keeps e (fun h=>h)⟩)
   (fun k W E ⟨c,X,h2,H⟩ e=>⟨c,hCj c k _ _ X e,h2.keeps e (fun h=>h),H.keeps e (fun h=>h)⟩) (fun k W h=>hS k W h.1) J ?_ ⟨hC 0 _ _ h0 a4,a2,a3⟩
  ·refine CallsIn.mono a5 ?_
   rintro e E ⟨⟨v,rfl⟩,a0⟩;rcases a0 with⟨X,H,h4⟩ |⟨k,hk1,hk2,c,X,H,h4⟩
   ·obtain⟨ox,he⟩:∃ ox,(Instr.endLoop (w.heap.size+1)).run P E=.ok none (E.putObj (w.heap.size+1) ox):=⟨_,(run_endLoop (r:=z .ready none) H (by rw[A];simp)).trans (by rw[A])⟩
    exact⟨none,_,he,hdone _ (hup1 N _ _ X) (h4.put_other vO _)⟩
   ·obtain⟨ox,he⟩:∃ ox,(Instr.endLoop (w.heap.size+1)).run P E=.ok (some c) (E.putObj (w.heap.size+1) ox):=⟨_,(run_endLoop (r:=z .done (some c)) H (by rw[A];simp)).trans (by rw[A])⟩
    exact⟨some c,_,he,hstop c k _ hk1 hk2 (hupj c k _ _ X) (h4.put_other vO _)⟩
  ·rintro k W hk ⟨X,H,h4⟩
   refine⟨_,_,_,_,run_yield H (by rw[A];exact hps k),?_⟩
   refine roundIn_of_wpIn trivial ?_;rw[show (z .ready none).tmps=a.tmps from by rw[A],show (z .ready none).params=ps from by rw[A],show (z .ready none).assign=assign from by rw[A],show (z .ready none).body=body from by rw[A]];refine hassign _ k W _ ?_
   refine⟨_,run_beginRound H (by rw[A]),?_⟩
   have a6:C k (W.putObj (w.heap.size+1) (.loop { z .ready none with state:=.busy })):=hup1 k _ _ X;refine Code.wpIn_mono ?_ (hbody (w.heap.size+1) k _ hk a6 (by rw[World.putObj_size];exact H.lt));have a1:∀ (j:Option Code) (E:vW),jaf (fun b=>b≠w.heap.size/\b≠w.heap.size+1) (W.putObj (w.heap.size+1) (.loop { z .ready none with state:=.busy })) E ->
     (Instr.endRound (w.heap.size+1) j).run P E=.ok (.bool j.isNone) (E.putObj (w.heap.size+1) (.loop (z (if j.isNone then .ready else .done) j))) /\
     Blk (E.putObj (w.heap.size+1) (.loop (z (if j.isNone then .ready else .done) j))) (w.heap.size+1) (.loop (z (if j.isNone then .ready else .done) j)) /\
     Blk (E.putObj (w.heap.size+1) (.loop (z (if j.isNone then .ready else .done) j))) w.heap.size (.deferred (some [])):=by
    intro j E Z;have hl:Blk E (w.heap.size+1) (.loop { z .ready none with state:=.busy }):=(H.put_same _).keeps Z (fun h=>h.2 rfl);have hd:Blk E w.heap.size (.deferred (some [])):=(h4.put_other vO _).keeps Z (fun h=>h.1 rfl)
    refine⟨?_,hl.put_same _,hd.put_other vO _⟩
    rw[run_endRound j hl,A]
   intro e a' E hq;cases e with
   | normal =>
    obtain⟨Z,hc⟩:=hq
    obtain⟨f1,f2,f3⟩:=a1 none E Z
    exact⟨_,_,f1,.inl ⟨rfl,hup1 _ _ _ hc,f2,f3⟩⟩
   | ret =>
    obtain⟨Z,hc⟩:=hq
    obtain⟨f1,f2,f3⟩:=a1 (some .ret) E Z
    exact⟨_,_,f1,.inr ⟨rfl,.ret,hupj _ _ _ _ hc,f2,f3⟩⟩
   | exit i =>
    obtain⟨Z,hc⟩:=hq
    obtain⟨f1,f2,f3⟩:=a1 (some (.exit i)) E Z
    exact⟨_,_,f1,.inr ⟨rfl,.exit i,hupj _ _ _ _ hc,f2,f3⟩⟩
   | goto t=>exact hq.elim
   | panic ch=>exact hq.elim
   | outgrown=>exact hq.elim
theorem jeV{P:Program}{T e:TypeId}{n:Nat}(hu:P.underlying T=some (.array n e))(hs:(P.info? e).map (·.size)=some 1)(hag:∀ w,(isAgg e).run P w=.ok false w)(cs:List vV)(k:Nat)(hk:k < n)(x:vV)(hx:cs[k]?=some x)(w:vW) :
  (Instr.index T (.agg cs.toArray) (.int .i64 (k:Int))).run P w=.ok x w:=by
 obtain⟨i,z,A⟩:=fM.1 hs
 have o:(sizeOf e).run P w=.ok 1 w:=by simp[sizeOf,typeInfo,z,A]
 have E:(0:Int)<=(k:Int)/\(k:Int) < (n:Int):=vO
 simp only[Instr.index,asIntOf,bX,cO,Result.andThen,run_underlying hu];rw[if_pos E];simp only[bX,o,Result.andThen];simp[part,bX,hag,Result.andThen,hx,cO]
def jay:Nat->vM->List (Nat × vB)
 | _,[]=>[]
 | i,r :: rs=>if r.size=0 then jay (i+1) rs else (i,r) :: jay (i+1) rs
def jad.refsL(n:jad):List (Nat × vB):=jay 0 n.refs
theorem jdW:∀ (a b:vM) (i:Nat),jay i (a++b)=jay i a++jay (i+a.length) b
 | [],b,i=>by simp[jay]
 | x :: a,b,i=>by
  have h:=jdW a b (i+1);simp only[cZ,jay,bF];rw[h,show i+1+a.length=i+(a.length+1) by omega];split <;> simp
section
attribute [local go_sem] Oper.semAt_some
theorem jbx{F:Fence}{n:Nat}{P:Program}{w:vW}{ops:Array Oper}{rest:List Oper}{o:Oper}{a:Act}{Q:Exit->Act->vW->Prop}(hg:o.guard=none)(t:TypeId)(x:Operand)(ho:o.op=.load t x)(v:vV)(p:Addr)(hx:a.eval x=.pointer (some p))
  (hr:(Instr.loadAt t (.pointer (some p))).run P w=.ok v w) (h:wpListIn F n P ops Q rest (a.put o.dst v) w):wpListIn F n P ops Q (o :: rest) a w:=by
 refine wpListIn_plain hg fun K e=>?_;unfold Oper.wpIn
 refine⟨?_,?_⟩
 ·simp[Oper.about,ho]
 ·rw[Oper.semAt_plain F _ _ (by rw[ho];intro c z;cases z)]
  simp only[execOp,ho,hx,bX,hr,Result.andThen,cO];exact e _ _ h
theorem Tryz.uRefs:Tryz.prog.underlying 92=some (.array 16 9):=vY
theorem Tryz.iRefs:(Tryz.prog.info? 92).map (·.size)=some 16:=vY
def jad.rv(n:jad)(k:Nat):Array vV:=#[.int .i64 (((n.refsL.getD k (0,⟨#[]⟩)).1:Nat):Int),.string (n.refsL.getD k (0,⟨#[]⟩)).2]
def jBa(W:vW)(b:Nat)(n:jad)(C:Nat->vW->Prop)(v:vV)(wr:vW):Prop:=∃ i:Nat,i<=16/\v=.int .i64 i/\C (jay 0 (n.refs.take i)).length wr
theorem ji5(n:jad){i:Nat}{r:vB}(h:n.refs[i]?=some r):jay 0 (n.refs.take (i+1))=jay 0 (n.refs.take i)++(if r.size=0 then []else [(i,r)]):=by
 have e:=(bP.1 h).1;rw[bY,h,Option.toList_some,jdW]
 have:(n.refs.take i).length=i:=by simp;omega
 simp[jay,this]
theorem jyq(n:jad){i:Nat}{r:vB}(h:n.refs[i]?=some r)(hr:r.size≠0):(jay 0 (n.refs.take i)).length < n.refsL.length/\n.refsL.getD (jay 0 (n.refs.take i)).length (0,⟨#[]⟩)=(i,r):=by
 have e:=ji5 n h;rw[if_neg hr]at e;have o:n.refsL=jay 0 (n.refs.take i)++((i,r) :: jay (0+(n.refs.take (i+1)).length) (n.refs.drop (i+1))):=by
  unfold jad.refsL
  conv=>lhs;rw[<-cX (i+1) n.refs]
  rw[jdW,e,cD];rfl
 rw[o];constructor
 ·simp
 ·simp[bG]
theorem Tryz.strOne:(Tryz.prog.info? 9).map (·.size)=some 1:=vY
theorem Tryz.strAgg(w:vW):(isAgg 9).run Tryz.prog w=.ok false w:=vY
theorem jk7(b:Nat)(n:jad)(hr:n.refs.length=16):juw Tryz.prog 145 #[.pointer (some ⟨b,0,none⟩)] n.refsL.length n.rv (fun W=>Blk W b (.cells n.cells.toArray 154)):=by
 intro l C Cx hC O hS W hY h0;have hB:=hS 0 W h0;have Q:W.rangeAt b 3 (n.refs.map Value.string):=fun j v hv=>hB.cellL (by
  unfold jad.cells;rw[show 3+j=j+3 by omega];simpa using hv)
 have X:=run_loadVar_mid (P:=Tryz.prog) W b 3 92 _ _ Q Tryz.uRefs rfl (by simp only[cC,hr];exact Tryz.iRefs);have Z:(Instr.loadAt 92 (.pointer (some ⟨b,3,none⟩))).run Tryz.prog W=.ok (.agg (n.refs.map Value.string).toArray) W:=by
  simp[Instr.loadAt,Instr.sureAddr,bX,Result.andThen,X]
 have HB:=Hd hB;have HY:=Hd hY;have H0:=Hd h0;have HR:=Hd hr;clear hB hY h0 Q X hr;refine callsIn_of_wp Tryz.func145 rfl trivial ?_ rfl;simp only[Tryz.ntmps145,dL,bF,cF,Nat.reduceAdd,Nat.reduceSub,dO,dN,fC,dS,cP,cZ];gi_wp2_with (refine jbx rfl 92 (.tmp 5) rfl _ _ rfl Z ?_)
 have b0:=Hd hC;have b1:=Hd O;have HS:=Hd hS;clear hC O hS Z;gi_loopw [7] (fun v wr=>jBa W b n C v wr) (fun v _=>16 - (intOf v).toNat)
 case atStart=>exact⟨0,by omega,rfl,by simpa [jay]using H0.o⟩
 case round =>
  obtain⟨i,hi,rfl,a3⟩:=hrel
  have H:=Hd a3;clear a3
  by_cases hlt:i < 16
  ·obtain⟨r,A⟩:∃ r,n.refs[i]?=some r:=⟨_,bA (by have:=HR.o;omega)⟩
   have b2:(Instr.index 92 (.agg (n.refs.map Value.string).toArray) (.int .i64 (i:Int))).run Tryz.prog wr=.ok (.string r) wr:=jeV Tryz.uRefs Tryz.strOne Tryz.strAgg _ i hlt _ (by rw[cA,A];rfl) wr;have z:=ji5 n A
   by_cases hr0:r.size=0
   ·have a6:r=⟨#[]⟩:=by
     obtain⟨⟨l⟩⟩:=r
     cases l with
     | nil=>rfl
     | cons x y=>exact absurd hr0 (iH _)
    rw[if_pos hr0,bW]at z;subst a6;have a0:=Hd z;clear z A hr0;gi_wp2
    refine⟨(fun f h=>by cases h),?_⟩
    gi_wp2;go_roundw
    case rel=>exact⟨i+1,by omega,by go_num,by rw[a0.o];exact H.o⟩
    case measure=>exact vJ
   ·have E:=jyq n A hr0
    have b3:=jbe (s:=r) vO;rw[if_neg hr0]at z
    obtain⟨k,hk⟩:=vE (jay 0 (n.refs.take i)).length
    rw[<-hk]at E H;have a4:n.rv k=#[.int .i64 (i:Int),.string r]:=by unfold jad.rv;rw[E.2]
    obtain⟨fn,tm,b4,bd,a7,a5⟩:=HY.o k wr E.1 H.o
    rw[a4]at a7;have J:(jay 0 (n.refs.take (i+1))).length=k+1:=by rw[z,bC, <-hk];rfl
    have a1:=Hd J;have a8:=Hd E;have a9:=Hd a5;clear J E a5 z a4 hk A hr0;gi_wp2
    refine⟨rfl,a9.o.mono ?_⟩
    rintro e w5 (⟨rfl,C5⟩ |⟨rfl,C5⟩)
    ·have K:=Hd C5
     clear C5;gi_wp2;go_roundw
     case rel=>exact⟨i+1,by omega,by go_num,by rw[a1.o];exact K.o⟩
     case measure=>exact vJ
    ·have K:=Hd C5
     clear C5;gi_wp2;refine bodyPost_ret (results_none rfl _ _ _) rfl ?_
     exact⟨⟨_,rfl⟩,.inr ⟨k+1,a8.o.1,by omega,K.o⟩⟩
  ·have a2:i=16:=vO
   subst a2;gi_wp2;refine bodyPost_end (results_none rfl _ _ _) rfl ?_
   refine⟨⟨_,rfl⟩,.inl ?_⟩
   have h:=H.o;rw[bN (by have:=HR.o;omega)]at h;exact h
end
theorem jpE(w:vW)(n:jad):vQ 117 #[n.V] w fun e w'=>e=.returned (.func (.func 145) #[] #[.pointer (some ⟨w.heap.size,0,none⟩)])/\Blk w' w.heap.size (.cells n.cells.toArray 154)/\Ext w w':=by
 unfold jad.V;unfold vQ;go_in;go_wp2_with fail
 go_ret
 exact⟨rfl,Blk.new w _,(ExtR w).alloc _⟩
theorem jqQ(w:vW)(n:jad):vR 123 #[n.V] w (.string (jan ⟨#[]⟩)):=by
 unfold jad.V;unfold vR vQ;go_in;go_wp2_with fail
 refine vH (jea _ ⟨#[]⟩ vI) fun w1 e=>?_;have z:Hid (Ext w w1):=Hd (((ExtR w).alloc _).trans e);go_wp2_with fail
 go_ret
 exact⟨rfl,z.o⟩
section
section mixe
variable {P:Program} {l:List Oper} {E:vW->vW->Prop}
def anyK(P:Program)(ops:Array Oper)(E:vW->vW->Prop)(Q:Act->vW->Prop):Nat->Array Bool->Act->vW->Prop
 | 0,listed,a,w=>∀ w1,E w w1->Region.ready .any ops listed=[]/\Q a w1
 | fuel+1,listed,a,w=>∀ w1,E w w1 ->
  (Region.ready .any ops listed=[]->Q a w1) /\
  ∀ i∈Region.ready .any ops listed,wpOp P ops NoQ i (fun a' w'=>E w1 w'/\anyK P ops E Q fuel (listed.setIfInBounds i true) a' w') a w1
theorem jrw(hT:∀ x y z,E x y->E y z->E x z){ops:Array Oper}{Q:Act->vW->Prop}:∀ (fuel:Nat) (listed:Array Bool) (a:Act) (w w1:vW),anyK P ops E Q fuel listed a w->E w w1->anyK P ops E Q fuel listed a w1
 | 0,_,_,_,_,h,he=>fun e o=>h e (hT _ _ _ he o)
 | _+1,_,_,_,_,h,he=>fun e o=>h e (hT _ _ _ he o)
theorem jju(hE:∀ w,E w w){ops:Array Oper}{Q:Act->vW->Prop}{Q':Exit->Act->vW->Prop}(hQ:∀ a w,Q a w->Q' .normal a w) :
  ∀ (fuel:Nat) (listed:Array Bool) (a:Act) (w:vW),anyK P ops E Q fuel listed a w->wpAny P .any ops Q' fuel listed a w
 | 0,_,_,w,h=>let ⟨h1,h2⟩:=h w (hE w);⟨h1,hQ _ _ h2⟩
 | fuel+1,_,_,w,h=>let ⟨h1,h2⟩:=h w (hE w)
  ⟨fun e=>hQ _ _ (h1 e),fun i o=>jic (fun z w' ⟨_,A⟩=>jju hE hQ fuel _ z w' A) (h2 i o)⟩
theorem jqb(hE:∀ w,E w w)(hT:∀ x y z,E x y->E y z->E x z){ops:Array Oper}{Q:Act->vW->Prop}{i:Nat}{oi:Oper}{v:vV}(hi:ops[i]?=some oi)(hsel:∀ (j:Nat) (o:Oper) cs b,ops[j]?=some o->o.op≠.select cs b) :
  ∀ (J:Nat) (A:Array Bool) (a:Act) (w:vW),
   (∀ j oj,ops[j]?=some oj->j≠i->A.getD j true=false->(∀ e∈oj.after,Region.binds .any e=true->e.on≠i)->oi.apart ops oj=true) ->
   i∈Region.ready .any ops A->jbO P ops E w oi v a ->
   anyK P ops E Q J (A.setIfInBounds i true) (a.put oi.dst v) w->anyK P ops E Q (J+1) A a w:=by
 intro J;induction J with
 | zero =>
  intro A a w _ hr hy H w1 X
  refine⟨fun h=>(by rw[h]at hr;cases hr),fun j hj=>?_⟩
  by_cases hji:j=i
  ·subst hji;exact hy.wpOp hi X hE (fun w' K=>⟨K,jrw hT _ _ _ _ _ H (hT _ _ _ X K)⟩)
  ·have:=ready_mono hj hji
   rw[(H w1 X).1]at this;cases this
 | succ J ih =>
  intro A a w O hr hy H w1 X
  refine⟨fun h=>(by rw[h]at hr;cases hr),fun j hj=>?_⟩
  by_cases hji:j=i
  ·subst hji;exact hy.wpOp hi X hE (fun w' K=>⟨K,jrw hT _ _ _ _ _ H (hT _ _ _ X K)⟩)
  ·have K:=(H w1 X).2 j (ready_mono hj hji)
   obtain⟨a0,oj,a3,a4⟩:=mem_ready.1 hj
   have a5:∀ e∈oj.after,Region.binds .any e=true->e.on≠i:=fun e X hb a7=>by
    have K:=a4 e X hb;have h0:=(mem_ready.1 hr).1;rw[a7]at K;rcases fQ i A.size with h' | h'
    ·simp[h']at h0 K;rw[h0]at K;cases K
    ·simp[gN h']at K
   have h2:=jfu (v:=v) (Y:=fun a'=>execOp a'.eval oi=execOp a.eval oi/\Region.wanted oi (yielded ops a'.tmps)=Region.wanted oi (yielded ops a.tmps)) a3 (O j oj a3 hji a0 a5) (fun cs b=>hsel i oi cs b hi) (fun cs b=>hsel j oj cs b a3)
    (fun a1 a2 h e1 e2=>⟨e1.trans h.1,e2.trans h.2⟩) ⟨rfl,rfl⟩ K
   have Z:∀ k ok,ops[k]?=some ok->k≠i->(A.setIfInBounds j true).getD k true=false ->
     (∀ e∈ok.after,Region.binds .any e=true->e.on≠i)->oi.apart ops ok=true:=fun k ok hk a8 a6 a9=>by
    refine O k ok hk a8 ?_ a9
    by_cases hjk:j=k
    ·subst hjk;exact a0
    ·rw[getD_set_ne true hjk]at a6;exact a6
   refine wpOp_mono (fun a' w' h3=>⟨h3.2.1,?_⟩) h2
   obtain⟨⟨e1,e2⟩,h4,h5⟩:=h3
   have b0:jbO P ops E w' oi v a':=(hy.of_same e1 e2).st hT (hT _ _ _ X h4);refine ih (A.setIfInBounds j true) a' w' Z (ready_mono hr (Ne.symm hji)) b0 ?_;rw[gV _ _ hji];exact h5
def MixK(P:Program)(l:List Oper)(E:vW->vW->Prop)(Q:Act->vW->Prop):List Nat->List Nat->Act->vW->Prop
 | [],done,a,w=>∀ w1,E w w1->Region.ready .any l.toArray (jbj l done)=[]/\Q a w1
 | k :: ord,done,a,w =>
  (k∈Region.ready .any l.toArray (jbj l done)/\Region.free .any l.toArray (jbj l done) k=true/\∃ o v,l[k]?=some o/\jbO P l.toArray E w o v a/\MixK P l E Q ord (k :: done) (a.put o.dst v) w) \/
  (Region.ready .any l.toArray (jbj l done)=[k]/\∀ w1,E w w1->wpOp P l.toArray NoQ k (fun a' w'=>E w1 w'/\MixK P l E Q ord (k :: done) a' w') a w1)
theorem jf3(hE:∀ w,E w w)(hT:∀ x y z,E x y->E y z->E x z)(hs:Region.noSelect l.toArray=true){Q:Act->vW->Prop}:∀ (ord:List Nat) (done:List Nat) (a:Act) (w:vW),
  MixK P l E Q ord done a w->anyK P l.toArray E Q ord.length (jbj l done) a w
 | [],_,_,_,h=>h
 | k :: ord,done,a,w,h=>by
  rcases h with⟨hr,hf,o,v,ho,hy,h⟩ |⟨hr,h⟩
  ·have e:l.toArray[k]?=some o:=by simpa using ho
   exact jqb hE hT e (iI hs) ord.length (jbj l done) a w (iU e hf) hr hy (jf3 hE hT hs ord _ _ _ h)
  ·intro w1 K
   refine⟨fun A=>(by rw[hr]at A;cases A),fun i H=>?_⟩
   rw[hr]at H;obtain rfl:i=k:=by simpa using H
   exact wpOp_mono (fun O w' J=>⟨J.1,jf3 hE hT hs ord _ _ _ J.2⟩) (h w1 K)
theorem jag(ord:List Nat)(E:vW->vW->Prop)(hE:∀ w,E w w)(hT:∀ x y z,E x y->E y z->E x z){id:Nat}{Q:Exit->Act->vW->Prop}{a:Act}{w:vW}
  (hm:P.follows .mixedOrders=true) (hs:Region.noSelect l.toArray=true) (hl:ord.length=l.toArray.size)
  (h:MixK P l E (fun a w=>Q .normal a w) ord [] a w.drew):(Code.region id l.toArray true).wp P Q a w:=by
 refine wp_region_any hm ?_;rw[<-hl]
 have:=jf3 hE hT hs ord _ _ _ h
 unfold jbj at this;rw[hl]at this ⊢;exact jju hE (fun _ _ h=>h) _ _ _ _ this
variable {Q:Act->vW->Prop} {ord done:List Nat} {a:Act} {w:vW} {k:Nat} {o:Oper}
def jhR(l:List Oper)(done:List Nat)(k:Nat):Bool:=(Region.ready .any l.toArray (jbj l done)).contains k && Region.free .any l.toArray (jbj l done) k
def jwG(l:List Oper)(done:List Nat)(k:Nat):Bool:=Region.ready .any l.toArray (jbj l done) == [k]
theorem js1(o:Oper)(ho:l[k]?=some o)(hk:jhR l done k=true)(hw:Region.wanted o (yielded l.toArray a.tmps)=true)(hq:jjS o.op=true)
  (h:∀ K:Act->Prop,(∀ a',MixK P l E Q ord (k :: done) a' w->K a')->o.quiet P a (fun _=>True) K):MixK P l E Q (k :: ord) done a w:=by
 simp only[jhR,cU,dC]at hk
 obtain⟨v,A,H⟩:=h _ (fun _ h=>h)
 have z:jbO P l.toArray E w o v a:=by
  refine .inl ⟨hw,fun w1 _=>?_⟩;have e:=A w1 trivial;unfold Oper.quietAt at e;have J:=fun f args w'=>jk2 (ρ:=a.eval) hq P w1 w' f args;generalize (execOp a.eval o).run P w1=r at *;cases r with
  | ok n w'=>cases n <;> simp only[Oper.quietUpon]at e <;> first | exact e | exact absurd rfl (J _ _ _)
  | halt x w'=>simp only[Oper.quietUpon]at e
 exact .inl ⟨hk.1,hk.2,o,v,ho,z,H⟩
theorem jcu(o:Oper)(v:vV)(ho:l[k]?=some o)(hk:jhR l done k=true)(hw:Region.wanted o (yielded l.toArray a.tmps)=true)
  (hv:∀ w1,E w w1->(execOp a.eval o).run P w1=.ok (.value v) w1) (h:MixK P l E Q ord (k :: done) (a.put o.dst v) w):MixK P l E Q (k :: ord) done a w:=by
 simp only[jhR,cU,dC]at hk;exact .inl ⟨hk.1,hk.2,o,v,ho,.inl ⟨hw,fun w1 e=>by rw[hv w1 e];exact⟨rfl,rfl⟩⟩,h⟩
theorem js0(p:Addr)(v:vV){t:TypeId}{x:Operand}{d:Option Tmp}{ty:TypeId}{pos:String}{af:Array Edge}{g:Option (Nat × Bool)}(ho:l[k]?=some ⟨d,.load t x,ty,pos,af,g⟩)(hk:jhR l done k=true)
  (hw:Region.wanted ⟨d,.load t x,ty,pos,af,g⟩ (yielded l.toArray a.tmps)=true) (hx:a.eval x=.pointer (some p))
  (hv:∀ w1,E w w1->(Instr.loadAt t (.pointer (some p))).run P w1=.ok v w1) (h:MixK P l E Q ord (k :: done) (a.put d v) w):MixK P l E Q (k :: ord) done a w:=by
 refine jcu _ v ho hk hw (fun w1 e=>?_) h
 have:=hv w1 e
 simp only[execOp,hx,bX,this,Result.andThen,cO]
theorem qKL{t:TypeId}{x:Operand}{d:Option Tmp}{ty:TypeId}{pos:String}{af:Array Edge}{g:Option (Nat × Bool)}(p:Addr)(v:vV)(ho:l[k]?=some ⟨d,.load t x,ty,pos,af,g⟩)(hv:∀ w1,E w w1->(Instr.loadAt t (.pointer (some p))).run P w1=.ok v w1)(h:MixK P l E Q ord (k :: done) (a.put d v) w)(hk:jhR l done k=true:=by kernel_rfl)(hw:Region.wanted ⟨d,.load t x,ty,pos,af,g⟩ (yielded l.toArray a.tmps)=true:=by rfl)(hx:a.eval x=.pointer (some p):=by rfl):MixK P l E Q (k :: ord) done a w:=js0 p v ho hk hw hx hv h
theorem js2(o:Oper)(ho:l[k]?=some o)(hk:jhR l done k=true)(hw:Region.wanted o (yielded l.toArray a.tmps)=false)
  (h:MixK P l E Q ord (k :: done) (a.put o.dst undef) w):MixK P l E Q (k :: ord) done a w:=by
 simp only[jhR,cU,dC]at hk;exact .inl ⟨hk.1,hk.2,o,undef,ho,.inr ⟨hw,rfl⟩,h⟩
theorem qKS(o:Oper)(ho:l[k]?=some o)(h:MixK P l E Q ord (k :: done) (a.put o.dst undef) w)(hk:jhR l done k=true:=by kernel_rfl)(hw:Region.wanted o (yielded l.toArray a.tmps)=false:=by rfl):MixK P l E Q (k :: ord) done a w:=js2 o ho hk hw h
theorem jsZ(o:Oper)(f:FuncId)(args:Array vV)(v:vV)(ho:l[k]?=some o)(hk:jhR l done k=true)(hw:Region.wanted o (yielded l.toArray a.tmps)=true)
  (hv:∀ w1,(execOp a.eval o).run P w1=.ok (.enter f args) w1) (hc:∀ w1,E w w1->Calls P f args w1 (fun e A=>e=.returned v/\E w1 A))
  (h:MixK P l E Q ord (k :: done) (a.put o.dst v) w):MixK P l E Q (k :: ord) done a w:=by
 simp only[jhR,cU,dC]at hk;exact .inl ⟨hk.1,hk.2,o,v,ho,.inl ⟨hw,fun w1 z=>by rw[hv w1];exact⟨rfl,hc w1 z⟩⟩,h⟩
theorem qKC(o:Oper)(f:FuncId)(args:Array vV)(v:vV)(ho:l[k]?=some o)(hv:∀ w1,(execOp a.eval o).run P w1=.ok (.enter f args) w1)(hc:∀ w1,E w w1->Calls P f args w1 (fun e z=>e=.returned v/\E w1 z))(h:MixK P l E Q ord (k :: done) (a.put o.dst v) w)(hk:jhR l done k=true:=by kernel_rfl)(hw:Region.wanted o (yielded l.toArray a.tmps)=true:=by rfl):MixK P l E Q (k :: ord) done a w:=jsZ o f args v ho hk hw hv hc h
theorem jeu(o:Oper)(ho:l[k]?=some o)(hk:jwG l done k=true)(hw:Region.wanted o (yielded l.toArray a.tmps)=true)
  (h:∀ w1,E w w1->∀ K:Act->vW->Prop,(∀ a' w',E w1 w'->MixK P l E Q ord (k :: done) a' w'->K a' w')->o.wp P a w1 K NoQ):MixK P l E Q (k :: ord) done a w:=by
 simp only[jwG,beq_iff_eq]at hk;refine .inr ⟨hk,fun w1 z=>?_⟩;unfold wpOp;have e:l.toArray[k]?=some o:=by simpa using ho
 simp only[e,hw,if_true];exact .inl (h w1 z _ (fun _ _ A H=>⟨A,H⟩))
theorem jvH(hk:(Region.ready .any l.toArray (jbj l done)).isEmpty=true)(h:∀ w1,E w w1->Q a w1):MixK P l E Q [] done a w:=
 fun w1 e=>⟨by simpa using hk,h w1 e⟩
theorem qKE(h:∀ w1,E w w1->Q a w1)(hk:(Region.ready .any l.toArray (jbj l done)).isEmpty=true:=by kernel_rfl):MixK P l E Q [] done a w:=jvH hk h
end mixe
end
