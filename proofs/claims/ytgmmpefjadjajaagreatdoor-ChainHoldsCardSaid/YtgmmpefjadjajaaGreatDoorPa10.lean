/- Lemmas. -/
import Derived.Test.YtgmmpefjadjajaaGreatDoorPa0
import Derived.Test.YtgmmpefjadjajaaGreatDoorPa9
import Derived.Test.YtgmmpefjadjajaaGreatDoorPa8
import Derived.Sort.QuietIn
import Derived.LoopIn
import Derived.LoopNIn
import Derived.OwnWalkIn
namespace Go.Proofs.YtgmmpefjadjajaaGreatDoor
open Go.Proofs.Tryz
set_option linter.unusedSimpArgs false
set_option linter.unusedVariables false
set_option maxRecDepth 100000
set_option maxHeartbeats 16000000
open Go Go.RowKit
variable (p q:Tmp)(w:vW){a:Act}{ps:Array Tmp}{pre lb vals:Array vV}{D F:Bd}{assign body:Code}{Q:Exit->Act->vW->Prop}{rec:LoopState->Option Code->Loop}{N n i:Nat}{g:Operand}{P:Program}{r:vB}{W W':vW}
def DI(leaf odd:Bool):vU:=(if leaf then 2 else 0)+(if odd then 1 else 0)
theorem X6(leaf odd:Bool):YO leaf odd=((DI leaf odd).toNat:Int):=by cases leaf<;>cases odd<;>rfl
def Ms(p:vB):Bool:=p.size % 2 == 1
def Vu(p:vB)(leaf:Bool):vN:=DI leaf (Ms p) ::(if Ms p then []else [0])
def Cl(p:vB)(leaf:Bool):vB:=Jh ⟨(Vu p leaf++p.data.toList).toArray⟩
theorem YL(p:vB)(b:Nat)(hp:w.cell? b=some (.string p)):vQ 242 #[b] w λe w'=>e=.returned (Ms p)/\w=w':=by
 have e:Ms p=decide ((p.size:Int) % 2=1):=by unfold Ms;by_cases h:p.size % 2=1;{have q:(p.size:Int) % 2=1:=vO;simp[h,q]};have q:¬(p.size:Int) % 2=1:=vO;simp only[q,decide_false];simp;omega
 unfold vQ;go_in;go_wp2
 go_ret
 exact⟨by rw[e];rfl,rfl⟩
theorem Km(b:vU):(convert 83 9 (.slice (some w) 1 1)).run prog (w.alloc (.cells #[.int .u8 (b.toNat:Int)] 5))=.ok (.string ⟨#[b]⟩) (w.alloc (.cells #[.int .u8 (b.toNat:Int)] 5)):=by
 refine run_convert_bytes_back (w.alloc (.cells #[.int .u8 (b.toNat:Int)] 5)) _ _ _ w 1 [b] Bh Ck Ag (λj e=>?_);have q:j=0:=by simp at e;omega
 subst q;exact (Ae.new w _).cell vF
theorem YY(p:vB)(leaf:Bool)(hs:p.size<=900000)(hv:Dy p=true):vR 235 #[p,leaf] w (.tuple #[Cl p leaf,true]):=by
 have HV:=J hv;clear hv;unfold vR vQ;go_in;go_wp2_with fail
 refine vC (PG _ p vO) λw1 H=>?_;rw[HV.o]
 obtain⟨g,hg⟩:=vE w.heap.size
 have q1:w1.cell? g=some (.string p):=by rw[H,hg];exact (Ae.new w _).cell vF
 have hE:Af w w1:=by rw[H];exact (Aa w).alloc _
 rw[<-hg];have HE:=J hE;clear hE H hg;go_wp2_with fail
 refine (YL w1 p g q1).mono ?_;rintro e w2 ⟨rfl,rfl⟩
 obtain⟨od,K⟩:∃ o,o=Ms p:=⟨_,rfl⟩
 rw[<-K];have O:=J K;clear K;go_wp2_with fail
 refine (uX w1 leaf od).mono ?_;rintro e w2 ⟨rfl,rfl⟩;rw[X6]
 obtain⟨A,X⟩:∃ f,f=DI leaf od:=⟨_,rfl⟩
 rw[<-X];have a7:=Km w2 A;have a2:=Am q1 ((Aa w2).alloc (.cells #[Value.int .u8 (A.toNat:Int)] 5));have a3:Af w (w2.alloc (.cells #[Value.int .u8 (A.toNat:Int)] 5)):=HE.o.alloc _;have Z:=J a3;have a4:=J X;clear a3 HE X q1;go_wp2_with fail
 clear a7
 obtain⟨w3,a5⟩:∃ x,x=w2.alloc (.cells #[Value.int .u8 (A.toNat:Int)] 5):=⟨_,rfl⟩
 rw[<-a5]at a2 Z ⊢;clear a5;refine (YL w3 p g a2).mono ?_;rintro e w4 ⟨rfl,rfl⟩;rw[<-O.o];cases od with
 |true =>(go_wp2_with fail);(have a0:((⟨#[A]⟩:vB)++p).size<=1000000:=by rw[cO];show 1+p.size<=_;omega);(refine vC (WH _ _ a0) λw5 a1=>?_;have hX:=Z.o.trans a1;have q:Jh ((⟨#[A]⟩:vB)++p)=Cl p leaf:=by unfold Cl Vu;rw[<-O.o, <-a4.o,if_pos rfl];congr 1);(rw[q];go_wp2_with fail);exact bodyPost_ret (v:=.tuple #[Cl p leaf,true]) vY rfl ⟨rfl,hX⟩
 |false =>(go_wp2_with fail);(have a0:((⟨#[A]⟩:vB)++⟨#[0]⟩++p).size<=1000000:=by rw[cO,cO];show 1+1+p.size<=_;omega);(refine vC (WH _ _ a0) λw5 a1=>?_;have hX:=Z.o.trans a1;have q:Jh ((⟨#[A]⟩:vB)++⟨#[0]⟩++p)=Cl p leaf:=by unfold Cl Vu;rw[<-O.o, <-a4.o,if_neg vI];congr 1);(rw[q];go_wp2_with fail);exact bodyPost_ret (v:=.tuple #[Cl p leaf,true]) vY rfl ⟨rfl,hX⟩
structure Ai where
 kind:Nat
 path:vB
 value:vB
 refs:vM
def Ai.cells(n:Ai):List vV:=.int .i64 (n.kind:Int) :: .string n.path :: .string n.value::n.refs.map Value.string
def Ai.V(n:Ai):vV:=.agg n.cells.toArray
def Ai.y2(n:Ai)(least:Nat):Bool:=decide (least<=n.path.size)&&decide (n.path.size<=12)&&Dy n.path
theorem Ai.z3(n:Ai)(h:n.refs.length=16):n.cells.length=19:=by simp[Ai.cells,h]
theorem rR(n:Ai)(hr:n.refs.length=16)(least:Nat)(hs:n.path.size<=1000000):vR 232 #[n.V,.int .i64 least] w (n.y2 least):=by
 obtain⟨k,p,v,A⟩:=n
 have H:(Ai.cells ⟨k,p,v,A⟩).length=19:=Ai.z3 _ hr;simp only at hr hs;have Z:=J H;clear H;unfold Ai.V;have e1:(Ai.cells ⟨k,p,v,A⟩)[1]?=some (.string p):=rfl;have e:∀ b:Bool,b=(Ai.y2 ⟨k,p,v,A⟩ least)->Ending.returned b=Ending.returned (Ai.y2 ⟨k,p,v,A⟩ least):=λb h=>by rw[h]
 by_cases h1:least<=p.size
 ·have K:(least:Int)<=(p.size:Int):=vO;by_cases h2:p.size<=12;{have O:(p.size:Int)<=12:=vO;(unfold vR vQ;go_in;go_wp2_with fail);(refine vC (PG _ p vO) λw1 q=>?_;have X:Hid (Af w w1):=J (by rw[q];exact (Aa w).alloc _);clear q;go_wp2);go_ret;exact⟨e _ (by simp[Ai.y2,h1,h2]),X.o⟩};have O:¬(p.size:Int)<=12:=vO;(unfold vR vQ;go_in;go_wp2);go_ret;exact⟨e false (by simp[Ai.y2,h2]),(Aa w).alloc _⟩
 ·have K:¬(least:Int)<=(p.size:Int):=vO;(unfold vR vQ;go_in;go_wp2);go_ret;exact⟨e false (by simp[Ai.y2,h1]),(Aa w).alloc _⟩
structure Mg(C:Bd->World->Prop):Prop where
 lt:∀ D W,C D W->∀ b,D b->b<W.heap.size
 st:∀ D W W',C D W->W.heap.size<=W'.heap.size->(∀ b,D b->W'.heap[b]?=W.heap[b]?)->C D W'
theorem Mg.Z{C:Bd->vW->Prop}(h:Mg C)(hc:C D W)(k:Ad F W W')(hd:∀ b,D b->¬ F b):C D W':=
 h.st D W W' hc k.size λb hb=>k.block b (h.lt D W hc b hb) (hd b hb)
def jq6(P:Program)(l:Nat)(args:Array vV)(D:Bd)(W:vW)(Ct Cf:Bd->vW->Prop):Prop:=
 YieldAt Fence.wide 0 P l args W λe W'=>∃ D':Bd,Ad D W W'/\(∀ b,D' b->D b\/(W:Nat)<=b) /\
  ((e=.returned true/\Ct D' W')\/(e=.returned false/\Cf D' W'))
def VF(W:vW)(M D O:Bd)(N:Nat)(C Cx SE:Nat->Bd->vW->Prop)(e:Ending)(W':vW):Prop:=
 (∃ v,e=.returned v)/\∃ D' O':Bd,Ad (λb=>D b\/M b) W W'/\(∀ b,D' b->D b\/(W:Nat)<=b)/\(∀ b,O' b->O b\/(W:Nat)<=b)/\(∀ b,D' b->¬ O' b) /\
  ((C N D' W'/\SE N O' W')\/∃ k,k<=N/\0<k/\Cx k D' W'/\SE k O' W')
def OY(ops:Array Oper):Bool:=ops.toList.all λo=>match o.op with | .defer _=>false|_=>true
theorem FG(x y:vV)(t:List vV):(#[p,q].zip #[x,y]).foldl (λt (p,v)=>t.setIfInBounds p v) t.toArray=((t.set p x).set q y).toArray:=by simp
theorem YP(x:vV)(t:List vV):(#[p].zip #[x]).foldl (λt (p,v)=>t.setIfInBounds p v) t.toArray=(t.set p x).toArray:=by simp
structure Mc(rec:LoopState->Option Code->Loop)(g:Nat)(st:LoopState)(pe:Option Code)(W:World):Prop where
 loop:Ae W (g+1) (.loop (rec st pe))
 dfr:Ae W g (.deferred (some []))
theorem Mc.Z{g:Nat}{st:LoopState}{pe:Option Code}(h:Mc rec g st pe W)(k:Ad F W W')(h0:¬ F g)(h1:¬ F (g+1)):Mc rec g st pe W':=⟨h.loop.Z k h1,h.dfr.Z k h0⟩
def tV(a:Act)(ps:Array Tmp)(assign body:Code)(g:Nat)(rec:LoopState->Option Code->Loop):Prop:=∃ fn,rec=λst pe=>⟨st,pe,fn,a.tmps,ps,assign,body,g⟩
def Act.behind(a:Act)(g:Nat):Act:={ a with defers:={ target:=.collected g,args:=#[] }::a.defers }
theorem TV{w:vW}
  {gf:Nat}  (hg:a.eval g=.func (.func gf) pre lb) (eg:∀ args w,(callFunc gf args).run P w=.ok (.enter gf args) w)
  (key:∀ q H,tV a ps assign body w q->Af w H->(H:Nat)=↑w+2->Mc q w .ready none H ->
   CallsIn Fence.wide 0 P gf ((pre++#[.func (.yield ((w:Nat)+1)) #[] #[]])++lb) H λe K=>(∃ v,e=.returned v) /\
    ((Mc q w .ready none K/\∀ o,Ae (K.putObj ((w:Nat)+1) o) w (.deferred (some []))->Q .normal (Act.behind a w) (K.putObj ((w:Nat)+1) o)) \/
     ∃ c,Mc q w .done (some c) K/\∀ o,Ae (K.putObj ((w:Nat)+1) o) w (.deferred (some []))->c.wpIn Fence.wide 0 P Q (Act.behind a w) (K.putObj ((w:Nat)+1) o))) :
  (Code.rangeFunc g ps assign body).wpIn Fence.wide 0 P Q a w:=by
 refine wpIn_rangeFunc ?_;intro Z _;show ∃ l mark w₁ d w₁' f args w₂,(Instr.enterLoop Z a.tmps ps assign body none).run P w=_/\_
 obtain⟨q,A⟩:∃ q:LoopState->Option Code->Loop,q=λst pe=>⟨st,pe,Z,a.tmps,ps,assign,body,↑w⟩:=⟨_,rfl⟩
 obtain⟨H,O⟩:∃ H,(w.alloc (.deferred (some []))).alloc (.loop (q .ready none))=H:=⟨_,rfl⟩
 have a0:Ae H ((w:Nat)+1) (.loop (q .ready none)):=by rw[<-O];have:=Ae.new (w.alloc (.deferred (some []))) (.loop (q .ready none));rwa [bJ]at this
 have a1:Ae H w (.deferred (some [])):=by rw[<-O];exact (Ae.new w _).alloc _
 refine⟨(w:Nat)+1,[{ target:=.collected w,args:=#[] }],H,{ target:=.fn (.func gf) lb,args:=pre++#[.func (.yield ((w:Nat)+1)) #[] #[]] },H,gf,(pre++#[.func (.yield ((w:Nat)+1)) #[] #[]])++lb,H,?_,?_,?_,?_,λh=>by simp[Fence.wide]at h,?_⟩
 ·rw[<-O,A];exact run_enterLoop_outer _ _ _ _ _
 ·simp only[resolve,hg];simp[go_sem]
 ·intro f' _;trivial
 ·simp[invoke,go_sem,eg]
 ·refine CallsIn.mono (key q H ⟨Z,A⟩ (by rw[<-O];exact ((Ad.refl _ w).alloc _).alloc _) (by rw[<-O];simp) ⟨a0,a1⟩) ?_;rintro e K ⟨⟨v,rfl⟩,⟨hb,hq⟩|⟨c,hb,hq⟩⟩;{obtain⟨X,he⟩:∃ X,(Instr.endLoop ((w:Nat)+1)).run P K=.ok none (K.putObj ((w:Nat)+1) X):=⟨_,(run_endLoop (r:=q .ready none) hb.loop (by rw[A];simp)).trans (by rw[A])⟩;exact⟨none,_,he,hq _ (hb.dfr.z5 vO _)⟩};obtain⟨X,he⟩:∃ X,(Instr.endLoop ((w:Nat)+1)).run P K=.ok (some c) (K.putObj ((w:Nat)+1) X):=⟨_,(run_endLoop (r:=q .done (some c)) hb.loop (by rw[A];simp)).trans (by rw[A])⟩;exact⟨some c,_,he,hq _ (hb.dfr.z5 vO _)⟩
def wH:Exit->Option Code->Prop
 |.normal,j=>j=none
 |.ret,j=>j=some .ret
 |.exit i,j=>j=some (.exit i)
 |_,_=>False
def YX(rec:LoopState->Option Code->Loop)(g:Nat)(j:Option Code)(W:vW):vW:=W.putObj (g+1) (.loop (rec (if j.isNone then .ready else .done) j))
theorem TW{g:Nat}(hrec:tV a ps assign body g rec)(hb:Mc rec g .ready none W)(hv:vals.size=ps.size){R:Ending->vW->Prop}
  (ha:assign.wpIn (Fence.wide.inRound (g+1)) 0 P (Exit.then (λK A=>Mc rec g .ready none A/\body.wpIn (Fence.wide.inRound (g+1)) 0 P (λe _ H=>∃ j,wH e j/\Ad (λb=>b≠g/\b≠g+1) (A.putObj (g+1) (.loop (rec .busy none))) H /\
    (Mc rec g (if j.isNone then .ready else .done) j (YX rec g j H)->R (.returned j.isNone) (YX rec g j H))) K (A.putObj (g+1) (.loop (rec .busy none)))) λ_ _ _=>False) { tmps:=(ps.zip vals).foldl (λt (p,v)=>t.setIfInBounds p v) a.tmps,defers:=[] } W) :
  YieldAt Fence.wide 0 P (g+1) vals W R:=by
 obtain⟨fn,rfl⟩:=hrec
 refine⟨_,_,_,_,run_yield hb.loop hv,?_⟩
 refine roundIn_of_wpIn trivial (Code.wpIn_mono ?_ ha);intro e K A h;cases e with
 |normal =>(obtain⟨q,h⟩:=h;refine⟨_,run_beginRound q.loop rfl,Code.wpIn_mono ?_ h⟩;rintro e a' H ⟨j,O,X,hR⟩;have Z:=(q.loop.put_same _).Z X (λh=>h.2 rfl);have hd:=(q.dfr.z5 vO _).Z X (λh=>h.1 rfl);have hr:=hR ⟨Z.put_same _,hd.z5 vO _⟩;have he:=run_endRound (P:=P) j Z;cases e<;>first|exact O.elim|(obtain rfl:=O;exact⟨_,_,he,hr⟩))
 |_=>exact h
def St(C:vW->Prop):Prop:=∀ W W',C W->Af W W'->C W'
def XB(P:Program)(l:Nat)(args:Array vV)(W:vW)(Ct Cf:vW->Prop):Prop:=
 YieldAt Fence.wide 0 P l args W λe W'=>(e=.returned true/\Ct W')\/(e=.returned false/\Cf W')
def jq2(N:Nat)(C Cx:Nat->vW->Prop)(e:Ending)(W':vW):Prop:=(∃ v,e=.returned v)/\(C N W'\/∃ k,k<=N/\0<k/\Cx k W')
def LW(P:Program)(gf:FuncId)(lb:Array vV)(N:Nat)(vals:Nat->Array vV)(S:vW->Prop):Prop:=
 ∀ (l:Nat) (C:Nat->vW->Prop) (Cx:Nat->vW->Prop),(∀ k,St (C k))->(∀ k,St (Cx k))->(∀ k W,C k W->S W) ->
  ∀ W,(∀ k W',k<N->C k W'->XB P l (vals k) W' (C (k+1)) (Cx (k+1)))->C 0 W ->
   CallsIn Fence.wide 0 P gf (#[.func (.yield l) #[] #[]]++lb) W (jq2 N C Cx)
def Z0(g:Nat)(W:vW)(Ct:vW->Prop)(Cj:Code->vW->Prop):Exit->Act->vW->Prop
 |.normal,_,W'=>Ad (λb=>b≠g/\b≠g+1) W W'/\Ct W'
 |.ret,_,W'=>Ad (λb=>b≠g/\b≠g+1) W W'/\Cj .ret W'
 |.exit i,_,W'=>Ad (λb=>b≠g/\b≠g+1) W W'/\Cj (.exit i) W'
 |_,_,_=>False
theorem EL{w:vW}
  {gf:Nat}  (hg:a.eval g=.func (.func gf) #[] lb) (eg:∀ args w,(callFunc gf args).run P w=.ok (.enter gf args) w)
   {vals:Nat->Array vV} {S:vW->Prop} (IS:LW P gf lb N vals S)
  (hps:∀ k,(vals k).size=ps.size)
  (C:Nat->vW->Prop) (Cj:Code->Nat->vW->Prop) (hC:∀ k,St (C k)) (hCj:∀ c k,St (Cj c k)) (hS:∀ k W,C k W->S W)
  (hup1:∀ k W o,C k W->C k (W.putObj ((w:Nat)+1) o)) (hupj:∀ c k W o,Cj c k W->Cj c k (W.putObj ((w:Nat)+1) o))
  (h0:C 0 w) (a₁:Nat->Act)
  (hassign:∀ (l k:Nat) (W:vW) (K:Act->vW->Prop),k<N->K (a₁ k) W ->
   assign.wpIn (Fence.wide.inRound l) 0 P (Exit.then K λ_ _ _=>False) { tmps:=(ps.zip (vals k)).foldl (λt (p,v)=>t.setIfInBounds p v) a.tmps,defers:=[] } W)
  (hbody:∀ (l k:Nat) (W:vW),k<N->C k W->(w:Nat)+1 < ↑W->body.wpIn (Fence.wide.inRound l) 0 P (Z0 w W (C (k+1)) λc=>Cj c (k+1)) (a₁ k) W)
  (hdone:∀ (W:vW),C N W->Ae W w (.deferred (some []))->Q .normal { a with defers:={ target:=.collected w,args:=#[] }::a.defers } W)
  (hstop:∀ (c:Code) (k:Nat) (W:vW),k<=N->0<k->Cj c k W->Ae W w (.deferred (some [])) ->
   c.wpIn Fence.wide 0 P Q { a with defers:={ target:=.collected w,args:=#[] }::a.defers } W) :
  (Code.rangeFunc g ps assign body).wpIn Fence.wide 0 P Q a w:=by
 refine TV hg eg λO W1 X Z _ a0=>?_;refine CallsIn.mono (IS ((w:Nat)+1) (λk W=>C k W/\Mc O w .ready none W) (λk W=>∃ c,Cj c k W/\Mc O w .done (some c) W) (λk W W' ⟨A,q⟩ e=>⟨hC k _ _ A e,q.Z e kI kI⟩) (λk W W' ⟨c,A,q⟩ e=>⟨c,hCj c k _ _ A e,q.Z e kI kI⟩) (λk W h=>hS k W h.1) W1 ?_ ⟨hC 0 _ _ h0 Z,a0⟩) ?_
 ·rintro k W hk ⟨A,q⟩;refine TW X q (hps k) (hassign _ k W _ hk ⟨q,Code.wpIn_mono ?_ (hbody _ k _ hk (hup1 k _ _ A) (by rw[World.putObj_size];exact q.loop.lt))⟩);intro e a' W' H;cases e with| normal=>exact⟨none,rfl,H.1,λhb=>.inl ⟨rfl,hup1 _ _ _ H.2,hb⟩⟩| ret=>exact⟨some .ret,rfl,H.1,λhb=>.inr ⟨rfl,.ret,hupj _ _ _ _ H.2,hb⟩⟩| exit i=>exact⟨some (.exit i),rfl,H.1,λhb=>.inr ⟨rfl,.exit i,hupj _ _ _ _ H.2,hb⟩⟩| _=>exact H.elim
 ·rintro e W' ⟨hv,⟨A,q⟩|⟨k,a1,a2,c,A,q⟩⟩;{exact⟨hv,.inl ⟨q,λo hd=>hdone _ (hup1 N _ _ A) hd⟩⟩};exact⟨hv,.inr ⟨c,q,λo hd=>hstop c k _ a1 a2 (hupj c k _ _ A) hd⟩⟩
theorem MO{T e:TypeId}(hu:P.underlying T=some (.array n e))(hs:(P.info? e).map (·.size)=some 1)(hag:∀ w,(isAgg e).run P w=.ok false w)(cs:List vV)(k:Nat)(hk:k<n)(x:vV)(hx:cs[k]?=some x)(w:vW):(Instr.index T (.agg cs.toArray) (k:Int)).run P w=.ok x w:=by
 obtain⟨i,A,H⟩:=dH.1 hs
 have q:(sizeOf e).run P w=.ok 1 w:=by simp[sizeOf,typeInfo,A,H]
 have K:(0:Int)<=(k:Int)/\(k:Int)<(n:Int):=vO
 simp only[Instr.index,asIntOf,bS,cT,Result.andThen,run_underlying hu];rw[if_pos K];simp only[bS,q,Result.andThen];simp[part,bS,hag,Result.andThen,hx,cT]
def Gy:Nat->vM->List (Nat × vB)
 |_,[]=>[]
 |i,r::rs=>if r.size=0 then Gy (i+1) rs else (i,r)::Gy (i+1) rs
def Ai.z8(n:Ai):List (Nat × vB):=Gy 0 n.refs
theorem RY:∀ (a b:vM) (i:Nat),Gy i (a++b)=Gy i a++Gy (i+a.length) b
 |[],b,i=>by simp[Gy]
 |x::a,b,i=>by
  have h:=RY a b (i+1);simp only[cS,Gy,bQ];rw[h,show i+1+a.length=i+(a.length+1) by omega];split<;>simp
section
attribute [local go_sem] Oper.semAt_some
theorem BC{F:Fence}{w:vW}{ops:Array Oper}{rest:List Oper}{o:Oper}(hg:o.guard=none)(t:TypeId)(x:Operand)(ho:o.op=.load t x)(v:vV)(p:Addr)(hx:a.eval x=.pointer (some p))
  (hr:(Instr.loadAt t p).run P w=.ok v w) (h:wpListIn F n P ops Q rest (a.put o.dst v) w):wpListIn F n P ops Q (o::rest) a w:=by
 refine wpListIn_plain hg λK e=>?_;unfold Oper.wpIn
 refine⟨?_,?_⟩
 ·simp[Oper.about,ho]
 ·rw[Oper.semAt_plain F _ _ (by rw[ho];intro c q;cases q)];simp only[execOp,ho,hx,bS,hr,Result.andThen,cT];exact e _ _ h
theorem Fm:prog.underlying 213=some (.array 16 9):=vY
theorem Ks:(prog.info? 213).map (·.size)=some 16:=vY
def Ai.rv(n:Ai)(k:Nat):Array vV:=#[(((n.z8.getD k (0,⟨#[]⟩)).1:Nat):Int),.string (n.z8.getD k (0,⟨#[]⟩)).2]
def yG(W:vW)(b:Nat)(n:Ai)(C:Nat->vW->Prop)(v:vV)(wr:vW):Prop:=∃ i:Nat,i<=16/\v=.int .i64 i/\C (Gy 0 (n.refs.take i)).length wr
theorem lA(n:Ai)(h:n.refs[i]?=some r):Gy 0 (n.refs.take (i+1))=Gy 0 (n.refs.take i)++(if r.size=0 then []else [(i,r)]):=by
 have e:=(bI.1 h).1;rw[cB,h,Option.toList_some,RY]
 have:(n.refs.take i).length=i:=by simp;omega
 simp[Gy,this]
theorem T1(n:Ai)(h:n.refs[i]?=some r)(hr:r.size≠0):(Gy 0 (n.refs.take i)).length<n.z8.length/\n.z8.getD (Gy 0 (n.refs.take i)).length (0,⟨#[]⟩)=(i,r):=by
 have e:=lA n h;rw[if_neg hr]at e;have q:n.z8=Gy 0 (n.refs.take i)++((i,r)::Gy (0+(n.refs.take (i+1)).length) (n.refs.drop (i+1))):=by unfold Ai.z8;(conv=>lhs;rw[<-cX (i+1) n.refs]);rw[RY,e,bZ];rfl
 rw[q];constructor
 ·simp
 ·simp[bL]
theorem Jn:(prog.info? 9).map (·.size)=some 1:=vY
theorem Jm:(isAgg 9).run prog w=.ok false w:=vY
theorem OU(b:Nat)(n:Ai)(hr:n.refs.length=16):LW prog 210 #[b] n.z8.length n.rv (λW=>Ae W b (.cells n.cells.toArray 301)):=by
 intro l C Cx hC a2 hS W hY h0;have hB:=hS 0 W h0;have a3:W.rangeAt b 3 (n.refs.map Value.string):=λj v hv=>hB.z1 (by unfold Ai.cells;rw[show 3+j=j+3 by omega];simpa using hv)
 have a4:=run_loadVar_mid (P:=prog) W b 3 213 _ _ a3 Fm rfl (by simp only[bT,hr];exact Ks);have a5:(Instr.loadAt 213 (.pointer (some ⟨b,3,none⟩))).run prog W=.ok (.agg (n.refs.map Value.string).toArray) W:=by simp[Instr.loadAt,Instr.sureAddr,bS,Result.andThen,a4]
 have HB:=J hB;have HY:=J hY;have H0:=J h0;have HR:=J hr;refine callsIn_of_wp func210 rfl trivial ?_ rfl;simp only[ntmps210,cQ,bQ,cZ,Nat.reduceAdd,Nat.reduceSub,cV,cU,dC,cY,cL,cS];gi_wp2_with (refine BC rfl 213 (.tmp 5) rfl _ _ rfl a5 ?_)
 have b4:=J hC;have b5:=J a2;have HS:=J hS;gi_loopw [7] (λv wr=>yG W b n C v wr) (λv _=>16-(intOf v).toNat)
 case atStart=>exact⟨0,by omega,rfl,by simpa [Gy]using H0.o⟩
 case round =>obtain⟨i,hi,rfl,a7⟩:=hrel;have q:=J a7;by_cases hlt:i<16;{obtain⟨r,K⟩:∃ r,n.refs[i]?=some r:=⟨_,bB (kL HR.o)⟩;have b6:(Instr.index 213 (.agg (n.refs.map Value.string).toArray) (i:Int)).run prog wr=.ok (.string r) wr:=MO Fm Jn Jm _ i hlt _ (by rw[bY,K];rfl) wr;have A:=lA n K;by_cases hr0:r.size=0;{(have a8:r=⟨#[]⟩:=by obtain⟨⟨l⟩⟩:=r;cases l with| nil=>rfl| cons x y=>exact absurd hr0 (iM _));rw[if_pos hr0,cC]at A;subst a8;have X:=J A;gi_wp2;refine⟨(λf h=>by cases h),?_⟩;gi_wp2;go_roundw;(case rel=>exact⟨i+1,by omega,by go_num,by rw[X.o];exact q.o⟩);case measure=>exact vJ};have H:=T1 n K hr0;have b7:=Sf (s:=r) vO;rw[if_neg hr0]at A;obtain⟨k,hk⟩:=vE (Gy 0 (n.refs.take i)).length;(rw[<-hk]at H q;have a9:n.rv k=#[.int .i64 (i:Int),.string r]:=by unfold Ai.rv;rw[H.2]);obtain⟨fn,tm,b8,bd,b0,b1⟩:=HY.o k wr H.1 q.o;(rw[a9]at b0;have Z:(Gy 0 (n.refs.take (i+1))).length=k+1:=by rw[A,bK, <-hk];rfl);have a0:=J Z;have b2:=J H;have b3:=J b1;gi_wp2;refine⟨rfl,b3.o.mono ?_⟩;rintro e w5 (⟨rfl,C5⟩|⟨rfl,C5⟩);{have O:=J C5;gi_wp2;go_roundw;(case rel=>exact⟨i+1,by omega,by go_num,by rw[a0.o];exact O.o⟩);case measure=>exact vJ};have O:=J C5;gi_wp2;refine bodyPost_ret (results_none rfl _ _ _) rfl ?_;exact⟨⟨_,rfl⟩,.inr ⟨k+1,b2.o.1,by omega,O.o⟩⟩};have a1:i=16:=vO;subst a1;gi_wp2;refine bodyPost_end (results_none rfl _ _ _) rfl ?_;refine⟨⟨_,rfl⟩,.inl ?_⟩;have h:=q.o;rw[cG (kL HR.o)]at h;exact h
end
theorem PW(n:Ai):vQ 162 #[n.V] w λe w'=>e=.returned (.func (.func 210) #[] #[w])/\Ae w' w (.cells n.cells.toArray 301)/\Af w w':=by
 unfold Ai.V;unfold vQ;go_in;go_wp2
 go_ret
 exact⟨rfl,Ae.new w _,(Aa w).alloc _⟩
theorem k3(n:Ai):vR 206 #[n.V] w (Av ⟨#[]⟩):=by
 unfold Ai.V;unfold vR vQ;go_in;go_wp2_with fail
 refine vC (Rt _ () vI) λw1 e=>?_;have q:Hid (Af w w1):=J (((Aa w).alloc _).trans e);go_wp2
 go_ret
 exact⟨rfl,q.o⟩
section
section mixe
variable {P:Program} {l:List Oper} {E:vW->vW->Prop}
def Ur(P:Program)(ops:Array Oper)(E:vW->vW->Prop)(Q:Act->vW->Prop):Nat->Array Bool->Act->vW->Prop
 |0,listed,a,w=>∀ w1,E w w1->Region.ready .any ops listed=[]/\Q a w1
 |fuel+1,listed,a,w=>∀ w1,E w w1 ->
  (Region.ready .any ops listed=[]->Q a w1) /\
  ∀ i∈Region.ready .any ops listed,wpOp P ops Mv i (λa' w'=>E w1 w'/\Ur P ops E Q fuel (listed.setIfInBounds i true) a' w') a w1
theorem pV(hT:∀ x y z,E x y->E y z->E x z){ops:Array Oper}{Q:Act->vW->Prop}:∀ (fuel:Nat) (listed:Array Bool) (a:Act) (w w1:vW),Ur P ops E Q fuel listed a w->E w w1->Ur P ops E Q fuel listed a w1
 |0,_,_,_,_,h,he=>λe q=>h e (hT _ _ _ he q)
 |_+1,_,_,_,_,h,he=>λe q=>h e (hT _ _ _ he q)
theorem eS(hE:∀ w,E w w){ops:Array Oper}{Q:Act->vW->Prop}{Q':Exit->Act->vW->Prop}(hQ:∀ a w,Q a w->Q' .normal a w):∀ (fuel:Nat) (listed:Array Bool) (a:Act) (w:vW),Ur P ops E Q fuel listed a w->wpAny P .any ops Q' fuel listed a w
 |0,_,_,w,h=>let ⟨h1,h2⟩:=h w (hE w);⟨h1,hQ _ _ h2⟩
 |fuel+1,_,_,w,h=>let ⟨h1,h2⟩:=h w (hE w)
  ⟨λe=>hQ _ _ (h1 e),λi q=>OS (λA w' ⟨_,H⟩=>eS hE hQ fuel _ A w' H) (h2 i q)⟩
theorem d3(hE:∀ w,E w w)(hT:∀ x y z,E x y->E y z->E x z){ops:Array Oper}{Q:Act->vW->Prop}{i:Nat}{oi:Oper}{v:vV}(hi:ops[i]?=some oi)(hsel:∀ (j:Nat) (o:Oper) cs b,ops[j]?=some o->o.op≠.select cs b):∀ (A:Nat) (q:Array Bool) (a:Act) (w:vW),
   (∀ j oj,ops[j]?=some oj->j≠i->q.getD j true=false->(∀ e∈oj.after,Region.binds .any e=true->e.on≠i)->oi.apart ops oj=true) ->
   i∈Region.ready .any ops q->Qc P ops E w oi v a ->
   Ur P ops E Q A (q.setIfInBounds i true) (a.put oi.dst v) w->Ur P ops E Q (A+1) q a w:=by
 intro A;induction A with
 |zero =>intro q a w _ hr hy H w1 X;refine⟨λh=>(by rw[h]at hr;cases hr),λj hj=>?_⟩;by_cases hji:j=i;{subst hji;exact hy.wpOp hi X hE (λw' K=>⟨K,pV hT _ _ _ _ _ H (hT _ _ _ X K)⟩)};have:=ready_mono hj hji;rw[(H w1 X).1]at this;cases this
 |succ A ih =>intro q a w O hr hy H w1 X;refine⟨λh=>(by rw[h]at hr;cases hr),λj hj=>?_⟩;by_cases hji:j=i;{subst hji;exact hy.wpOp hi X hE (λw' K=>⟨K,pV hT _ _ _ _ _ H (hT _ _ _ X K)⟩)};have K:=(H w1 X).2 j (ready_mono hj hji);obtain⟨a0,oj,a3,a4⟩:=mem_ready.1 hj;(have a5:∀ e∈oj.after,Region.binds .any e=true->e.on≠i:=λe X hb a8=>by have K:=a4 e X hb;have h0:=(mem_ready.1 hr).1;rw[a8]at K;rcases fH i q.size with h'|h';{simp[h']at h0 K;rw[h0]at K;cases K};simp[gL h']at K);have h2:=KB (v:=v) (Y:=λa'=>execOp a'.eval oi=execOp a.eval oi/\Region.wanted oi (yielded ops a'.tmps)=Region.wanted oi (yielded ops a.tmps)) a3 (O j oj a3 hji a0 a5) (λcs b=>hsel i oi cs b hi) (λcs b=>hsel j oj cs b a3) (λa1 a2 h e1 e2=>⟨e1.trans h.1,e2.trans h.2⟩) ⟨rfl,rfl⟩ K;(have Z:∀ k ok,ops[k]?=some ok->k≠i->(q.setIfInBounds j true).getD k true=false ->(∀ e∈ok.after,Region.binds .any e=true->e.on≠i)->oi.apart ops ok=true:=λk ok hk a9 a7 b0=>by refine O k ok hk a9 ?_ b0;by_cases hjk:j=k;{subst hjk;exact a0};rw[getD_set_ne true hjk]at a7;exact a7);refine wpOp_mono (λa' w' h3=>⟨h3.2.1,?_⟩) h2;obtain⟨⟨e1,e2⟩,h4,h5⟩:=h3;have b1:Qc P ops E w' oi v a':=(hy.of_same e1 e2).st hT (hT _ _ _ X h4);refine ih (q.setIfInBounds j true) a' w' Z (ready_mono hr (Ne.symm hji)) b1 ?_;rw[iA _ _ hji];exact h5
def Fr(P:Program)(l:List Oper)(E:vW->vW->Prop)(Q:Act->vW->Prop):List Nat->List Nat->Act->vW->Prop
 |[],done,a,w=>∀ w1,E w w1->Region.ready .any l.toArray (Ec l done)=[]/\Q a w1
 |k::ord,done,a,w =>
  (k∈Region.ready .any l.toArray (Ec l done)/\Region.free .any l.toArray (Ec l done) k=true/\∃ o v,l[k]?=some o/\Qc P l.toArray E w o v a/\Fr P l E Q ord (k::done) (a.put o.dst v) w) \/
  (Region.ready .any l.toArray (Ec l done)=[k]/\∀ w1,E w w1->wpOp P l.toArray Mv k (λa' w'=>E w1 w'/\Fr P l E Q ord (k::done) a' w') a w1)
theorem SS(hE:∀ w,E w w)(hT:∀ x y z,E x y->E y z->E x z)(hs:Region.noSelect l.toArray=true){Q:Act->vW->Prop}:∀ (ord:List Nat) (done:List Nat) (a:Act) (w:vW),
  Fr P l E Q ord done a w->Ur P l.toArray E Q ord.length (Ec l done) a w
 |[],_,_,_,h=>h
 |k::ord,done,a,w,h=>by
  rcases h with⟨hr,hf,o,v,ho,hy,h⟩|⟨hr,h⟩
  ·have e:l.toArray[k]?=some o:=by simpa using ho
   exact d3 hE hT e (gQ hs) ord.length (Ec l done) a w (iL e hf) hr hy (SS hE hT hs ord _ _ _ h)
  ·intro w1 K
   refine⟨λq=>(by rw[hr]at q;cases q),λi A=>?_⟩
   rw[hr]at A;obtain rfl:i=k:=by simpa using A
   exact wpOp_mono (λO w' H=>⟨H.1,SS hE hT hs ord _ _ _ H.2⟩) (h w1 K)
theorem Hs(ord:List Nat)(E:vW->vW->Prop)(hE:∀ w,E w w)(hT:∀ x y z,E x y->E y z->E x z){id:Nat}{Q:Exit->Act->vW->Prop}{a:Act}{w:vW}
  (hm:P.follows .mixedOrders=true) (hs:Region.noSelect l.toArray=true) (hl:ord.length=l.toArray.size)
  (h:Fr P l E (λa w=>Q .normal a w) ord [] a w.drew):(Code.region id l.toArray true).wp P Q a w:=by
 refine wp_region_any hm ?_;rw[<-hl]
 have:=SS hE hT hs ord _ _ _ h
 unfold Ec at this;rw[hl]at this ⊢;exact eS hE (λ_ _ h=>h) _ _ _ _ this
variable {Q:Act->vW->Prop} {ord done:List Nat} {a:Act} {w:vW} {k:Nat} {o:Oper}
def Xd(l:List Oper)(done:List Nat)(k:Nat):Bool:=(Region.ready .any l.toArray (Ec l done)).contains k&&Region.free .any l.toArray (Ec l done) k
def sG(l:List Oper)(done:List Nat)(k:Nat):Bool:=Region.ready .any l.toArray (Ec l done) == [k]
theorem y4(o:Oper)(ho:l[k]?=some o)(hk:Xd l done k=true)(hw:Region.wanted o (yielded l.toArray a.tmps)=true)(hq:EV o.op=true)
  (h:∀ K:Act->Prop,(∀ a',Fr P l E Q ord (k::done) a' w->K a')->o.quiet P a (λ_=>True) K):Fr P l E Q (k::ord) done a w:=by
 simp only[Xd,cI,cM]at hk
 obtain⟨v,A,H⟩:=h _ (λ_ h=>h)
 have q:Qc P l.toArray E w o v a:=by refine .inl ⟨hw,λw1 _=>?_⟩;have e:=A w1 trivial;unfold Oper.quietAt at e;have O:=λf args w'=>LC (ρ:=a.eval) hq P w1 w' f args;generalize (execOp a.eval o).run P w1=r at *;cases r with| ok n w'=>(cases n<;>simp only[Oper.quietUpon]at e<;>first|exact e|exact absurd rfl (O _ _ _))| halt x w'=>simp only[Oper.quietUpon]at e
 exact .inl ⟨hk.1,hk.2,o,v,ho,q,H⟩
theorem mL(o:Oper)(v:vV)(ho:l[k]?=some o)(hk:Xd l done k=true)(hw:Region.wanted o (yielded l.toArray a.tmps)=true)
  (hv:∀ w1,E w w1->(execOp a.eval o).run P w1=.ok (.value v) w1) (h:Fr P l E Q ord (k::done) (a.put o.dst v) w):Fr P l E Q (k::ord) done a w:=by
 simp only[Xd,cI,cM]at hk;exact .inl ⟨hk.1,hk.2,o,v,ho,.inl ⟨hw,λw1 e=>by rw[hv w1 e];exact⟨rfl,rfl⟩⟩,h⟩
theorem Jf(o:Oper)(v:vV)(ho:l[k]?=some o)(hv:∀ w1,E w w1->(execOp a.eval o).run P w1=.ok (.value v) w1)(h:Fr P l E Q ord (k::done) (a.put o.dst v) w)(hk:Xd l done k=true:=by kernel_rfl)(hw:Region.wanted o (yielded l.toArray a.tmps)=true:=by rfl):Fr P l E Q (k::ord) done a w:=mL o v ho hk hw hv h
theorem y3(p:Addr)(v:vV){t:TypeId}{x:Operand}{d:Option Tmp}{ty:TypeId}{pos:String}{af:Array Edge}{g:Option (Nat × Bool)}(ho:l[k]?=some ⟨d,.load t x,ty,pos,af,g⟩)(hk:Xd l done k=true)
  (hw:Region.wanted ⟨d,.load t x,ty,pos,af,g⟩ (yielded l.toArray a.tmps)=true) (hx:a.eval x=.pointer (some p))
  (hv:∀ w1,E w w1->(Instr.loadAt t p).run P w1=.ok v w1) (h:Fr P l E Q ord (k::done) (a.put d v) w):Fr P l E Q (k::ord) done a w:=by
 refine mL _ v ho hk hw (λw1 e=>?_) h
 have:=hv w1 e
 simp only[execOp,hx,bS,this,Result.andThen,cT]
theorem Db{t:TypeId}{x:Operand}{d:Option Tmp}{ty:TypeId}{pos:String}{af:Array Edge}{g:Option (Nat × Bool)}(p:Addr)(v:vV)(ho:l[k]?=some ⟨d,.load t x,ty,pos,af,g⟩)(hv:∀ w1,E w w1->(Instr.loadAt t p).run P w1=.ok v w1)(h:Fr P l E Q ord (k::done) (a.put d v) w)(hk:Xd l done k=true:=by kernel_rfl)(hw:Region.wanted ⟨d,.load t x,ty,pos,af,g⟩ (yielded l.toArray a.tmps)=true:=by rfl)(hx:a.eval x=.pointer (some p):=by rfl):Fr P l E Q (k::ord) done a w:=y3 p v ho hk hw hx hv h
theorem y5(o:Oper)(ho:l[k]?=some o)(hk:Xd l done k=true)(hw:Region.wanted o (yielded l.toArray a.tmps)=false)
  (h:Fr P l E Q ord (k::done) (a.put o.dst undef) w):Fr P l E Q (k::ord) done a w:=by
 simp only[Xd,cI,cM]at hk;exact .inl ⟨hk.1,hk.2,o,undef,ho,.inr ⟨hw,rfl⟩,h⟩
theorem Xh(o:Oper)(ho:l[k]?=some o)(h:Fr P l E Q ord (k::done) (a.put o.dst undef) w)(hk:Xd l done k=true:=by kernel_rfl)(hw:Region.wanted o (yielded l.toArray a.tmps)=false:=by rfl):Fr P l E Q (k::ord) done a w:=y5 o ho hk hw h
theorem y2(o:Oper)(f:FuncId)(args:Array vV)(v:vV)(ho:l[k]?=some o)(hk:Xd l done k=true)(hw:Region.wanted o (yielded l.toArray a.tmps)=true)
  (hv:∀ w1,(execOp a.eval o).run P w1=.ok (.enter f args) w1) (hc:∀ w1,E w w1->Calls P f args w1 λe A=>e=.returned v/\E w1 A)
  (h:Fr P l E Q ord (k::done) (a.put o.dst v) w):Fr P l E Q (k::ord) done a w:=by
 simp only[Xd,cI,cM]at hk;exact .inl ⟨hk.1,hk.2,o,v,ho,.inl ⟨hw,λw1 q=>by rw[hv w1];exact⟨rfl,hc w1 q⟩⟩,h⟩
theorem Ma(o:Oper)(f:FuncId)(args:Array vV)(v:vV)(ho:l[k]?=some o)(hv:∀ w1,(execOp a.eval o).run P w1=.ok (.enter f args) w1)(hc:∀ w1,E w w1->Calls P f args w1 λe q=>e=.returned v/\E w1 q)(h:Fr P l E Q ord (k::done) (a.put o.dst v) w)(hk:Xd l done k=true:=by kernel_rfl)(hw:Region.wanted o (yielded l.toArray a.tmps)=true:=by rfl):Fr P l E Q (k::ord) done a w:=y2 o f args v ho hk hw hv hc h
theorem CW(o:Oper)(ho:l[k]?=some o)(hk:sG l done k=true)(hw:Region.wanted o (yielded l.toArray a.tmps)=true)
  (h:∀ w1,E w w1->∀ K:Act->vW->Prop,(∀ a' w',E w1 w'->Fr P l E Q ord (k::done) a' w'->K a' w')->o.wp P a w1 K Mv):Fr P l E Q (k::ord) done a w:=by
 simp only[sG,beq_iff_eq]at hk;refine .inr ⟨hk,λw1 q=>?_⟩;unfold wpOp;have e:l.toArray[k]?=some o:=by simpa using ho
 simp only[e,hw,if_true];exact .inl (h w1 q _ λ_ _ A H=>⟨A,H⟩)
theorem F3(hk:(Region.ready .any l.toArray (Ec l done)).isEmpty=true)(h:∀ w1,E w w1->Q a w1):Fr P l E Q [] done a w:=
 λw1 e=>⟨by simpa using hk,h w1 e⟩
theorem Hi(h:∀ w1,E w w1->Q a w1)(hk:(Region.ready .any l.toArray (Ec l done)).isEmpty=true:=by kernel_rfl):Fr P l E Q [] done a w:=F3 hk h
end mixe
end
