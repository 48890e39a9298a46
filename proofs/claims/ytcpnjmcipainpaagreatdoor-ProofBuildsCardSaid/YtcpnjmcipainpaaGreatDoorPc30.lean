/- Parts of the proof, one behind the other: PrfE, PrfF, MixH, PrfG, PrfH, PrfI, PairEq, CanonKt, CanonP, PrfJ, ShaG, Clash2, ClashA, NibbleE, CanonQ. Each is under no condition but those that it states. -/
import Derived.Test.YtcpnjmcipainpaaGreatDoorPc29
import Derived.Test.YtcpnjmcipainpaaGreatDoorPc19
import Derived.Test.YtcpnjmcipainpaaGreatDoorPc17
import Derived.Test.YtcpnjmcipainpaaGreatDoorPc26
import Derived.Test.YtcpnjmcipainpaaGreatDoorPc18
import Derived.Test.YtcpnjmcipainpaaGreatDoorPc20
import Derived.Test.YtcpnjmcipainpaaGreatDoorPc8
import Derived.Test.YtcpnjmcipainpaaGreatDoorPc24
import Derived.Test.YtcpnjmcipainpaaGreatDoorPc16
namespace Go.Proofs.YtcpnjmcipainpaaGreatDoor
set_option linter.unusedSimpArgs false
set_option linter.unusedVariables false
set_option maxRecDepth 100000
set_option maxHeartbeats 16000000
section
open Go Go.RowKit
attribute [local go_sem] Oper.semAt_some
section wide
variable {P:Program}
theorem jgF{o:Oper}{a:Act}{w:World}{K:Act→World→Prop}{Q:Exit→Act→World→Prop}(hd:∀ c,o.op≠.defer c)(h:o.wp P a w K (fun _ _ _=>False)) :
  o.wpIn Fence.wide 0 P a w K Q:=by
 unfold Oper.wp at h
 refine⟨fun _ _=>trivial,?_⟩
 rw[Oper.semAt_eq _ _ _ hd];generalize (execOp a.eval o).run P w=r at *;cases r with
 | ok x w' =>
  cases x with
  | value v=>exact h
  | skip=>exact h
  | defer d=>exact h
  | enter f args =>
   refine And.intro (fun hh=>absurd hh (by simp[Fence.wide])) (callsIn_wide.2 (Calls.mono h fun e w'' he=>?_));cases e with
   | returned v=>exact he
   | panicked c=>exact he.elim
   | outgrown=>exact absurd he (fun ⟨_,_,h⟩=>h)
  | row r args=>exact And.intro (fun hh=>absurd hh (by simp[Fence.wide])) (fun c cs _=>let ⟨v,w',r,s⟩:=h c cs;⟨v,w',r,stepsIn_wide.2 s⟩)
  | round l f t a b=>exact h.elim
  | _=>exact h.elim
 | halt x w' =>
  cases x <;> first | exact h.elim | exact h
theorem jdx{ops:Array Oper}{rest:List Oper}{o:Oper}{a:Act}{w:World}{Q:Exit→Act→World→Prop}{T:TypeId}{cs:List Value}(hrun:∀ w,(Instr.alloc T true (.tuple #[])).run P w=.ok (.pointer (some ⟨w.heap.size,0,none⟩)) (w.alloc (.cells cs.toArray T)))(hgd:o.guard=none)(ho:o.op=.alloc T)
  (h:∀ W,Blk W w.heap.size (.cells cs.toArray T)→Ext w W→wpListIn Fence.wide 0 P ops Q rest (a.put o.dst (.pointer (some ⟨w.heap.size,0,none⟩))) W):wpListIn Fence.wide 0 P ops Q (o :: rest) a w:=
 wpListIn_plain hgd fun K hK=>jgF (by rw[ho];intro c hc;cases hc) (jcp (v:=.pointer (some ⟨w.heap.size,0,none⟩)) (w':=w.alloc (.cells cs.toArray T)) (by simp only[execOp,ho,Sem.run_bind,hrun,Result.andThen,Sem.run_pure]) (hK _ _ (h _ (Blk.new w _) ((ExtR w).alloc _))))
theorem jek{ops:Array Oper}{rest:List Oper}{o:Oper}{a:Act}{w:World}{Q:Exit→Act→World→Prop}{T T2:TypeId}{x y:Operand}{b:Nat}{old vs:List Value}(hgd:o.guard=none)(ho:o.op=.store T x y)(hx:a.eval x=.pointer (some ⟨b,0,none⟩))(hy:a.eval y=.agg vs.toArray)
  (hB:Blk w b (.cells old.toArray T2)) (hl:old.length=vs.length) (hi:(P.info? T).map (·.size)=some vs.length) (h1:∀ v∈vs,v.oneCell'=true)
  (h:∀ W,Blk W b (.cells vs.toArray T2)→jag (fun z=>z=b) w W→wpListIn Fence.wide 0 P ops Q rest (a.put o.dst undef) W):wpListIn Fence.wide 0 P ops Q (o :: rest) a w:=by
 refine wpListIn_plain hgd fun K hK=>jgF (by rw[ho];intro c hc;cases hc) ?_;refine wp_store_mid T x y ho b 0 vs.toArray hx hy (by have:=jgD hB;rw[hl]at this;simpa using this) (by simpa using hi) (all_oneCell_toArray h1) (hK _ _ (h _ ?_ (jag.oneSetCells b vs 0 w)))
 have:=Blk.setCells vs 0 w old hB (by omega)
 rw[List.drop_of_length_le (by omega)]at this;simpa using this
end wide
theorem jnF{a b:ByteArray}(ha:a.size=32)(hb:b.size=32)(h:jam a=jam b):a=b:=by
 obtain⟨q,h1,h2⟩:=jcI a ha
 obtain⟨r,k1,k2⟩:=jcI b hb
 rw[h]at h1 h2;rw[h1]at k1;obtain rfl:=Option.some.inj k1;rw[h2]at k2;exact Option.some.inj k2
structure PrS(W0:World)(wb:Nat)(v:Value)(nodes:List ByteArray):Prop where
 cubes:jbO W0
 rd:RdS W0 v nodes
 lo:W0.heap.size≤wb
 few:nodes.length≤1000000
 get:jc5 W0 nodes
theorem PrS.at'{W0 W:World}{wb:Nat}{v:Value}{nodes:List ByteArray}(h:PrS W0 wb v nodes)(hz:W0.heap.size≤W.heap.size)(hb:∀ b,b < W0.heap.size→W.heap[b]?=W0.heap[b]?):PrB { W with heap:=W0.heap } W wb v nodes:=
 ⟨h.cubes,h.rd,⟨rfl,rfl,rfl,hz,fun b hl _=>hb b hl⟩,h.lo,h.few,h.get⟩
structure MetS(W0:World)(b1 wb pc:Nat)(root:ByteArray)(v:Value)(p0:ByteArray)(O:BSet)(W:World):Prop where
 is:∀ b,O b↔b < W0.heap.size∨b=b1∨b=wb∨b=pc
 size:W0.heap.size≤W.heap.size
 old:∀ b,b < W0.heap.size→W.heap[b]?=W0.heap[b]?
 way:jbn W wb root v 0 .nilIface
 cap:Blk W b1 (.cells #[.pointer (some ⟨wb,0,none⟩)] 264)
 path:Blk W pc (.cells #[.string p0] 9)
theorem MetS.supp(W0:World)(b1 wb pc:Nat)(root:ByteArray)(v:Value)(p0:ByteArray):Supp (MetS W0 b1 wb pc root v p0):=by
 refine⟨fun D W h b hb=>?_,fun D W W' h hz hb=>⟨h.is,Nat.le_trans h.size hz,fun b hl=>(hb b ((h.is b).2 (.inl hl))).trans (h.old b hl),(hb _ ((h.is _).2 (.inr (.inr (.inl rfl))))).trans h.way,(hb _ ((h.is _).2 (.inr (.inl rfl)))).trans h.cap,(hb _ ((h.is _).2 (.inr (.inr (.inr rfl))))).trans h.path⟩⟩
 rcases (h.is b).1 hb with h1 | rfl | rfl | rfl
 ·exact Nat.lt_of_lt_of_le h1 h.size
 ·exact h.cap.lt
 ·exact Blk.lt h.way
 ·exact h.path.lt
def EndW(wb:Nat)(root:ByteArray)(v:Value)(nodes rest:List ByteArray)(okf:Bool)(O:BSet)(W:World):Prop:=
 ∃ (u:Nat) (ev:Value),jbn W wb root v u ev∧((okf=true∧ev=.nilIface∧u+rest.length=nodes.length) ∨
  (okf=false∧∃ (eb:Nat) (k:Int),O eb∧ev=.iface 211 (.pointer (some ⟨eb,0,none⟩))∧Blk W eb (.cells #[.int .i64 k,prfE] 213)))
def MetE(wb:Nat)(root:ByteArray)(v:Value)(nodes rest:List ByteArray)(okf:Bool)(_:Nat)(O:BSet)(W:World):Prop:=(∀ b,O b→b < W.heap.size)∧O wb∧EndW wb root v nodes rest okf O W
theorem MetE.supp(wb:Nat)(root:ByteArray)(v:Value)(nodes rest:List ByteArray)(okf:Bool)(k:Nat):Supp (MetE wb root v nodes rest okf k):=
 ⟨fun D W h b hb=>h.1 b hb,fun D W W' ⟨h1,h2,u,ev,h3,h4⟩ hz hb=>⟨fun b h=>Nat.lt_of_lt_of_le (h1 b h) hz,h2,u,ev,(hb _ h2).trans h3,h4.imp id (fun ⟨e,eb,k,ho,e2,hB⟩=>⟨e,eb,k,ho,e2,(hb _ ho).trans hB⟩)⟩⟩
def atV(vs:List (jac × ByteArray))(k:Nat):jac × ByteArray:=vs.getD k (jav,⟨#[]⟩)
def meV(vs:List (jac × ByteArray))(k:Nat):Array Value:=#[(atV vs k).1.V,.string (atV vs k).2]
structure MtR(W:World)(wb b1 pc L:Nat)(C:Nat→BSet→World→Prop)(D:BSet)(k:Nat)(Dk:BSet)(p:ByteArray)(n:jac)(wr:World):Prop where
 at':C k Dk wr
 sub:∀ b,Dk b→D b∨W.heap.size≤b
 kp:jag (fun b=>D b∨b=wb∨b=pc) W wr
 path:Blk wr pc (.cells #[.string p] 9)
 var:Blk wr L (.cells n.cells.toArray 144)
 nL:¬ Dk L
 len:n.refs.length=16
structure MtGo(wb:Nat)(root:ByteArray)(v:Value)(nodes:List ByteArray)(vs:List (jac × ByteArray))(rest:List ByteArray)(okf:Bool)(k u f d:Nat)(p:ByteArray)(n:jac)(wr:World):Prop where
 way:jbn wr wb root v u .nilIface
 run:runN f (nodes.drop u) n p=(vs.drop k,rest,okf)
 lt:k < vs.length
 fuel:p.size≤f
 valid:jaA p=true
 size:p.size≤2000
 good:jbj (InlD d) n
 le:u≤nodes.length
def jsa(z wb:Nat)(root:ByteArray)(v:Value)(vs:List (jac × ByteArray))(okf:Bool)(k:Nat)(Dk:BSet)(wr:World):Prop:=
 k=vs.length∧okf=false∧∃ (u eb:Nat) (ek:Int),¬ Dk eb∧z≤eb∧jbn wr wb root v u (.iface 211 (.pointer (some ⟨eb,0,none⟩)))∧Blk wr eb (.cells #[.int .i64 ek,prfE] 213)
def jsb(W:World)(wb b1 pc L:Nat)(root:ByteArray)(v:Value)(nodes:List ByteArray)(vs:List (jac × ByteArray))(rest:List ByteArray)(okf:Bool)(C:Nat→BSet→World→Prop)(D:BSet)(okv:Value)(wr:World):Prop:=
 ∃ k Dk p n,MtR W wb b1 pc L C D k Dk p n wr∧((okv=.bool true∧∃ u f d,MtGo wb root v nodes vs rest okf k u f d p n wr)∨(okv=.bool false∧jsa W.heap.size wb root v vs okf k Dk wr))
def mtM(pc:Nat)(okv:Value)(wr:World):Nat:=match okv,wr.cell? ⟨pc,0,none⟩with | .bool true,some pv=>jfB pv+1 | _,_=>0
noncomputable def onW(hs:ByteArray)(g:Nat)(n:jac)(p q:ByteArray):List ByteArray→List (jac × ByteArray) × List ByteArray × Bool
 | []=>([(n,p)],[],false)
 | t :: ts=>if shaB t=hs then (match getN t with
   | some m=>((n,p) ::(runN g ts m q).1,(runN g ts m q).2)
   | none=>([(n,p)],t :: ts,false))
  else ([(n,p)],t :: ts,false)
theorem jkE(w:World){d f:Nat}{ts:List ByteArray}{n:jac}{p r q:ByteArray}{xs:List (jac × ByteArray) × List ByteArray × Bool}(hg:jbj (InlD d) n)(hp:jaA p=true)(hf:p.size≤f)(hs:jbD n p=(r,q))(hx:runN f ts n p=xs) :
  (r.size=0∧xs=([(n,p)],ts,true)) ∨
  (r.size≠0∧∃ g,f=g+1∧q.size≤g∧q.size < p.size∧jaA q=true ∧
   ((∃ d' m,d=d'+1∧InlD d r m∧jbj (InlD d') m∧xs=((n,p) ::(runN g ts m q).1,(runN g ts m q).2)) ∨
    ∃ hs,hs.size=32∧r=jam hs∧xs=onW hs g n p q ts)):=by
 by_cases hr:r.size=0
 ·refine .inl ⟨hr,?_⟩
  cases f with
  | zero=>exact hx.symm
  | succ f=>rw[jdT,hs,if_pos hr]at hx;exact hx.symm
 ·obtain⟨hm,h1,h2⟩:=joZ hg hp hs hr
  obtain⟨g,rfl⟩:∃ g,f=g+1:=⟨f - 1,by omega⟩
  refine .inr ⟨hr,g,rfl,by omega,h1,h2,?_⟩;rw[jdT,hs,if_neg hr]at hx;rcases hm with⟨hh,hh1,hh2⟩ |⟨m,hI⟩
  ·refine .inr ⟨hh,hh1,hh2,?_⟩
   have h33:r.size=33:=jdH.size ⟨hh,hh1,hh2⟩;rw[if_neg (show ¬(r,q).1.size < 32 by show ¬ r.size < 32;omega)]at hx;rw[←hx];cases ts with
   | nil=>rfl
   | cons t ts =>
    show (if jam (shaB t)=r then _ else _)=(if shaB t=hh then _ else _)
    by_cases he:shaB t=hh
    ·rw[if_pos he,if_pos (by rw[he,hh2])];rfl
    ·rw[if_neg he,if_neg (fun e=>he (jnF (jbK t) hh1 (e.trans hh2)))]
  ·left
   cases d with
   | zero=>exact hI.elim
   | succ d =>
    refine⟨d,m,rfl,hI,hI.1,?_⟩
    have hsm:=(inlP _).small _ _ hI;rw[if_pos (show (r,q).1.size < 32 from hsm)]at hx;have hIs:jbN r m:=⟨hI.2.1,d,hI.1⟩;have e:nodeOf r=m:=jdd w (jcc hIs) hIs;rw[←hx];show ((n,p) ::(runN g ts (nodeOf r) q).1,(runN g ts (nodeOf r) q).2)=_;rw[e]
end
section
open Go Go.RowKit
attribute [local go_sem] Oper.semAt_some
theorem jd0{F:Fence}{n:Nat}{P:Program}{w:World}{ops:Array Oper}{rest:List Oper}{o:Oper}{a:Act}{Q:Exit→Act→World→Prop}(t:TypeId)(x:Operand)(ho:o.op=.load t x)(hw:Region.wanted o (yielded ops a.tmps)=true)(v:Value)(p:Addr)(hx:a.eval x=.pointer (some p))
  (hr:(Instr.loadAt t (.pointer (some p))).run P w=.ok v w) (h:wpListIn F n P ops Q rest (a.put o.dst v) w):wpListIn F n P ops Q (o :: rest) a w:=by
 refine wpListIn_step fun K hK'=>?_;rw[if_pos hw];unfold Oper.wpIn
 refine⟨?_,?_⟩
 ·simp[Oper.about,ho]
 ·rw[Oper.semAt_plain F _ _ (by rw[ho];intro c hc';cases hc')]
  simp only[execOp,ho,hx,Sem.run_bind,hr,Result.andThen,Sem.run_pure];exact hK' _ _ h
theorem Tryz.enterTake:∀ args w,(callFunc 200 args).run Tryz.prog w=.ok (.enter 200 args) w:=fun _ _=>by kernel_rfl
theorem jkK(W0 W:World)(wb:Nat)(root:ByteArray)(v:Value)(nodes:List ByteArray)(u:Nat)(ev:Value)(hash:ByteArray)(hB:PrB W0 W wb v nodes)(hW:jbn W wb root v u ev)(hu:u≤nodes.length) :
  Calls Tryz.prog 200 #[.pointer (some ⟨wb,0,none⟩),.string hash] W (jji W wb root v u ev (takeN nodes u hash)):=by
 have:=hB.few
 unfold takeN;cases h:nodes[u]? with
 | none=>exact jo2 W0 W wb root v nodes u ev hash hB hW h (by omega)
 | some t=>exact jo1 W0 W wb root v nodes u ev hash t hB hW h
theorem jji.split{W:World}{wb:Nat}{root:ByteArray}{v:Value}{u:Nat}{ev:Value}{r:Option jac}{e:Ending}{w':World}(h:jji W wb root v u ev r e w') :
  ∃ m okb,e=.returned (.tuple #[m.V,.bool okb])∧m.refs.length=16∧jag (fun b=>b=wb) W w'∧((okb=true∧r=some m∧jbn w' wb root v (u+1) ev)∨(okb=false∧r=none∧∃ ev',ErrW W.heap.size w' ev'∧jbn w' wb root v u ev')):=by
 obtain⟨hK,hc⟩:=h
 cases r with
 | none=>exact⟨jav,false,hc.1,rfl,hK,.inr ⟨rfl,rfl,hc.2⟩⟩
 | some m=>exact⟨m,true,hc.1,hc.2.2,hK,.inl ⟨rfl,rfl,hc.2.1⟩⟩
theorem jbn.root'{W:World}{wb:Nat}{root:ByteArray}{v:Value}{u:Nat}{ev:Value}(h:jbn W wb root v u ev):W.cell? ⟨wb,0,none⟩=some (.string root):=Blk.cell (i:=0) h (by rfl)
theorem jeJ{t:ByteArray}{m:jac}(h:getN t=some m):∃ d,jbj (InlD d) m:=by
 unfold getN at h;split at h
 ·rename_i hn
  obtain⟨n,hn⟩:=hn
  obtain⟨_,f,h2⟩:=jcc hn
  rw[Option.some.inj h]at h2
  exact⟨f,h2⟩
 ·cases h
theorem jkG(f:Nat)(ts:List ByteArray)(n:jac)(p:ByteArray):∃ t,(runN f ts n p).1=(n,p) :: t:=by
 cases f with
 | zero=>exact⟨_,rfl⟩
 | succ f =>
  rw[jdT];split
  ·exact⟨_,rfl⟩
  ·split
   ·exact⟨_,rfl⟩
   ·split
    ·exact⟨_,rfl⟩
    ·split
     ·split
      ·exact⟨_,rfl⟩
      ·exact⟨_,rfl⟩
     ·exact⟨_,rfl⟩
theorem jc7{α:Type}{l t:List α}{k:Nat}{x d:α}(h:l.drop k=x :: t):k < l.length∧l.getD k d=x∧l.drop (k+1)=t∧l.length=k+1+t.length:=by
 have hlt:k < l.length:=by
  rcases Nat.lt_or_ge k l.length with h1 | h1
  ·exact h1
  ·rw[List.drop_of_length_le h1]at h;cases h
 rw[List.drop_eq_getElem_cons hlt]at h
 obtain⟨h1,h2⟩:=List.cons.inj h
 refine⟨hlt,by rw[List.getD_eq_getElem?_getD,List.getElem?_eq_getElem hlt];exact h1,h2,?_⟩
 rw[←h2,List.length_drop];omega
theorem jku{root p:ByteArray}{nodes:List ByteArray}{vs:List (jac × ByteArray)}{rest:List ByteArray}{okf:Bool}(h:proveN root p nodes=(vs,rest,okf)) :
  (takeN nodes 0 root=none∧vs=[]∧rest=nodes∧okf=false)∨∃ m,takeN nodes 0 root=some m∧runN p.size (nodes.drop 1) m p=(vs,rest,okf)∧1≤nodes.length:=by
 unfold takeN;have bad:∀ l,proveN root p nodes=([],l,false)→l=nodes→vs=[]∧rest=nodes∧okf=false:=fun l e el=>by
  rw[h]at e
  obtain⟨e1,e2⟩:=Prod.mk.inj e
  obtain⟨e3,e4⟩:=Prod.mk.inj e2
  exact⟨e1,e3.trans el,e4⟩
 cases nodes with
 | nil=>exact .inl ⟨rfl,bad [] rfl rfl⟩
 | cons t ts =>
  have hu:proveN root p (t :: ts)=(if shaB t=root then (match getN t with
   | some n=>runN p.size ts n p
   | none=>([],t :: ts,false))else ([],t :: ts,false)):=rfl
  show ((if shaB t=root then getN t else none)=none∧_)∨∃ m,(if shaB t=root then getN t else none)=some m∧_
  by_cases he:shaB t=root
  ·rw[if_pos he]at hu ⊢
   cases hg:getN t with
   | none=>rw[hg]at hu;exact .inl ⟨rfl,bad _ hu rfl⟩
   | some m=>rw[hg]at hu;exact .inr ⟨m,rfl,hu.symm.trans h,by simp⟩
  ·rw[if_neg he]at hu ⊢
   exact .inl ⟨rfl,bad _ hu rfl⟩
structure jsc(W w w':World)(wb pc L:Nat)(root:ByteArray)(v:Value)(nodes:List ByteArray)(vs:List (jac × ByteArray))(rest:List ByteArray)(okf:Bool)(k:Nat)(q:ByteArray)(m:jac)(okb:Bool):Prop where
 len:m.refs.length=16
 kp:jag (fun b=>b=wb) w w'
 on:(okb=true∧∃ u f d,MtGo wb root v nodes vs rest okf k u f d q m w')∨(okb=false∧k=vs.length∧okf=false∧∃ (u eb:Nat) (ek:Int),w.heap.size≤eb∧jbn w' wb root v u (.iface 211 (.pointer (some ⟨eb,0,none⟩)))∧Blk w' eb (.cells #[.int .i64 ek,prfE] 213))
theorem jjd(W0 w:World)(wb pc L:Nat)(root:ByteArray)(v:Value)(nodes:List ByteArray)(vs:List (jac × ByteArray))(rest:List ByteArray)(okf:Bool)(k u f d:Nat)(p r q:ByteArray)(n:jac)(hB:PrB W0 w wb v nodes)
  (hG:MtGo wb root v nodes vs rest okf k u f d p n w) (hs:jbD n p=(r,q)) (hr:r.size≠0) :
  Calls Tryz.prog 202 #[.pointer (some ⟨wb,0,none⟩),.string r] w (fun e w'=>∃ m okb,e=.returned (.tuple #[m.V,.bool okb])∧jsc w w w' wb pc L root v nodes vs rest okf (k+1) q m okb):=by
 rcases jkE w hG.good hG.valid hG.fuel hs hG.run with⟨h,_⟩ |⟨_,g,hg,hq,hlt,hval,h⟩
 ·exact absurd h hr
 have h2000:q.size≤2000:=by have:=hG.size;omega
 rcases h with⟨d',m,rfl,hI,hgd,hx⟩ |⟨hh,h32,rfl,hx⟩
 ·refine (jh7 w wb _ r m hI).mono ?_
  rintro e w' ⟨rfl,hE⟩
  obtain⟨hd,h1⟩:=Prod.mk.inj hx
  obtain⟨_,_,h3,h4⟩:=jc7 (d:=(n,p)) hd
  obtain⟨t,ht⟩:=jkG g (nodes.drop u) m q
  refine⟨m,true,rfl,(inlP _).refs _ _ hI,ExtK hE,.inl ⟨rfl,u,g,d',Blk.keeps hG.way hE (fun h=>h),?_,?_,hq,hval,h2000,hgd,hG.le⟩⟩
  ·rw[h3];show _=(_,(rest,okf));rw[h1]
  ·rw[h4,ht];simp
 ·refine (jjR w wb root v u .nilIface hh h32 hG.way (takeN nodes u hh) (fun w' hE hW=>jkK W0 w' wb root v nodes u .nilIface hh (hB.grow hE) hW hG.le)).mono ?_
  intro e w' hT
  obtain⟨m,okb,rfl,hm,hK,hc⟩:=hT.split
  refine⟨m,okb,rfl,hm,hK,?_⟩
  unfold takeN at hc;cases hu:nodes[u]? with
  | none =>
   have hul:=List.getElem?_eq_none_iff.1 hu;rw[List.drop_of_length_le hul]at hx;rw[hu]at hc
   obtain⟨hd,h1⟩:=Prod.mk.inj hx
   obtain⟨_,_,h3,h4⟩:=jc7 (d:=(n,p)) hd
   rcases hc with⟨_,hc,_⟩ |⟨rfl,_,ev',⟨eb,ek,rfl,hbe,hz⟩,hW⟩
   ·cases hc
   ·exact .inr ⟨rfl,h4.symm,(Prod.mk.inj h1).2,u,eb,ek,hz,hW,hbe⟩
  | some t =>
   have hul:u < nodes.length:=(List.getElem?_eq_some_iff.1 hu).1;have hdr:nodes.drop u=t :: nodes.drop (u+1):=by rw[List.drop_eq_getElem_cons hul];congr 1;exact (List.getElem?_eq_some_iff.1 hu).2
   rw[hdr]at hx;rw[hu]at hc;have hc:(okb=true∧(if shaB t=hh then getN t else none)=some m∧jbn w' wb root v (u+1) .nilIface)∨(okb=false∧(if shaB t=hh then getN t else none)=none∧∃ ev',ErrW w.heap.size w' ev'∧jbn w' wb root v u ev'):=hc;have hx:(vs.drop k,rest,okf)=(if shaB t=hh then (match getN t with
       | some m=>((n,p) ::(runN g (nodes.drop (u+1)) m q).1,(runN g (nodes.drop (u+1)) m q).2)
       | none=>([(n,p)],t :: nodes.drop (u+1),false))
      else ([(n,p)],t :: nodes.drop (u+1),false)):=hx
   have bad:(vs.drop k,rest,okf)=([(n,p)],t :: nodes.drop (u+1),false)→(∃ ev',ErrW w.heap.size w' ev'∧jbn w' wb root v u ev')→okb=false→((okb=true∧∃ u f d,MtGo wb root v nodes vs rest okf (k+1) u f d q m w')∨(okb=false∧k+1=vs.length∧okf=false∧∃ (u eb:Nat) (ek:Int),w.heap.size≤eb∧jbn w' wb root v u (.iface 211 (.pointer (some ⟨eb,0,none⟩)))∧Blk w' eb (.cells #[.int .i64 ek,prfE] 213))):=fun hx ⟨ev',⟨eb,ek,e1,hbe,hz⟩,hW⟩ ho=>by
    obtain⟨hd,h1⟩:=Prod.mk.inj hx
    obtain⟨_,_,h3,h4⟩:=jc7 (d:=(n,p)) hd
    subst e1;exact Or.inr ⟨ho,h4.symm,(Prod.mk.inj h1).2,u,eb,ek,hz,hW,hbe⟩
   by_cases he:shaB t=hh
   ·rw[if_pos he]at hc hx
    rcases hc with⟨rfl,hc,hW⟩ |⟨rfl,hc,hcc⟩
    ·rw[hc]at hx
     obtain⟨hd,h1⟩:=Prod.mk.inj (show (vs.drop k,rest,okf)=((n,p) ::(runN g (nodes.drop (u+1)) m q).1,(runN g (nodes.drop (u+1)) m q).2)from hx)
     obtain⟨_,_,h3,h4⟩:=jc7 (d:=(n,p)) hd
     obtain⟨tl,ht⟩:=jkG g (nodes.drop (u+1)) m q
     obtain⟨d',hgd⟩:=jeJ hc
     exact .inl ⟨rfl,u+1,g,d',hW,by rw[h3];show _=(_,(rest,okf));rw[h1],by rw[h4,ht];simp,hq,hval,h2000,hgd,hul⟩
    ·rw[hc]at hx;exact bad hx hcc rfl
   ·rw[if_neg he]at hc hx
    rcases hc with⟨_,hc,_⟩ |⟨rfl,_,hcc⟩
    ·cases hc
    ·exact bad hx hcc rfl
end
section
open Go Go.RowKit
section mixh
variable {P:Program} {l:List Oper} {E D:World→World→Prop}
def MixH(P:Program)(l:List Oper)(hd:List Nat)(E D:World→World→Prop)(Q:Act→World→Prop):Nat→List Nat→Act→World→Prop
 | 0,done,a,w=>∀ w1,E w w1→Region.ready .any l.toArray (jbp l done)=[]∧Q a w1
 | n+1,done,a,w =>
  (∃ k,k∈Region.ready .any l.toArray (jbp l done)∧Region.free .any l.toArray (jbp l done) k=true∧∃ o v,l[k]?=some o∧jb4 P l.toArray E D w o v a∧MixH P l hd E D Q n (k :: done) (a.put o.dst v) w) ∨
  (Region.ready .any l.toArray (jbp l done)≠[]∧∀ i∈Region.ready .any l.toArray (jbp l done),i∈hd∧∀ w1,E w w1→wpOp P l.toArray NoQ i (fun a' w'=>D w1 w'∧MixH P l hd E D Q n (i :: done) a' w') a w1)
theorem jdJ(hE:∀ w,E w w)(hT:∀ x y z,E x y→E y z→E x z)(hD:∀ x y z,D x y→D y z→D x z)(hED:∀ x y,E x y→D x y)(hs:Region.noSelect l.toArray=true){hd:List Nat}{Q:Act→World→Prop}:∀ (n:Nat) (done:List Nat) (a:Act) (w:World),
  MixH P l hd E D Q n done a w→anyD P l.toArray hd E D Q n (jbp l done) a w
 | 0,_,_,_,h=>h
 | n+1,done,a,w,h=>by
  rcases h with⟨k,hr,hf,o,v,ho,hy,h⟩ |⟨hr,h⟩
  ·have ho':l.toArray[k]?=some o:=by simpa using ho
   exact jgN hE hT hD hED ho' (Region.noSelect_spec hs) n (jbp l done) a w (Region.free_spec ho' hf) hr hy (jdJ hE hT hD hED hs n _ _ _ h)
  ·intro w1 he
   refine⟨fun h0=>absurd h0 hr,fun i hi=>?_⟩
   obtain⟨hk,h⟩:=h i hi
   exact wpOp_mono (fun a' w' h2=>⟨h2.1,fun hn=>absurd hk hn,jdJ hE hT hD hED hs n _ _ _ h2.2⟩) (h w1 he)
theorem jel(hd:List Nat)(E D:World→World→Prop)(hE:∀ w,E w w)(hT:∀ x y z,E x y→E y z→E x z)(hD:∀ x y z,D x y→D y z→D x z)(hED:∀ x y,E x y→D x y){id:Nat}{Q:Exit→Act→World→Prop}{a:Act}{w:World}
  (hm:P.follows .mixedOrders=true) (hs:Region.noSelect l.toArray=true) (n:Nat) (hl:n=l.toArray.size)
  (h:MixH P l hd E D (fun a w=>Q .normal a w) n [] a w.drew):(Code.region id l.toArray true).wp P Q a w:=by
 refine wp_region_any hm ?_;rw[←hl]
 have:=jdJ hE hT hD hED hs n _ _ _ h
 unfold jbp at this;rw[←hl]at this;exact je5 hE (fun _ _ h=>h) _ _ _ _ this
variable {Q:Act→World→Prop} {done hd:List Nat} {a:Act} {w:World} {k n:Nat} {o:Oper}
theorem ja0(o:Oper)(ho:l[k]?=some o)(hk:headD l done k=true)(hw:Region.wanted o (yielded l.toArray a.tmps)=true)(hq:jg7 o.op=true)
  (h:∀ K:Act→Prop,(∀ a',MixH P l hd E D Q n (k :: done) a' w→K a')→o.quiet P a (fun _=>True) K):MixH P l hd E D Q (n+1) done a w:=by
 simp only[headD,Bool.and_eq_true,List.contains_iff_mem]at hk
 obtain⟨v,h1,h2⟩:=h _ (fun _ h=>h)
 have key:jb4 P l.toArray E D w o v a:=by
  refine .inl ⟨hw,fun w1 _=>?_⟩;have h3:=h1 w1 trivial;unfold Oper.quietAt at h3;have h4:=fun f args w'=>jhO (ρ:=a.eval) hq P w1 w' f args;generalize (execOp a.eval o).run P w1=r at *;cases r with
  | ok n w'=>cases n <;> simp only[Oper.quietUpon]at h3 <;> first | exact h3 | exact absurd rfl (h4 _ _ _)
  | halt x w'=>simp only[Oper.quietUpon]at h3
 exact .inl ⟨_,hk.1,hk.2,o,v,ho,key,h2⟩
theorem jfM(o:Oper)(v:Value)(ho:l[k]?=some o)(hk:headD l done k=true)(hw:Region.wanted o (yielded l.toArray a.tmps)=true)
  (hv:∀ w1,D w w1→(execOp a.eval o).run P w1=.ok (.value v) w1) (h:MixH P l hd E D Q n (k :: done) (a.put o.dst v) w):MixH P l hd E D Q (n+1) done a w:=by
 simp only[headD,Bool.and_eq_true,List.contains_iff_mem]at hk;exact .inl ⟨_,hk.1,hk.2,o,v,ho,.inl ⟨hw,fun w1 hc=>by rw[hv w1 hc];exact⟨rfl,rfl⟩⟩,h⟩
theorem jgk(p:Addr)(v:Value){t:TypeId}{x:Operand}{d:Option Tmp}{ty:TypeId}{pos:String}{af:Array Edge}{g:Option (Nat × Bool)}(ho:l[k]?=some ⟨d,.load t x,ty,pos,af,g⟩)(hk:headD l done k=true)
  (hw:Region.wanted ⟨d,.load t x,ty,pos,af,g⟩ (yielded l.toArray a.tmps)=true) (hx:a.eval x=.pointer (some p))
  (hv:∀ w1,D w w1→(Instr.loadAt t (.pointer (some p))).run P w1=.ok v w1) (h:MixH P l hd E D Q n (k :: done) (a.put d v) w):MixH P l hd E D Q (n+1) done a w:=by
 refine jfM _ v ho hk hw (fun w1 hc=>?_) h
 have:=hv w1 hc
 simp only[execOp,hx,Sem.run_bind,this,Result.andThen,Sem.run_pure]
theorem jeM(o:Oper)(f:FuncId)(args:Array Value)(v:Value)(ho:l[k]?=some o)(hk:headD l done k=true)(hw:Region.wanted o (yielded l.toArray a.tmps)=true)
  (hv:∀ w1,(execOp a.eval o).run P w1=.ok (.enter f args) w1) (hc:∀ w1,D w w1→Calls P f args w1 (fun e w2=>e=.returned v∧E w1 w2))
  (h:MixH P l hd E D Q n (k :: done) (a.put o.dst v) w):MixH P l hd E D Q (n+1) done a w:=by
 simp only[headD,Bool.and_eq_true,List.contains_iff_mem]at hk;exact .inl ⟨_,hk.1,hk.2,o,v,ho,.inl ⟨hw,fun w1 hw1=>by rw[hv w1];exact⟨rfl,hc w1 hw1⟩⟩,h⟩
theorem jbR(o:Oper)(ho:l[k]?=some o)(hk:jjW l hd done k=true)(hw:Region.wanted o (yielded l.toArray a.tmps)=true)
  (h:∀ w1,E w w1→∀ K:Act→World→Prop,(∀ a' w',D w1 w'→MixH P l hd E D Q n (k :: done) a' w'→K a' w')→o.wp P a w1 K NoQ):MixH P l hd E D Q (n+1) done a w:=by
 simp only[jjW,Bool.and_eq_true,beq_iff_eq,List.contains_iff_mem]at hk;refine .inr ⟨by rw[hk.1];simp,fun i hi=>?_⟩;rw[hk.1]at hi;obtain rfl:i=k:=by simpa using hi
 refine⟨hk.2,fun w1 he=>?_⟩
 unfold wpOp;have ho':l.toArray[i]?=some o:=by simpa using ho
 simp only[ho',hw,if_true];exact .inl (h w1 he _ (fun _ _ h1 h2=>⟨h1,h2⟩))
def twoD(l:List Oper)(hd done:List Nat)(j k:Nat):Bool:=Region.ready .any l.toArray (jbp l done) == [j,k] && hd.contains j && hd.contains k
theorem jhG(j k:Nat)(o1 o2:Oper)(hk:twoD l hd done j k=true)(h01:l[j]?=some o1)(h02:l[k]?=some o2)
  (hw1:Region.wanted o1 (yielded l.toArray a.tmps)=true) (hw2:Region.wanted o2 (yielded l.toArray a.tmps)=true)
  (h1:∀ w1,E w w1→∀ K:Act→World→Prop,(∀ a' w',D w1 w'→MixH P l hd E D Q n (j :: done) a' w'→K a' w')→o1.wp P a w1 K NoQ)
  (h2:∀ w1,E w w1→∀ K:Act→World→Prop,(∀ a' w',D w1 w'→MixH P l hd E D Q n (k :: done) a' w'→K a' w')→o2.wp P a w1 K NoQ):MixH P l hd E D Q (n+1) done a w:=by
 simp only[twoD,Bool.and_eq_true,beq_iff_eq,List.contains_iff_mem]at hk;refine .inr ⟨by rw[hk.1.1];simp,fun i hi=>?_⟩;rw[hk.1.1]at hi;have hi:i=j∨i=k:=by simpa using hi
 rcases hi with rfl | rfl
 ·refine⟨hk.1.2,fun w1 he=>?_⟩
  unfold wpOp;have ho':l.toArray[i]?=some o1:=by simpa using h01
  simp only[ho',hw1,if_true];exact .inl (h1 w1 he _ (fun _ _ h1 h2=>⟨h1,h2⟩))
 ·refine⟨hk.2,fun w1 he=>?_⟩
  unfold wpOp;have ho':l.toArray[i]?=some o2:=by simpa using h02
  simp only[ho',hw2,if_true];exact .inl (h2 w1 he _ (fun _ _ h1 h2=>⟨h1,h2⟩))
theorem jeN(hk:(Region.ready .any l.toArray (jbp l done)).isEmpty=true)(h:∀ w1,E w w1→Q a w1):MixH P l hd E D Q 0 done a w:=
 fun w1 he=>⟨by simpa using hk,h w1 he⟩
end mixh
end
section
open Go Go.RowKit
attribute [local go_sem] Oper.semAt_some
def DrW(wb z:Nat)(x y:World):Prop:=jag (fun b=>b=wb∨z≤b) x y∧∀ rt,x.cell? ⟨wb,0,none⟩=some (.string rt)→y.cell? ⟨wb,0,none⟩=some (.string rt)
theorem DrW.trans(wb z:Nat)(a b c:World)(h:DrW wb z a b)(k:DrW wb z b c):DrW wb z a c:=⟨h.1.trans k.1,fun rt e=>k.2 rt (h.2 rt e)⟩
theorem DrW.ext(wb z:Nat)(x y:World)(h:Ext x y):DrW wb z x y:=⟨ExtK h,fun rt e=>jab e h⟩
structure jqU(w w':World)(wb:Nat)(root:ByteArray)(v:Value)(nodes:List ByteArray)(vs:List (jac × ByteArray))(rest:List ByteArray)(okf:Bool)(p:ByteArray)(m:jac)(okb:Bool):Prop where
 len:m.refs.length=16
 kp:jag (fun b=>b=wb) w w'
 rt:w'.cell? ⟨wb,0,none⟩=some (.string root)
 on:(okb=true∧∃ u f d,MtGo wb root v nodes vs rest okf 0 u f d p m w')∨(okb=false∧0=vs.length∧okf=false∧∃ (u eb:Nat) (ek:Int),w.heap.size≤eb∧jbn w' wb root v u (.iface 211 (.pointer (some ⟨eb,0,none⟩)))∧Blk w' eb (.cells #[.int .i64 ek,prfE] 213))
theorem jlB(W0 w:World)(wb:Nat)(root:ByteArray)(v:Value)(nodes:List ByteArray)(vs:List (jac × ByteArray))(rest:List ByteArray)(okf:Bool)(p:ByteArray)(hB:PrB W0 w wb v nodes)
  (hW:jbn w wb root v 0 .nilIface) (hp:jaA p=true) (hps:p.size≤2000) (hvs:proveN root p nodes=(vs,rest,okf)) :
  Calls Tryz.prog 200 #[.pointer (some ⟨wb,0,none⟩),.string root] w (fun e w'=>∃ m okb,e=.returned (.tuple #[m.V,.bool okb])∧jqU w w' wb root v nodes vs rest okf p m okb):=by
 refine (jkK W0 w wb root v nodes 0 .nilIface root hB hW (Nat.zero_le _)).mono ?_;intro e w' hT
 obtain⟨m,okb,rfl,hm,hK,hc⟩:=hT.split
 refine⟨m,okb,rfl,hm,hK,?_,?_⟩
 ·rcases hc with⟨_,_,h⟩ |⟨_,_,ev',_,h⟩
  ·exact h.root'
  ·exact h.root'
 ·rcases jku hvs with⟨h1,rfl,rfl,rfl⟩ |⟨m',h1,h2,h3⟩
  ·rw[h1]at hc
   rcases hc with⟨_,hc,_⟩ |⟨rfl,_,ev',⟨eb,ek,rfl,hbe,hz⟩,hW'⟩
   ·cases hc
   ·exact .inr ⟨rfl,rfl,rfl,0,eb,ek,hz,hW',hbe⟩
  ·rw[h1]at hc
   rcases hc with⟨rfl,hc,hW'⟩ |⟨_,hc,_⟩
   ·obtain rfl:=Option.some.inj hc
    obtain⟨d,hgd⟩:=jeJ (show ∃ t,getN t=some m' from by
     unfold takeN at h1;split at h1
     ·cases h1
     ·split at h1
      ·exact⟨_,h1⟩
      ·cases h1).choose_spec
    obtain⟨t,ht⟩:=jkG p.size (nodes.drop 1) m' p
    refine .inl ⟨rfl,0+1,p.size,d,hW',by rw[h2];rfl,?_,Nat.le_refl _,hp,hps,hgd,h3⟩;have hv:(runN p.size (nodes.drop 1) m' p).1=vs:=by rw[h2]
    rw[←hv,ht];simp
   ·cases hc
def jpk(y b1 pc wb:Nat)(root:ByteArray)(L:Nat)(m:jac)(okb:Bool):Act:=
 { tmps:=#[.func (.yield y) #[] #[],.pointer (some ⟨b1,0,none⟩),.pointer (some ⟨pc,0,none⟩),undef,.pointer (some ⟨L,0,none⟩),.bool okb,undef,undef,.tuple #[m.V,.bool okb],.pointer (some ⟨wb,0,none⟩),.pointer (some ⟨wb,0,none⟩),.pointer (some ⟨wb,0,none⟩),.pointer (some ⟨wb,0,none⟩),.string root,.tuple #[m.V,.bool okb],m.V,.bool okb,
  undef,undef,undef,undef,undef,undef,undef,undef,undef,undef,undef,undef,undef,undef,undef,undef,undef,undef,undef,undef,undef,undef],defers:=[] }
structure jqT(W w':World)(wb:Nat)(root:ByteArray)(v:Value)(nodes:List ByteArray)(vs:List (jac × ByteArray))(rest:List ByteArray)(okf:Bool)(p:ByteArray)(L:Nat)(m:jac)(okb:Bool):Prop where
 len:m.refs.length=16
 kp:jag (fun b=>b=wb) W w'
 new:W.heap.size≤L
 var:Blk w' L (.cells m.cells.toArray 144)
 on:(okb=true∧∃ u f d,MtGo wb root v nodes vs rest okf 0 u f d p m w')∨(okb=false∧0=vs.length∧okf=false∧∃ (u eb:Nat) (ek:Int),W.heap.size≤eb∧jbn w' wb root v u (.iface 211 (.pointer (some ⟨eb,0,none⟩)))∧Blk w' eb (.cells #[.int .i64 ek,prfE] 213))
theorem jrC(W0:World)(b1 wb pc:Nat)(root:ByteArray)(v:Value)(nodes:List ByteArray)(p0:ByteArray)(hp:jaA p0=true)(hps:p0.size≤2000)(hS:PrS W0 wb v nodes)(hne:W0.heap.size≤b1∧W0.heap.size≤pc∧b1≠wb∧b1≠pc∧wb≠pc)
  (vs:List (jac × ByteArray)) (rest:List ByteArray) (okf:Bool) (hvs:proveN root p0 nodes=(vs,rest,okf)) :
  jpy Tryz.prog 199 #[.pointer (some ⟨b1,0,none⟩),.pointer (some ⟨pc,0,none⟩)] vs.length (meV vs) (fun b=>b=wb∨b=pc) (MetS W0 b1 wb pc root v p0) (MetE wb root v nodes rest okf):=by
 intro y C Cx hC hCx D O W hY h0 hS' hdis;have HPB:=Hd (show ∀ w,jag (fun b=>D b∨b=wb∨b=pc) W w→PrB { w with heap:=W0.heap } w wb v nodes from fun w k=>hS.at' (Nat.le_trans hS'.size k.size) fun b hb=>(k.block b (Nat.lt_of_lt_of_le hb hS'.size) (fun e=>by
  rcases e with e | e | e
  ·exact hdis b e ((hS'.is b).2 (.inl hb))
  ·have:=hS.lo;omega
  ·omega)).trans (hS'.old b hb))
 have HND:=Hd (show ¬ D b1∧¬ D wb∧¬ D pc from⟨fun h=>hdis _ h ((hS'.is _).2 (.inr (.inl rfl))),fun h=>hdis _ h ((hS'.is _).2 (.inr (.inr (.inl rfl)))),fun h=>hdis _ h ((hS'.is _).2 (.inr (.inr (.inr rfl))))⟩);have HLT:=Hd (show b1 < W.heap.size∧wb < W.heap.size∧pc < W.heap.size from⟨hS'.cap.lt,Blk.lt hS'.way,hS'.path.lt⟩);have HOW:=Hd (show O wb from(hS'.is _).2 (.inr (.inr (.inl rfl))));have Q1:=Hd (hS'.cap.cell (i:=0) (v:=.pointer (some ⟨wb,0,none⟩)) (by rfl));have QR:=Hd (jbn.root' hS'.way);have HFI:=Hd (fun w hB hW=>jlB { w with heap:=W0.heap } w wb root v nodes vs rest okf p0 hB hW hp hps hvs);have HY:=Hd hY;have HC:=Hd hC;have HCX:=Hd hCx;have H0:=Hd h0;have HS:=Hd hS';have HNE:=Hd hne
 obtain⟨N,hN⟩:∃ N,N=vs.length:=⟨_,rfl⟩
 have HN:=Hd hN;rw[←hN]at HY;clear hY hC hCx h0 hS' hdis hS hne hp hps hvs;rw[←hN];have HN1:=Hd (show ¬(b1=wb∨W.heap.size≤b1)from fun e=>by have:=HNE.o;have:=HLT.o;omega);clear hN;refine callsIn_of_wp Tryz.func199 rfl trivial ?_ rfl;simp only[Tryz.ntmps199,List.size_toArray,List.length_cons,List.length_nil,Nat.reduceAdd,Nat.reduceSub,Array.replicate_succ,Array.replicate_zero,List.push_toArray,List.append_toArray,List.nil_append,List.cons_append];gi_wp2_with fail
 refine wpIn_wide.2 (wp_mono (Q:=fun e a' w'=>e=.normal∧∃ (L:Nat) (m:jac) (okb:Bool),a'=jpk y b1 pc wb root L m okb∧jqT W w' wb root v nodes vs rest okf p0 L m okb) (jel [5,9,10] Ext (DrW wb W.heap.size) ExtR ExtT (DrW.trans wb W.heap.size) (DrW.ext wb W.heap.size) (by kernel_rfl) (by kernel_rfl) 12 (by kernel_rfl) ?_) ?_);refine jgk (k:=0) ⟨b1,0,none⟩ (.pointer (some ⟨wb,0,none⟩)) rfl (by kernel_rfl) rfl rfl (fun w1 h1=>jaa Tryz.underlying264 rfl (jaD (by exact Q1.o) h1.1 HN1.o)) ?_;simp only[Act.put,sA,sB,sC];refine jgk (k:=1) ⟨b1,0,none⟩ (.pointer (some ⟨wb,0,none⟩)) rfl (by kernel_rfl) rfl rfl (fun w1 h1=>jaa Tryz.underlying264 rfl (jaD (by exact Q1.o) h1.1 HN1.o)) ?_;simp only[Act.put,sA,sB,sC];refine jfM (k:=2) _ (.pointer (some ⟨wb,0,none⟩)) rfl (by kernel_rfl) rfl (fun w1 _=>by kernel_rfl) ?_;simp only[Act.put,sA,sB,sC];refine ja0 (k:=3) _ rfl (by kernel_rfl) rfl rfl (fun K hK=>?_);go_big_quiet_op;refine hK _ ?_;clear hK K;refine jgk (k:=4) ⟨wb,0,none⟩ (.string root) rfl (by kernel_rfl) rfl rfl (fun w1 h1=>jaa Tryz.underlying9 rfl (h1.2 _ (by exact QR.o))) ?_;simp only[Act.put,sA,sB,sC];refine jhG 5 9 _ _ (by kernel_rfl) rfl rfl rfl rfl (fun w2 h2 K hK=>?_) (fun w2 h2 K hK=>?_)
 ·-- take first
  have h02:=(jas W).trans h2;refine jd1 (jau Tryz.enterTake (by kernel_rfl)) ((HFI.o w2 (HPB.o w2 (ExtK h02)) (Blk.keeps HS.o.way h02 (fun h=>h))).mono ?_);rintro e w3 ⟨m,okb,rfl,hF⟩
  refine⟨_,rfl,hK _ _ ⟨hF.kp.mono (fun _ _ h=>.inl h),fun rt e=>?_⟩ ?_⟩
  ·have hr:=jbn.root' (Blk.keeps HS.o.way h02 (fun h=>h))
   rw[hr]at e;rw[hF.rt];exact e
  clear hK K;have HF:=Hd hF;have HX:=Hd h02;clear hF h02 h2;simp only[Act.put,sA,sB,sC];refine ja0 (k:=6) _ rfl (by kernel_rfl) rfl rfl (fun K hK=>?_);go_big_quiet_op;refine hK _ ?_;clear hK K;refine ja0 (k:=7) _ rfl (by kernel_rfl) rfl rfl (fun K hK=>?_);go_big_quiet_op;refine hK _ ?_;clear hK K;refine ja0 (k:=8) _ rfl (by kernel_rfl) rfl rfl (fun K hK=>?_);go_big_quiet_op;refine hK _ ?_;clear hK K;refine jbR (k:=9) _ rfl (by kernel_rfl) rfl (fun w4 h4 K hK=>?_);refine jfq Tryz.allocNode rfl ?_;intro W5 hB5 hE5;refine hK _ _ (DrW.ext _ _ _ _ hE5) ?_;clear hK K;simp only[Act.put,sA,sB,sC];refine jbR (k:=10) _ rfl (by kernel_rfl) rfl (fun w6 h6 K hK=>?_);refine jcw (vs:=m.cells) rfl rfl rfl (hB5.keeps h6 (fun h=>h)) (by rw[m.cells_len HF.o.len];rfl) (by rw[m.cells_len HF.o.len];exact Tryz.szNode) m.one ?_;intro W7 hB7 hE7;have h34:Ext w3 w4:=h4;have hz3:W.heap.size≤w3.heap.size:=Nat.le_trans HX.o.size HF.o.kp.size;have hz4:=h34.size;refine hK _ _ ⟨hE7.mono (fun x hx e=>by have e:x=w4.heap.size:=e;exact .inr (by omega)),fun rt e=>jaD e hE7 (fun e=>by have e:wb=w4.heap.size:=e;have:=HLT.o;omega)⟩ ?_;clear hK K;simp only[Act.put,sA,sB,sC];refine ja0 (k:=11) _ rfl (by kernel_rfl) rfl rfl (fun K hK=>?_);go_big_quiet_op;refine hK _ ?_;clear hK K;refine jeN (by kernel_rfl) (fun w8 h8=>?_);have h37:Ext w3 W7:=((h34.trans hE5).trans h6).trans' hE7 (fun x hx e=>by have e:x=w4.heap.size:=e;omega);have h38:=h37.trans h8;have hvar:=hB7.keeps h8 (fun h=>h)
  obtain⟨L,hL⟩:∃ L,L=w4.heap.size:=⟨_,rfl⟩
  rw[←hL]at hvar hz4 ⊢
  refine⟨trivial,L,m,okb,rfl,⟨HF.o.len,((ExtK HX.o:jag (fun b=>b=wb) W w2).trans HF.o.kp).trans (ExtK h38),by omega,hvar,?_⟩⟩
  have hz2:=HX.o.size;rcases HF.o.on with⟨e,u,f,d,hG⟩ |⟨e,e1,e2,u,eb,ek,hz,hW,hBe⟩
  ·exact .inl ⟨e,u,f,d,⟨Blk.keeps hG.way h38 (fun h=>h),hG.run,hG.lt,hG.fuel,hG.valid,hG.size,hG.good,hG.le⟩⟩
  ·exact .inr ⟨e,e1,e2,u,eb,ek,by omega,Blk.keeps hW h38 (fun h=>h),hBe.keeps h38 (fun h=>h)⟩
 ·-- the variable first
  have h02:=(jas W).trans h2;refine jfq Tryz.allocNode rfl ?_;intro W5 hB5 hE5;refine hK _ _ (DrW.ext _ _ _ _ hE5) ?_;clear hK K;simp only[Act.put,sA,sB,sC];refine jbR (k:=5) _ rfl (by kernel_rfl) rfl (fun w2' h2' K hK=>?_);have h02':=(h02.trans hE5).trans h2';have hL2:w2.heap.size < w2'.heap.size:=Nat.lt_of_lt_of_le hB5.lt h2'.size;have hz2:=h02.size;have hvar2:=hB5.keeps h2' (fun h=>h)
  obtain⟨L,hL⟩:∃ L,L=w2.heap.size:=⟨_,rfl⟩
  rw[←hL]at hvar2 hL2 hz2 ⊢;clear hL hB5 hE5 h2 h2' h02 W5;refine jd1 (jau Tryz.enterTake (by kernel_rfl)) ((HFI.o w2' (HPB.o w2' (ExtK h02')) (Blk.keeps HS.o.way h02' (fun h=>h))).mono ?_);rintro e w3 ⟨m,okb,rfl,hF⟩
  refine⟨_,rfl,hK _ _ ⟨hF.kp.mono (fun _ _ h=>.inl h),fun rt e=>?_⟩ ?_⟩
  ·have hr:=jbn.root' (Blk.keeps HS.o.way h02' (fun h=>h))
   rw[hr]at e;rw[hF.rt];exact e
  clear hK K;have HF:=Hd hF;have HX:=Hd h02';have HL2:=Hd (And.intro hL2 hz2);have hvar3:=hvar2.keeps hF.kp (fun e=>by have e:L=wb:=e;have:=HLT.o;omega);clear hF h02' hvar2;simp only[Act.put,sA,sB,sC];refine ja0 (k:=6) _ rfl (by kernel_rfl) rfl rfl (fun K hK=>?_);go_big_quiet_op;refine hK _ ?_;clear hK K;refine ja0 (k:=7) _ rfl (by kernel_rfl) rfl rfl (fun K hK=>?_);go_big_quiet_op;refine hK _ ?_;clear hK K;refine ja0 (k:=8) _ rfl (by kernel_rfl) rfl rfl (fun K hK=>?_);go_big_quiet_op;refine hK _ ?_;clear hK K;refine jbR (k:=10) _ rfl (by kernel_rfl) rfl (fun w6 h6 K hK=>?_);refine jcw (vs:=m.cells) rfl rfl rfl (hvar3.keeps h6 (fun h=>h)) (by rw[m.cells_len HF.o.len];rfl) (by rw[m.cells_len HF.o.len];exact Tryz.szNode) m.one ?_;intro W7 hB7 hE7;refine hK _ _ ⟨hE7.mono (fun x hx e=>by have e:x=L:=e;exact .inr (by omega)),fun rt e=>jaD e hE7 (fun e=>by have e:wb=L:=e;have:=HLT.o;omega)⟩ ?_;clear hK K;simp only[Act.put,sA,sB,sC];refine ja0 (k:=11) _ rfl (by kernel_rfl) rfl rfl (fun K hK=>?_);go_big_quiet_op;refine hK _ ?_;clear hK K;refine jeN (by kernel_rfl) (fun w8 h8=>?_);have hvar:=hB7.keeps h8 (fun h=>h);have h36:Ext w3 w6:=h6;have k38:jag (fun b=>b=L) w3 w8:=((ExtK h36:jag (fun b=>b=L) w3 w6).trans hE7).trans (ExtK h8);have hwb:=HLT.o
  refine⟨trivial,L,m,okb,rfl,⟨HF.o.len,((ExtK HX.o:jag (fun b=>b=wb) W w2').trans HF.o.kp).trans' k38 (fun x hx e=>by have e:x=L:=e;omega),hz2,hvar,?_⟩⟩
  rcases HF.o.on with⟨e,u,f,d,hG⟩ |⟨e,e1,e2,u,eb,ek,hz,hW,hBe⟩
  ·exact .inl ⟨e,u,f,d,⟨Blk.keeps hG.way k38 (by omega),hG.run,hG.lt,hG.fuel,hG.valid,hG.size,hG.good,hG.le⟩⟩
  ·exact .inr ⟨e,e1,e2,u,eb,ek,by omega,Blk.keeps hW k38 (by omega),hBe.keeps k38 (by omega)⟩
 rintro e a8 w8 ⟨rfl,L,m,okb,rfl,hF⟩;have HF:=Hd hF;have HL:=Hd (m.cells_len hF.len);clear hF;unfold jpk;gi_wp2_with fail
 gi_loopw [5] (fun okv wr=>jsb W wb b1 pc L root v nodes vs rest okf C D okv wr) (fun okv wr=>mtM pc okv wr)
 case atStart =>
  have hF:=HF.o;have hDlt:=(HC.o 0).lt _ _ H0.o
  refine⟨0,D,p0,m,⟨(HC.o 0).keeps H0.o hF.kp (fun b hb e=>HND.o.2.1 (e ▸ hb)),fun b h=>.inl h,hF.kp.mono (fun b _ e=>.inr (.inl e)),HS.o.path.keeps hF.kp (fun e=>HNE.o.2.2.2.2 e.symm),hF.var,fun h=>by have:=hDlt L h;have:=hF.new;omega,hF.len⟩,?_⟩
  rcases hF.on with⟨rfl,hG⟩ |⟨rfl,e1,e2,u,eb,ek,hz,hW,hBe⟩
  ·exact .inl ⟨rfl,hG⟩
  ·exact .inr ⟨rfl,e1,e2,u,eb,ek,fun h=>by have:=hDlt eb h;omega,hz,hW,hBe⟩
 case round =>
  obtain⟨k,Dk,p,n,hR,hc⟩:=hrel
  have HR:=Hd hR;have hwD:¬ Dk wb:=fun h=>by
   rcases hR.sub wb h with h | h
   ·exact HND.o.2.1 h
   ·have:=HLT.o;omega
  have hpD:¬ Dk pc:=fun h=>by
   rcases hR.sub pc h with h | h
   ·exact HND.o.2.2 h
   ·have:=HLT.o;omega
  have hbD:¬ Dk b1:=fun h=>by
   rcases hR.sub b1 h with h | h
   ·exact HND.o.1 h
   ·have:=HLT.o;omega
  have HDK:=Hd (And.intro hwD (And.intro hpD hbD));rcases hc with⟨rfl,u,f,d,hG⟩ |⟨rfl,hk,hok,u,eb,ek,hDe,hz,hW,hBe⟩
  case inr =>
   have HFI2:Hid (jhm W (fun b=>b=wb∨b=pc) D O N C Cx (MetE wb root v nodes rest okf) (.returned (.tuple #[])) wr):=Hd ⟨⟨_,rfl⟩,Dk,fun b=>b=wb∨b=eb,hR.kp,hR.sub,fun b h=>by
     rcases h with rfl | rfl
     ·exact .inl HOW.o
     ·exact .inr hz,fun b hb h=>by
     rcases h with rfl | rfl
     ·exact hwD hb
     ·exact hDe hb,.inl ⟨by rw[HN.o, ←hk];exact hR.at',fun b h=>by
     rcases h with rfl | rfl
     ·exact Blk.lt hW
     ·exact hBe.lt,.inl rfl,u,_,hW,.inr ⟨hok,eb,ek,.inr rfl,rfl,hBe⟩⟩⟩
   clear hk hok hDe hz hW hBe hR hwD hpD hbD;gi_wp2_with (refine wpListIn_skip rfl rfl ?_)
   refine bodyPost_end (results_none rfl _ _ _) rfl ?_;exact HFI2.o
  case inl =>
   have hlt:=hG.lt
   obtain⟨tl,htl⟩:∃ tl,vs.drop k=(n,p) :: tl:=by
    obtain⟨t,ht⟩:=jkG f (nodes.drop u) n p
    rw[hG.run]at ht;exact⟨t,ht⟩
   obtain⟨_,hat,_,hlen⟩:=jc7 (d:=(jav,⟨#[]⟩)) htl
   have hat:atV vs k=(n,p):=hat;have HG:=Hd hG;have HTL:=Hd (And.intro htl hlen)
   obtain⟨fn,tm,asg,bd,hyr,hrd⟩:=HY.o k Dk wr (by rw[HN.o];exact hlt) hR.at' hR.kp
   unfold meV at hyr;rw[hat]at hyr;dsimp only at hyr;have HRD:=Hd hrd;have p0':=hR.path.cell (i:=0) (v:=.string p) (by rfl)
   obtain⟨⟨r,q⟩,hrq⟩:∃ rq,rq=jbD n p:=⟨_,rfl⟩
   have HST:=Hd (fun w=>jrX w d n hG.good p hG.valid hG.size);rw[←hrq]at HST;have HRQ:=Hd hrq;clear hrd hlt htl hlen hat hG hR hwD hpD hbD hrq;gi_wp2_with (refine jd0 144 (.tmp 4) rfl rfl _ _ rfl (jap _ _ n HR.o.len HR.o.var) ?_)
   refine⟨rfl,HRD.o.mono ?_⟩
   rintro e w5 ⟨D5,k5,s5,hcase⟩;rcases hcase with⟨rfl,C5⟩ |⟨rfl,C5⟩
   case inr=>exact (HCX.o _ _ _ C5).elim
   have hv5:=HR.o.var.keeps k5 HR.o.nL;have pb5:=HR.o.path.keeps k5 HDK.o.2.1;have wy5:jbn w5 wb root v u .nilIface:=Blk.keeps HG.o.way k5 HDK.o.1;have cp5:=(HS.o.cap.keeps HR.o.kp (fun e=>by
    rcases e with e | e | e
    ·exact HND.o.1 e
    ·exact HNE.o.2.2.1 e
    ·exact HNE.o.2.2.2.1 e)).keeps k5 HDK.o.2.2
   have p5:=pb5.cell (i:=0) (v:=.string p) (by rfl);have HK5:=Hd (And.intro k5 s5);have HC5:=Hd C5;have HPB5:=Hd pb5;have HWY5:=Hd wy5;have HCP5:=Hd cp5;have hv5':=hv5;have HV5:=Hd hv5';clear k5 s5 C5 p0' hyr pb5 wy5 cp5 hv5';gi_wp2_with (refine jaZ rfl 144 (.tmp 4) rfl _ _ rfl (jap _ _ n HR.o.len hv5) ?_)
   refine⟨trivial,rfl,CallsIn.mono (callsIn_wide.2 (HST.o w5)) ?_⟩
   rintro e w6 ⟨rfl,hE6⟩;have HE6:=Hd hE6;clear hE6 hv5;have kp6:jag (fun b=>D b∨b=wb∨b=pc) W w6:=(HR.o.kp.trans' HK5.o.1 (fun b hb h=>by
    rcases HR.o.sub b h with h | h
    ·exact .inl h
    ·omega)).trans' HE6.o (fun _ _ h=>h.elim)
   have sub5:∀ b,D5 b→D b∨W.heap.size≤b:=fun b hb=>by
    rcases HK5.o.2 b hb with h | h
    ·exact HR.o.sub b h
    ·have:=HR.o.kp.size;exact .inr (by omega)
   have hwl:∀ b,b < W.heap.size→¬ D b→¬ D5 b:=fun b hb hD h=>by
    rcases sub5 b h with h | h
    ·exact hD h
    ·omega
   have HK6:=Hd (And.intro kp6 (And.intro sub5 hwl));clear kp6 sub5 hwl
   by_cases hr:r.size=0
   ·obtain rfl:=jbE hr
    have hem:(⟨#[]⟩:ByteArray).toList.isEmpty=true:=by rw[ByteArray.toList_eq];rfl
    have HFI2:Hid (jhm W (fun b=>b=wb∨b=pc) D O N C Cx (MetE wb root v nodes rest okf) (.returned (.tuple #[])) w6):=by
     have hG:=HG.o;rcases jkE W hG.good hG.valid hG.fuel HRQ.o.symm hG.run with⟨_,e⟩ |⟨h,_⟩
     case inr=>exact absurd hr h
     obtain⟨e1,e2⟩:=Prod.mk.inj e
     obtain⟨e3,e4⟩:=Prod.mk.inj e2
     have hln:vs.length=k+1:=by
      obtain⟨_,_,_,h4⟩:=jc7 (d:=(n,p)) e1
      simpa using h4
     have hle:=hG.le;exact Hd ⟨⟨_,rfl⟩,D5,fun b=>b=wb,HK6.o.1,HK6.o.2.1,fun b h=>by subst h;exact .inl HOW.o,fun b hb h=>by subst h;exact HK6.o.2.2 _ HLT.o.2.1 HND.o.2.1 hb,
      .inl ⟨by rw[HN.o,hln];exact (HC.o (k+1)).keeps HC5.o HE6.o (fun _ _ h=>h),fun b h=>by subst h;exact Nat.lt_of_lt_of_le (Blk.lt HWY5.o) HE6.o.size,rfl,u,.nilIface,Blk.keeps HWY5.o HE6.o (fun h=>h),.inl ⟨e4,rfl,by rw[e3,List.length_drop];omega⟩⟩⟩
    clear hr;gi_wp2;refine bodyPost_ret (results_none rfl _ _ _) rfl ?_;exact HFI2.o
   ·have hne:r.toList.isEmpty=false:=by
     rw[Bool.eq_false_iff];intro e;rw[List.isEmpty_iff,ByteArray.toList_eq]at e;exact hr (by rw[←jbb,e];rfl)
    have pb6:=HPB5.o.keeps HE6.o (fun h=>h);have p6:=pb6.cell (i:=0) (v:=.string p) (by rfl);have f6:w6.frozen? ⟨pc,0,none⟩=false:=pb6.frozen;have pb7:=pb6.set_same (i:=0) (.string q);have cp7:=(HCP5.o.keeps HE6.o (fun h=>h)).set_other (p:=⟨pc,0,none⟩) (show b1≠pc from HNE.o.2.2.2.1) (.string q);have q7:=cp7.cell (i:=0) (v:=.pointer (some ⟨wb,0,none⟩)) (by rfl);have ks7:jag (fun b=>b=pc) w6 (w6.setCell ⟨pc,0,none⟩ (.string q)):=jag.oneSet w6 ⟨pc,0,none⟩ (.string q);have wy7:jbn (w6.setCell ⟨pc,0,none⟩ (.string q)) wb root v u .nilIface:=Blk.keeps (Blk.keeps HWY5.o HE6.o (fun h=>h)) ks7 (fun e=>HNE.o.2.2.2.2 e);have hv7:=(HV5.o.keeps HE6.o (fun h=>h)).keeps ks7 (fun e=>by
     have e:L=pc:=e
     have:=HF.o.new;have:=HLT.o;omega)
    have kp7:jag (fun b=>D b∨b=wb∨b=pc) W (w6.setCell ⟨pc,0,none⟩ (.string q)):=HK6.o.1.trans' ks7 (fun b _ e=>.inr (.inr e));have hG:=HG.o;have hfo:=jjd _ (w6.setCell ⟨pc,0,none⟩ (.string q)) wb pc L root v nodes vs rest okf k u f d p r q n (HPB.o _ kp7) ⟨wy7,hG.run,hG.lt,hG.fuel,hG.valid,hG.size,hG.good,hG.le⟩ HRQ.o.symm hr;have HFO:=Hd hfo;have HW7:=Hd (And.intro pb7 (And.intro hv7 (And.intro kp7 ks7)));clear hr pb6 pb7 cp7 ks7 wy7 hv7 kp7 hG hfo;gi_wp2_with fail
    refine⟨trivial,rfl,CallsIn.mono (callsIn_wide.2 HFO.o) ?_⟩
    rintro e w8 ⟨m',okb',rfl,hN⟩;have HNX:=Hd hN;have hB8:=HW7.o.2.1.keeps hN.kp (fun e=>by have e:L=wb:=e;have:=HF.o.new;have:=HLT.o;omega);have HLM:=Hd (m'.cells_len hN.len);have HLN:=Hd (n.cells_len HR.o.len);clear hN;gi_wp2_with (refine jek (vs:=m'.cells) rfl rfl rfl rfl hB8 (by rw[HLM.o,HLN.o]) (by rw[HLM.o];exact Tryz.szNode) m'.one ?_;intro W9 hB9 hE9)
    have hLw:W.heap.size≤L:=HF.o.new;have hlts:=HLT.o;have k89:jag (fun b=>b=wb) (w6.setCell ⟨pc,0,none⟩ (.string q)) w8:=HNX.o.kp;have hL6:L < w6.heap.size:=Nat.lt_of_lt_of_le HV5.o.lt HE6.o.size;have pb9:Blk W9 pc (.cells #[.string q] 9):=(HW7.o.1.keeps k89 (fun e=>HNE.o.2.2.2.2 e.symm)).keeps hE9 (fun e=>by have e:pc=L:=e;omega);have hD5:=(HC.o (k+1)).lt _ _ HC5.o;have hc9:C (k+1) D5 W9:=(HC.o (k+1)).keeps ((HC.o (k+1)).keeps ((HC.o (k+1)).keeps ((HC.o (k+1)).keeps HC5.o HE6.o (fun _ _ h=>h)) HW7.o.2.2.2 (fun b hb e=>by subst e;exact HK6.o.2.2 _ hlts.2.2 HND.o.2.2 hb)) k89 (fun b hb e=>by subst e;exact HK6.o.2.2 _ hlts.2.1 HND.o.2.1 hb)) hE9 (fun b hb e=>by
     subst e;rcases HK5.o.2 _ hb with h | h
     ·exact HR.o.nL h
     ·have:=HR.o.var.lt;omega)
    have hz67:w6.heap.size≤(w6.setCell ⟨pc,0,none⟩ (.string q)).heap.size:=HW7.o.2.2.2.size;have hz65:=HE6.o.size;have hz8:=k89.size;constructor
    ·refine⟨k+1,D5,q,m',⟨hc9,HK6.o.2.1,(HW7.o.2.2.1.trans' k89 (fun b _ e=>.inr (.inl e))).trans' hE9 (fun b hb e=>by have e:b=L:=e;omega),pb9,hB9,fun h=>?_,HNX.o.len⟩,?_⟩
     ·rcases HK5.o.2 L h with h | h
      ·exact HR.o.nL h
      ·have:=HR.o.var.lt;have:=HK5.o.1.size;omega
     ·rcases HNX.o.on with⟨rfl,u',f',d',hG⟩ |⟨rfl,e1,e2,u',eb,ek,hz,hW,hBe⟩
      ·exact .inl ⟨rfl,u',f',d',Blk.keeps hG.way hE9 (fun e=>by have e:wb=L:=e;omega),hG.run,hG.lt,hG.fuel,hG.valid,hG.size,hG.good,hG.le⟩
      ·have hsz:=HW7.o.2.2.1.size
       exact .inr ⟨rfl,e1,e2,u',eb,ek,fun h=>by have:=hD5 eb h;omega,by omega,Blk.keeps hW hE9 (fun e=>by have e:wb=L:=e;omega),hBe.keeps hE9 (fun e=>by have e:eb=L:=e;omega)⟩
    ·have hpr:=HR.o.path.cell (i:=0) (v:=.string p) (by rfl)
     have hp9:=pb9.cell (i:=0) (v:=.string q) (by rfl);have hG:=HG.o;have hqp:q.size < p.size:=by
      rcases jkE W hG.good hG.valid hG.fuel HRQ.o.symm hG.run with⟨h,_⟩ |⟨_,g,_,_,h,_⟩
      ·exfalso
       rw[jbE h]at hne;rw[ByteArray.toList_eq]at hne;cases hne
      ·exact h
     unfold mtM;rw[hpr,hp9];cases okb' with
     | true=>show jfB (.string q)+1 < jfB (.string p)+1;simp only[jfB];omega
     | false=>show 0 < jfB (.string p)+1;omega
end
section
open Go Go.RowKit
theorem Tryz.noIsW(v:Value)(xT:TypeId)(w:World):(Instr.typeAssert (.iface 211 v) xT 271 true).run Tryz.prog w=.ok (.tuple #[.nilIface,.bool false]) w:=run_typeAssert_lacksB Tryz.underlying271 (by kernel_rfl) (by kernel_rfl) v xT w
theorem Tryz.hasUnwrapW(v:Value)(xT:TypeId)(w:World):(Instr.typeAssert (.iface 211 v) xT 274 true).run Tryz.prog w=.ok (.tuple #[.iface 211 v,.bool true]) w:=run_typeAssert_hasB Tryz.underlying274 (by kernel_rfl) v xT w
theorem Tryz.methodUnwrapW(n:Nat)(v:Value)(w:World):(Go.method (n+1) 211 v "Unwrap").run Tryz.prog w=.ok (293,v) w:=by kernel_rfl
theorem jnG(w:World)(b:Nat)(k:Int)(c:Value)(hB:Blk w b (.cells #[.int .i64 k,c] 213)):Calls Tryz.prog 293 #[.pointer (some ⟨b,0,none⟩)] w fun e w'=>e=.returned c∧w=w':=by
 have q1:=hB.cell (i:=1) (v:=c) (by rfl);clear hB;go_enter Tryz.func293,Tryz.ntmps293;go_wp2_with fail
 go_ret
 exact⟨rfl,rfl⟩
theorem jrw(w:World)(b:Nat)(k:Int)(hB:Blk w b (.cells #[.int .i64 k,prfE] 213)):Calls Tryz.prog 155 #[.iface 211 (.pointer (some ⟨b,0,none⟩)),prfE,.bool true] w fun e w'=>e=.returned (.bool true)∧w=w':=by
 have HB:=Hd hB;clear hB;have hq3:=fun w=>run_eql_iface_types (P:=Tryz.prog) 211 27 (.pointer (some ⟨b,0,none⟩)) (.int .i64 10) Tryz.underlying162 (by decide) w;have hq4:∀ w,(binOp .eql 162 prfE prfE).run Tryz.prog w=.ok (.bool true) w:=fun w=>by kernel_rfl
 have hq5:∀ w,(binOp .eql 162 prfE .nilIface).run Tryz.prog w=.ok (.bool false) w:=fun w=>by kernel_rfl
 unfold prfE at *;have n1:=Tryz.noIsW;have n2:=Tryz.hasUnwrapW;have n3:=Tryz.methodUnwrapW 487;go_enter Tryz.func155,Tryz.ntmps155;go_wp2_with fail
 refine wp_loop_rounds 2 ?_;rw[rounds_succ];go_wp2_with fail
 refine (jnG w b k _ HB.o).mono ?_;rintro e w1 ⟨rfl,rfl⟩;go_wp2_with fail
 rw[rounds_succ];go_wp2_with fail
 go_ret
 exact⟨rfl,rfl⟩
theorem jou(w:World)(b:Nat)(k:Int)(hB:Blk w b (.cells #[.int .i64 k,prfE] 213)):Calls Tryz.prog 107 #[.iface 211 (.pointer (some ⟨b,0,none⟩)),prfE] w fun e w'=>e=.returned (.bool true)∧w=w':=by
 have HB:=Hd (jrw w b k hB);clear hB;have hq1:∀ w,(binOp .eql 162 (.iface 211 (.pointer (some ⟨b,0,none⟩))) .nilIface).run Tryz.prog w=.ok (.bool false) w:=fun w=>by kernel_rfl
 have hq2:∀ w,(binOp .eql 162 prfE .nilIface).run Tryz.prog w=.ok (.bool false) w:=fun w=>by kernel_rfl
 unfold prfE at *;have h8:∀ w,(callFunc 154 #[.iface 27 (.int .i64 10)]).run Tryz.prog w=.ok (.value (.iface 269 (.agg #[.pointer (some ⟨3,27,none⟩)]))) w:=fun w=>by kernel_rfl
 have h32:∀ w,(callFunc 296 #[.agg #[.pointer (some ⟨3,27,none⟩)]]).run Tryz.prog w=.ok (.value (.bool true)) w:=fun w=>by kernel_rfl
 have mR:=Tryz.isMethodComparable 487;go_enter Tryz.func107,Tryz.ntmps107;go_wp2_with fail
 refine HB.o.mono ?_;rintro e w1 ⟨rfl,rfl⟩;go_wp2_with fail
 go_ret
 exact⟨rfl,rfl⟩
theorem jqb(w:World):Calls Tryz.prog 107 #[.nilIface,prfE] w fun e w'=>e=.returned (.bool false)∧w=w':=by
 have hq1:∀ w,(binOp .eql 162 .nilIface .nilIface).run Tryz.prog w=.ok (.bool true) w:=fun w=>by kernel_rfl
 have hq2:∀ w,(binOp .eql 162 .nilIface prfE).run Tryz.prog w=.ok (.bool false) w:=fun w=>by kernel_rfl
 unfold prfE at *;go_enter Tryz.func107,Tryz.ntmps107;go_wp2_with fail
 go_ret
 exact⟨rfl,rfl⟩
end
section
open Go Go.RowKit
attribute [local go_sem] Oper.semAt_some
theorem jkF(w:World):∀ (f:Nat) (ts:List ByteArray) (n:jac) (p:ByteArray) (d:Nat),jbj (InlD d) n→jaA p=true→p.size≤f→∀ x∈(runN f ts n p).1,∃ d,jbj (InlD d) x.1
 | f,ts,n,p,d,hg,hp,hf,x,hx=>by
  obtain⟨⟨r,q⟩,hs⟩:∃ rq,jbD n p=rq:=⟨_,rfl⟩
  have one:x∈[(n,p)]→∃ d,jbj (InlD d) x.1:=fun h=>by
   obtain rfl:=List.mem_singleton.1 h
   exact⟨d,hg⟩
  rcases jkE w hg hp hf hs (rfl:runN f ts n p=runN f ts n p)with⟨_,e⟩ |⟨_,g,rfl,h1,h2,h3,h⟩
  ·rw[e]at hx;exact one hx
  ·have more:∀ ts' m d',jbj (InlD d') m→x∈(n,p) ::(runN g ts' m q).1→∃ d,jbj (InlD d) x.1:=fun ts' m d' hm h=>by
    rcases List.mem_cons.1 h with h | h
    ·exact one (by rw[h];simp)
    ·exact jkF w g ts' m q d' hm h3 h1 x h
   rcases h with⟨d',m,rfl,hI,hgd,e⟩ |⟨hh,_,_,e⟩
   ·rw[e]at hx;exact more _ _ _ hgd hx
   ·cases ts with
    | nil=>rw[e]at hx;exact one hx
    | cons t ts =>
     rw[e]at hx;have hx:x∈(if shaB t=hh then (match getN t with
       | some m=>((n,p) ::(runN g ts m q).1,(runN g ts m q).2)
       | none=>([(n,p)],t :: ts,false))
      else ([(n,p)],t :: ts,false)).1:=hx
     by_cases he:shaB t=hh
     ·rw[if_pos he]at hx
      cases hgt:getN t with
      | none=>rw[hgt]at hx;exact one hx
      | some m =>
       rw[hgt]at hx
       obtain⟨d',hm⟩:=jeJ hgt
       exact more _ _ _ hm hx
     ·rw[if_neg he]at hx;exact one hx
theorem jkR(w:World){root p:ByteArray}{nodes:List ByteArray}{vs:List (jac × ByteArray)}{rest:List ByteArray}{okf:Bool}(h:proveN root p nodes=(vs,rest,okf))(hp:jaA p=true):∀ x∈vs,∃ d,jbj (InlD d) x.1:=by
 rcases jku h with⟨_,rfl,_⟩ |⟨m,h1,h2,_⟩
 ·intro x hx;cases hx
 ·obtain⟨d,hg⟩:=jeJ (show ∃ t,getN t=some m from by
   unfold takeN at h1;split at h1
   ·cases h1
   ·split at h1
    ·exact⟨_,h1⟩
    ·cases h1).choose_spec
  have:=jkF w p.size (nodes.drop 1) m p d hg hp (Nat.le_refl _)
  rw[h2]at this;exact this
theorem jlX{vs:List (jac × ByteArray)}{k:Nat}(h:k < vs.length):atV vs k∈vs:=by
 unfold atV;rw[List.getD_eq_getElem?_getD,List.getElem?_eq_getElem h];exact List.getElem_mem _
theorem jmL{vs:List (jac × ByteArray)}{k:Nat}(h:k < vs.length):jcy (vs.take (k+1))=jca (atV vs k).1 (atV vs k).2:=by
 unfold jcy atV;rw[List.take_add_one,List.getElem?_eq_getElem h,Option.toList_some,List.getLast?_concat,List.getD_eq_getElem?_getD,List.getElem?_eq_getElem h];rfl
def MetP(wb:Nat)(p:ByteArray)(W:World)(e:Ending)(w':World):Prop:=e=.returned (.func (.func 199) #[] #[.pointer (some ⟨W.heap.size,0,none⟩),.pointer (some ⟨W.heap.size+1,0,none⟩)])∧w'=(W.alloc (.cells #[.pointer (some ⟨wb,0,none⟩)] 264)).alloc (.cells #[.string p] 9)
theorem jsB(W:World)(wb:Nat)(p:ByteArray):Calls Tryz.prog 151 #[.pointer (some ⟨wb,0,none⟩),.string p] W (MetP wb p W):=by
 go_enter Tryz.func151,Tryz.ntmps151;go_wp2;go_ret
 exact⟨rfl,rfl⟩
theorem Tryz.allocWay:∀ w,(Instr.alloc 215 true (.tuple #[])).run Tryz.prog w=.ok (.pointer (some ⟨w.heap.size,0,none⟩)) (w.alloc (.cells [.string ⟨#[]⟩,.slice none 0 0,.int .i64 0,.nilIface].toArray 215)):=fun w=>by kernel_rfl
theorem Tryz.szWay:(Tryz.prog.info? 215).map (·.size)=some 4:=by kernel_rfl
theorem Tryz.enterMet1:∀ args w,(callFunc 199 args).run Tryz.prog w=.ok (.enter 199 args) w:=fun _ _=>by kernel_rfl
noncomputable def proveR(root key:ByteArray)(nodes:List ByteArray):Option ByteArray × Bool:=
 if 40 < nodes.length then (none,false)else (jcy (proveN root (jbe key) nodes).1,(proveN root (jbe key) nodes).2.2 && (proveN root (jbe key) nodes).2.1.isEmpty)
def jlJ(W:World)(r:Option ByteArray × Bool)(e:Ending)(w':World):Prop:=
 Ext W w'∧∃ ev,e=.returned (.tuple #[clmV r.1,ev])∧((r.2=true∧ev=.nilIface)∨(r.2=false∧∃ (b:Nat) (k:Int),ev=.iface 211 (.pointer (some ⟨b,0,none⟩))∧Blk w' b (.cells #[.int .i64 k,prfE] 213)))
theorem jlo(W:World)(root key:ByteArray)(a:Option Addr)(n c:Nat)(h:40 < n):Calls Tryz.prog 106 #[.string root,.string key,.slice a n c] W (jlJ W (none,false)):=by
 have c1:(40:Int) < (n:Int):=by omega
 go_enter Tryz.func106,Tryz.ntmps106;go_wp2_with (first |(refine jai Tryz.allocClaim rfl rfl ?_;intro W1 hB1 hE1;have hB2:=hB1.alloc (.cells #[.int .i64 40,prfE] 213)) |(refine jaf (old:=clmL none) (vs:=clmL none) rfl rfl rfl rfl hB2 rfl Tryz.szClaim (jbk _) ?_;intro W8 hB8 hE8))
 refine bodyPost_ret (jaj rfl rfl rfl (jaO hB8)) rfl ?_;have hz:=hE1.size;have hX:Ext W1 (W1.alloc (.cells #[.int .i64 40,prfE] 213)):=(ExtR W1).alloc _;have hlt:=hB1.lt
 exact⟨(hE1.trans hX).trans' hE8 (fun x hx e=>by have e:x=W.heap.size:=e;omega),_,rfl,.inr ⟨rfl,W1.heap.size,40,rfl,(Blk.new W1 _).keeps hE8 (fun e=>by have e:W1.heap.size=W.heap.size:=e;omega)⟩⟩
theorem jkw{W:World}{v:Value}{l:List ByteArray}(h:RdS W v l):∃ a c,v=.slice a l.length c:=by
 rcases h with⟨a,c,h1,h2⟩ |⟨b,o,c,h1,_⟩
 ·exact⟨a,c,by rw[h1,h2];rfl⟩
 ·exact⟨_,c,h1⟩
def jpl(W:World)(key root:ByteArray)(b1 wb pc cb:Nat)(a:Option Addr)(n c:Nat)(vs:List (jac × ByteArray))(k g:Nat):Act:=
 { tmps:=#[.string root,.string key,.slice a n c,undef,undef,undef,.pointer (some ⟨W.heap.size,0,none⟩),.nilIface,.pointer (some ⟨wb,0,none⟩),.pointer (some ⟨cb,0,none⟩),.pointer (some ⟨g,0,none⟩),.string (atV vs k).2,.slice a n c,.int .i64 (n:Int),.bool false,undef,undef,undef,undef,undef,.string root,.slice a n c,
   .agg #[.string root,.slice a n c,.int .i64 0,.nilIface],.string key,.string (jbe key),.func (.func 199) #[] #[.pointer (some ⟨b1,0,none⟩),.pointer (some ⟨pc,0,none⟩)],(atV vs k).1.V,.string (atV vs k).2,
   undef,undef,undef,undef,undef,undef,undef,undef,undef,undef,undef,undef,undef,undef,undef,undef,undef],defers:=[] }
theorem jbn.errc{W:World}{wb:Nat}{root:ByteArray}{v:Value}{u:Nat}{ev:Value}(h:jbn W wb root v u ev):W.cell? ⟨wb,3,none⟩=some ev:=Blk.cell (i:=3) h (by rfl)
structure ClC(cb:Nat)(vs:List (jac × ByteArray))(k:Nat)(D:BSet)(W:World):Prop where
 is:∀ b,D b↔b=cb
 blk:Blk W cb (.cells (clmL (jcy (vs.take k))).toArray 71)
theorem ClC.supp(cb:Nat)(vs:List (jac × ByteArray))(k:Nat):Supp (ClC cb vs k):=⟨fun D W h b hb=>by rw[(h.is b).1 hb];exact h.blk.lt,fun D W W' h hz hb=>⟨h.is,(hb cb ((h.is cb).2 rfl)).trans h.blk⟩⟩
theorem jjF(W:World)(hc:jbO W)(root key:ByteArray)(hk:key.size≤1000)(v:Value)(nodes:List ByteArray)(hv:RdS W v nodes)(hn:nodes.length≤40)(hG:jc5 W nodes)(vs:List (jac × ByteArray))(rest:List ByteArray)(okf:Bool)(hvs:proveN root (jbe key) nodes=(vs,rest,okf)) :
  Calls Tryz.prog 106 #[.string root,.string key,v] W (jlJ W (jcy vs,okf && rest.isEmpty)):=by
 obtain⟨a,c,hsl⟩:=jkw hv
 have HV:=Hd hv;have HC:=Hd hc;have HGA:=Hd hG;have HVS:=Hd hvs;have HK:=Hd hk;have HN:=Hd hn
 obtain⟨n,hn'⟩:∃ n,n=nodes.length:=⟨_,rfl⟩
 rw[←hn']at hsl hn;have HNN:=Hd hn';have c1:¬(40:Int) < (n:Int):=by omega
 have HSL:=Hd hsl;clear hv hc hG hvs hk hn hn';subst hsl;rw[←callsIn_wide (n:=0)];refine callsIn_of_wp_marks Tryz.func106 rfl trivial ?_ rfl;simp only[Tryz.ntmps106,List.size_toArray,List.length_cons,List.length_nil,Nat.reduceAdd,Nat.reduceSub,Array.replicate_succ,Array.replicate_zero,List.push_toArray,List.append_toArray,List.nil_append,List.cons_append];gi_wp2_with (first |(refine jdx Tryz.allocClaim rfl rfl ?_;have hB33:=hB3;intro W4 hB4 hE4) |(refine jdx Tryz.allocClaim rfl rfl ?_;intro W1 hB1 hE1) |(refine jdx Tryz.allocWay rfl rfl ?_;intro W2 hB2 hE2) |(refine jek (vs:=[.string root,.slice a n c,.int .i64 0,.nilIface]) rfl rfl rfl rfl hB2 rfl Tryz.szWay (by intro v hv;simp at hv;rcases hv with rfl | rfl | rfl | rfl <;> rfl) ?_;intro W3 hB3 hE3))
 have hX3:Ext W1 W3:=hE2.trans' hE3 (fun x hx e=>by have e:x=W1.heap.size:=e;omega);have hX4:=(hE1.trans hX3).trans hE4;have hz1:=hE1.size;have hz13:=hX3.size;have hlt1:=hB1.lt;have hlt3:=hB3.lt;have hB1':=(hB1.keeps hX3 (fun h=>h)).keeps hE4 (fun h=>h);have hB3':=hB3.keeps hE4 (fun h=>h)
 refine⟨trivial,rfl,CallsIn.mono (callsIn_wide.2 (jiO W4 key (by have:=HK.o;omega))) ?_⟩
 rintro e W5 ⟨rfl,hE5⟩;have hX5:=hX4.trans hE5;have HB1:=Hd (hB1'.keeps hE5 (fun h=>h));have HB3:=Hd (hB3'.keeps hE5 (fun h=>h));have HB4:=Hd (hB4.keeps hE5 (fun h=>h));have HX5:=Hd hX5;have hz35:W3.heap.size < W5.heap.size:=Nat.lt_of_lt_of_le hB4.lt hE5.size;have HZ:=Hd (show W.heap.size < W1.heap.size∧W1.heap.size < W3.heap.size∧W3.heap.size < W5.heap.size from⟨by omega,by omega,hz35⟩)
 obtain⟨wb,hwb⟩:∃ wb,wb=W1.heap.size:=⟨_,rfl⟩
 obtain⟨cb,hcb⟩:∃ cb,cb=W3.heap.size:=⟨_,rfl⟩
 rw[←hwb, ←hcb]at HZ;rw[←hwb]at HB3;rw[←hcb]at HB4;rw[←hwb, ←hcb];clear hB1 hE1 hB2 hE2 hB3 hE3 hB33 hB4 hE4 hX3 hX4 hz1 hz13 hlt1 hlt3 hB1' hB3' hE5 hX5 hz35 hwb hcb;gi_wp2_with fail
 refine⟨trivial,rfl,CallsIn.mono (callsIn_wide.2 (jsB W5 wb (jbe key))) ?_⟩
 rintro e W6 ⟨rfl,hW6⟩;have hX6:Ext W5 W6:=by rw[hW6];exact ((ExtR W5).alloc _).trans ((ExtR _).alloc _)
 have hc6:Blk W6 W5.heap.size (.cells #[.pointer (some ⟨wb,0,none⟩)] 264):=by rw[hW6];exact (Blk.new W5 _).alloc _
 have hp6:Blk W6 (W5.heap.size+1) (.cells #[.string (jbe key)] 9):=by
  rw[hW6];have:=Blk.new (W5.alloc (.cells #[.pointer (some ⟨wb,0,none⟩)] 264)) (.cells #[.string (jbe key)] 9);rwa [World.size_alloc]at this
 have hz6:W6.heap.size=W5.heap.size+2:=by rw[hW6];simp
 clear hW6
 obtain⟨b1,hb1⟩:∃ b1,b1=W5.heap.size:=⟨_,rfl⟩
 obtain⟨pc,hpc⟩:∃ pc,pc=W5.heap.size+1:=⟨_,rfl⟩
 have HZ2:=Hd (show b1=W5.heap.size∧pc=b1+1∧W6.heap.size=b1+2 from⟨hb1,by omega,by omega⟩);rw[←hb1]at hc6;rw[←hpc]at hp6;rw[←hb1];rw[←hb1]at hpc;rw[←hpc];have HX6:=Hd (HX5.o.trans hX6);have HB1':=Hd (HB1.o.keeps hX6 (fun h=>h));have hB3:=HB3.o.keeps hX6 (fun h=>h);have hB4:=HB4.o.keeps hX6 (fun h=>h);clear HB1 HB3 HB4 hb1 hpc hz6 hX6;gi_wp2_with fail
 have hPS:PrS W wb (.slice a n c) nodes:=⟨HC.o,HV.o,by have:=HZ.o;omega,by have:=HN.o;omega,HGA.o⟩;have hS0:MetS W b1 wb pc root (.slice a n c) (jbe key) (fun b=>b < W.heap.size∨b=b1∨b=wb∨b=pc) W6:=
  ⟨fun b=>Iff.rfl,HX6.o.size,fun b hb=>HX6.o.block b hb (fun h=>h),hB3,hc6,hp6⟩
 refine jnM (N:=vs.length) (gf:=199) (lb:=#[.pointer (some ⟨b1,0,none⟩),.pointer (some ⟨pc,0,none⟩)]) rfl Tryz.enterMet1
  (jrC W b1 wb pc root (.slice a n c) nodes (jbe key) (jch key) (by rw[jeQ];have:=HK.o;omega) hPS (by have:=HZ.o;have:=HZ2.o;omega) vs rest okf HVS.o)
  (MetS.supp W b1 wb pc root (.slice a n c) (jbe key)) (fun k=>rfl) (ClC cb vs) (fun _ _ _ _=>False) (ClC.supp cb vs) (fun _ _ _ _ h=>h)
  (fun b=>b=cb) (fun b=>b < W.heap.size∨b=b1∨b=wb∨b=pc) ⟨fun b=>Iff.rfl,hB4⟩ hS0
  (fun b hb ho=>by have hb:b=cb:=hb;have:=HZ.o;have:=HZ2.o;omega)
  (fun k a1 w1=>∃ g,W6.heap.size+1 < g∧a1=jpl W key root b1 wb pc cb a n c vs k g∧Blk w1 g (.cells (atV vs k).1.cells.toArray 144))
  (fun k a1 w1 w2 ⟨g,h1,h2,h3⟩ hk=>⟨g,h1,h2,h3.keeps hk (fun e=>by have e:g=W6.heap.size+1:=e;omega)⟩) ?hassign ?hbody ?hdone (MetE.supp wb root (.slice a n c) nodes rest okf)
 case hassign =>
  intro y k W9 K hk hz hK;unfold meV;rw[jle]
  obtain⟨d,hgd⟩:=jkR W HVS.o (jch key) _ (jlX hk)
  have hln:=(hgd.one (inlP d)).refs;have HLC:=Hd ((atV vs k).1.cells_len hln);gi_wp2_with (first |(refine jfw Tryz.allocNode rfl rfl ?_;intro Wa hBa hEa) |(refine jdw (vs:=(atV vs k).1.cells) rfl rfl rfl rfl hBa (by rw[HLC.o];rfl) (by rw[HLC.o];exact Tryz.szNode) (atV vs k).1.one ?_;intro Wb hBb hEb))
  exact hK _ _ (hEa.trans' hEb (fun x hx e=>by have e:x=W9.heap.size:=e;omega)) ⟨W9.heap.size,hz,rfl,hBb⟩
 case hbody =>
  rintro y k D W9 a1 hk hcc ⟨g,hg,rfl,hB⟩ hkp
  obtain⟨d,hgd⟩:=jkR W HVS.o (jch key) _ (jlX hk)
  have hln:=(hgd.one (inlP d)).refs;have hk3:(atV vs k).1.kind≤3:=(hgd.one (inlP d)).kind;have HCC:=Hd hcc;have HLT:=Hd (jmL hk);have HCL:=Hd (fun w=>jme w (atV vs k).1 hln hk3 (atV vs k).2);have hcb:=hcc.blk;clear hcc hkp hgd hk;unfold jpl;gi_wp2_with (refine jaZ rfl 144 (.tmp 10) rfl _ _ rfl (jap W9 g (atV vs k).1 hln hB) ?_)
  refine⟨trivial,rfl,CallsIn.mono (CallsIn.inRound _ (callsIn_wide.2 (HCL.o W9))) ?_⟩
  rintro e w' ⟨rfl,hE⟩;have hcb':=hcb.keeps hE (fun h=>h);unfold clmV;gi_wp2_with (refine jdw (vs:=clmL (jca (atV vs k).1 (atV vs k).2)) rfl rfl rfl rfl hcb' (by rw[jaW,jaW]) (by rw[jaW];exact Tryz.szClaim) (jbk _) ?_;intro Wb hBb hEb)
  refine⟨D,(ExtK hE:jag D W9 w').trans (hEb.mono (fun b _ e=>(HCC.o.is b).2 e)),fun b h=>.inl h,⟨HCC.o.is,?_⟩⟩
  rw[HLT.o];exact hBb
 case hdone =>
  intro D O W9 hkp hcc hse hdis hDn hOn hbd h1 h2
  obtain⟨hO1,hO2,u,ev,hWy,hev⟩:=hse
  have hcb:=hcc.blk;rw[List.take_length]at hcb;have HCB:=Hd hcb;have HWY:=Hd hWy;have HBD:=Hd hbd;have HX6s:=HX6.o.size;clear HX6s;have hB1:=HB1'.o.keeps hkp (fun e=>by have:=HZ.o;have:=HZ2.o;rcases e with e | e | e <;>(try have e:W.heap.size=cb:=e) <;> omega);have HB1:=Hd hB1;have HX9:=Hd (show Ext W W9 from HX6.o.trans' hkp (fun b hb e=>by have:=HZ.o;have:=HZ2.o;rcases e with e | e | e <;>(try have e:b=cb:=e) <;> omega));have HNE:=Hd (show (¬ cb=W.heap.size)∧(¬ wb=W.heap.size)∧¬ W6.heap.size=W.heap.size from by have:=HZ.o;have:=HZ2.o;have:=HX6.o.size;omega);have hq1:∀ w,(binOp .eql 162 .nilIface .nilIface).run Tryz.prog w=.ok (.bool true) w:=fun w=>by kernel_rfl
  have HOO:=Hd (show ∀ b,O b→(¬ b=W.heap.size)∧¬ b=W6.heap.size from fun b hb=>⟨fun e=>by
   have:=HZ.o;have:=HZ2.o;have:=HX6.o.size
   rcases hOn b hb with h | h
   ·rcases h with h | h | h | h <;> omega
   ·omega,fun e=>h2 (e ▸ hb)⟩)
  have q3:=hWy.errc;have q2:=Blk.cell (i:=2) (v:=.int .i64 (u:Int)) hWy (by rfl);clear hcb hWy hB1 hkp hcc hdis hDn hOn hbd h1 h2 hO1 hO2 hS0 hPS hB3 hB4 hc6 hp6;rcases hev with⟨rfl,rfl,hu⟩ |⟨rfl,eb,ek,hOe,rfl,hBe⟩
  case inr =>
   have hq2:∀ w,(binOp .eql 162 (.iface 211 (.pointer (some ⟨eb,0,none⟩))) .nilIface).run Tryz.prog w=.ok (.bool false) w:=fun w=>by kernel_rfl
   have HBE:=Hd hBe;have HEB:=Hd (HOO.o eb hOe);clear hBe hOe;gi_wp2_with fail
   refine wpIn_wide.2 (jaL [0,1,2,3,4] [3] Ext (jag (fun b=>b=W.heap.size)) ExtR ExtT (fun x y z h k=>jag.trans h k) (fun x y h=>ExtK h) (by kernel_rfl) (by kernel_rfl) (by kernel_rfl) ?_);refine jaQ ⟨cb,0,none⟩ (clmV (jcy vs)) rfl (by kernel_rfl) rfl rfl (fun w1 h1=>jbm (Blk.keeps (by exact HCB.o) h1 HNE.o.1)) ?_;simp only[Act.put,sA,sB,sC];refine jaq _ rfl (by kernel_rfl) rfl rfl (fun K hK=>?_);go_big_quiet_op;refine hK _ ?_;clear hK K;refine jaQ ⟨wb,3,none⟩ (.iface 211 (.pointer (some ⟨eb,0,none⟩))) rfl (by kernel_rfl) rfl rfl (fun w1 h1=>jaa Tryz.underlying162 rfl (jaD (by exact HWY.o.errc) h1 HNE.o.2.1)) ?_;simp only[Act.put,sA,sB,sC];refine jaV _ rfl (by kernel_rfl) rfl (fun wa ha K hK=>?_);have h9a:Ext W9 wa:=(jas W9).trans ha;refine jcw (old:=clmL none) (vs:=clmL (jcy vs)) rfl rfl rfl (HB1.o.keeps h9a (fun h=>h)) (by rw[jaW,jaW]) (by rw[jaW];exact Tryz.szClaim) (jbk _) ?_;intro wb' hBf hEf;refine hK _ _ hEf ?_;clear hK K;simp only[Act.put,sA,sB,sC];refine jaq _ rfl (by kernel_rfl) rfl rfl (fun K hK=>?_);go_big_quiet_op;refine hK _ ?_;clear hK K;refine jbI (by kernel_rfl) (fun wc hc=>?_);have k9c:jag (fun b=>b=W.heap.size) W9 wc:=((ExtK h9a:jag (fun b=>b=W.heap.size) W9 wa).trans hEf).trans (ExtK hc);have hBD:=HBD.o.keeps k9c HNE.o.2.2;have hB6:=(hBf.keeps hc (fun h=>h)).put_other (show W.heap.size≠W6.heap.size from fun e=>HNE.o.2.2 e.symm) (.deferred none);have hXc:Ext W wc:=HX9.o.trans' k9c (fun b hb e=>by have e:b=W.heap.size:=e;omega);gi_wp2
   refine⟨by simp,.inl ⟨_,_,rfl,run_takeDeferred hBD,?_⟩⟩
   refine⟨_,jaj rfl rfl rfl (jaO hB6),hXc.trans' (jag.onePut wc W6.heap.size _) (fun b hb e=>by have e:b=W6.heap.size:=e;have:=HX6.o.size;omega),_,rfl,?_⟩
   exact .inr ⟨rfl,eb,ek,rfl,(HBE.o.keeps k9c HEB.o.1).put_other HEB.o.2 _⟩
  case inl =>
   cases rest with
   | nil =>
    have hun:¬(u:Int) < (n:Int):=by have:=HNN.o;simp at hu;omega
    clear hu;gi_wp2_with fail
    refine wpIn_wide.2 (jaL [0,1,2,3,4] [3] Ext (jag (fun b=>b=W.heap.size)) ExtR ExtT (fun x y z h k=>jag.trans h k) (fun x y h=>ExtK h) (by kernel_rfl) (by kernel_rfl) (by kernel_rfl) ?_);refine jaQ ⟨cb,0,none⟩ (clmV (jcy vs)) rfl (by kernel_rfl) rfl rfl (fun w1 h1=>jbm (Blk.keeps (by exact HCB.o) h1 HNE.o.1)) ?_;simp only[Act.put,sA,sB,sC];refine jaq _ rfl (by kernel_rfl) rfl rfl (fun K hK=>?_);go_big_quiet_op;refine hK _ ?_;clear hK K;refine jaQ ⟨wb,3,none⟩ (.nilIface) rfl (by kernel_rfl) rfl rfl (fun w1 h1=>jaa Tryz.underlying162 rfl (jaD (by exact HWY.o.errc) h1 HNE.o.2.1)) ?_;simp only[Act.put,sA,sB,sC];refine jaV _ rfl (by kernel_rfl) rfl (fun wa ha K hK=>?_);have h9a:Ext W9 wa:=(jas W9).trans ha;refine jcw (old:=clmL none) (vs:=clmL (jcy vs)) rfl rfl rfl (HB1.o.keeps h9a (fun h=>h)) (by rw[jaW,jaW]) (by rw[jaW];exact Tryz.szClaim) (jbk _) ?_;intro wb' hBf hEf;refine hK _ _ hEf ?_;clear hK K;simp only[Act.put,sA,sB,sC];refine jaq _ rfl (by kernel_rfl) rfl rfl (fun K hK=>?_);go_big_quiet_op;refine hK _ ?_;clear hK K;refine jbI (by kernel_rfl) (fun wc hc=>?_);have k9c:jag (fun b=>b=W.heap.size) W9 wc:=((ExtK h9a:jag (fun b=>b=W.heap.size) W9 wa).trans hEf).trans (ExtK hc);have hBD:=HBD.o.keeps k9c HNE.o.2.2;have hB6:=(hBf.keeps hc (fun h=>h)).put_other (show W.heap.size≠W6.heap.size from fun e=>HNE.o.2.2 e.symm) (.deferred none);have hXc:Ext W wc:=HX9.o.trans' k9c (fun b hb e=>by have e:b=W.heap.size:=e;omega);gi_wp2
    refine⟨by simp,.inl ⟨_,_,rfl,run_takeDeferred hBD,?_⟩⟩
    refine⟨_,jaj rfl rfl rfl (jaO hB6),hXc.trans' (jag.onePut wc W6.heap.size _) (fun b hb e=>by have e:b=W6.heap.size:=e;have:=HX6.o.size;omega),_,rfl,?_⟩
    exact .inl ⟨rfl,rfl⟩
   | cons x xs =>
    have hun:(u:Int) < (n:Int):=by have:=HNN.o;simp at hu;omega
    clear hu;gi_wp2_with fail
    refine⟨trivial,rfl,CallsIn.mono (callsIn_wide.2 (jj8 W9 wb root (.slice a n c) u .nilIface HWY.o)) ?_⟩
    rintro e w10 ⟨rfl,ev',⟨eb,ek,rfl,hBe,hez⟩,hWA,hK10⟩;have HWY2:=Hd hWA;have HBE:=Hd hBe;have HEB:=Hd (show (¬ eb=W.heap.size)∧¬ eb=W6.heap.size from by have:=HBD.o.lt;have:=HX9.o.size;have:=HX6.o.size;have:=HZ.o;have:=HZ2.o;omega);have HB12:=Hd (HB1.o.keeps hK10 (fun e=>HNE.o.2.1 e.symm));have HCB2:=Hd (HCB.o.keeps hK10 (fun e=>by have e:cb=wb:=e;have:=HZ.o;omega));have HBD2:=Hd (HBD.o.keeps hK10 (fun e=>by have e:W6.heap.size=wb:=e;have:=HZ.o;have:=HZ2.o;omega));have HX10:=Hd (show Ext W w10 from HX9.o.trans' hK10 (fun b hb e=>by have e:b=wb:=e;have:=HZ.o;omega));clear hBe hez hWA hK10;gi_wp2_with fail
    refine wpIn_wide.2 (jaL [0,1,2,3,4] [3] Ext (jag (fun b=>b=W.heap.size)) ExtR ExtT (fun x y z h k=>jag.trans h k) (fun x y h=>ExtK h) (by kernel_rfl) (by kernel_rfl) (by kernel_rfl) ?_);refine jaQ ⟨cb,0,none⟩ (clmV (jcy vs)) rfl (by kernel_rfl) rfl rfl (fun w1 h1=>jbm (Blk.keeps (by exact HCB2.o) h1 HNE.o.1)) ?_;simp only[Act.put,sA,sB,sC];refine jaq _ rfl (by kernel_rfl) rfl rfl (fun K hK=>?_);go_big_quiet_op;refine hK _ ?_;clear hK K;refine jaQ ⟨wb,3,none⟩ (.iface 211 (.pointer (some ⟨eb,0,none⟩))) rfl (by kernel_rfl) rfl rfl (fun w1 h1=>jaa Tryz.underlying162 rfl (jaD (by exact HWY2.o.errc) h1 HNE.o.2.1)) ?_;simp only[Act.put,sA,sB,sC];refine jaV _ rfl (by kernel_rfl) rfl (fun wa ha K hK=>?_);have h9a:Ext w10 wa:=(jas w10).trans ha;refine jcw (old:=clmL none) (vs:=clmL (jcy vs)) rfl rfl rfl (HB12.o.keeps h9a (fun h=>h)) (by rw[jaW,jaW]) (by rw[jaW];exact Tryz.szClaim) (jbk _) ?_;intro wb' hBf hEf;refine hK _ _ hEf ?_;clear hK K;simp only[Act.put,sA,sB,sC];refine jaq _ rfl (by kernel_rfl) rfl rfl (fun K hK=>?_);go_big_quiet_op;refine hK _ ?_;clear hK K;refine jbI (by kernel_rfl) (fun wc hc=>?_);have k9c:jag (fun b=>b=W.heap.size) w10 wc:=((ExtK h9a:jag (fun b=>b=W.heap.size) w10 wa).trans hEf).trans (ExtK hc);have hBD:=HBD2.o.keeps k9c HNE.o.2.2;have hB6:=(hBf.keeps hc (fun h=>h)).put_other (show W.heap.size≠W6.heap.size from fun e=>HNE.o.2.2 e.symm) (.deferred none);have hXc:Ext W wc:=HX10.o.trans' k9c (fun b hb e=>by have e:b=W.heap.size:=e;omega);gi_wp2
    refine⟨by simp,.inl ⟨_,_,rfl,run_takeDeferred hBD,?_⟩⟩
    refine⟨_,jaj rfl rfl rfl (jaO hB6),hXc.trans' (jag.onePut wc W6.heap.size _) (fun b hb e=>by have e:b=W6.heap.size:=e;have:=HX6.o.size;omega),_,rfl,?_⟩
    exact .inr ⟨rfl,eb,ek,rfl,(HBE.o.keeps k9c HEB.o.1).put_other HEB.o.2 _⟩
end
section
open Go Go.RowKit
theorem jpW(d:Nat)(a b:ByteArray)(w:World):(Op.equalIn (d+1) 9 (.string a) (.string b)).run Tryz.prog w=.ok (a == b) w:=by
 simp[Op.equalIn,Sem.run_bind,run_underlying Tryz.uStr,Result.andThen,Sem.run_pure]
def jjw(d:Option TypeDesc)(l:List (Bool × TypeId × Nat)):Bool:=match d with | some (.struct fs)=>fs.toList.map (fun f=>(f.name == "_",f.type,f.offset)) == l | _=>false
theorem jrZ(w:World)(v:Value)(l:List Pair)(hc:jbO w)(hv:RdP w v l)(h:ja6 l=0):Calls Tryz.prog 45 #[v] w fun e w'=>e=.returned (.tuple #[.string (ja5 l).text,.int .i64 0])∧Ext w w':=by
 have hm:=jbS h
 obtain⟨a,c,hsl⟩:=hv.sl
 subst hsl;have HV:=Hd hv;have HM:=Hd hm;have HC:=Hd hc;have H:=Hd h;have HL:=Hd hm.len;clear hv hm hc h;go_enter Tryz.func45,Tryz.ntmps45;go_wp2_with fail
 refine (jht w _ l HV.o (by have:=HL.o;omega) (fun p hp=>by have:=HM.o.size p hp;omega)).mono ?_;rintro e w1 ⟨rfl,hE⟩;rw[H.o];have HE:=Hd hE;clear hE;go_wp2_with fail
 refine (jpn w1 _ l (HV.o.ext HE.o) (by have:=HL.o;omega) (fun p hp=>by have:=HM.o.size p hp;omega)).mono ?_;rintro e w2 ⟨u,rfl,hr⟩;have HR:=Hd hr.rd;have HX:=Hd (HE.o.trans hr.ext);clear hr
 obtain⟨a2,c2,hu⟩:=HR.o.sl
 subst hu;go_wp2_with fail
 refine (jhs 12 (ja3 l) (jdu HM.o) (by unfold ja3;rw[List.length_map];have:=HL.o;omega) w2 _ (HC.o.ext HX.o) HR.o).mono ?_;rintro e w3 ⟨k,rfl,hk,hE⟩
 obtain⟨hkA,vk,bk,hkB,_⟩:=hk.open
 have q0:w3.cell? ⟨k,0,none⟩=some (.string (jad 13 (ja3 l)).text):=hkB.cell (by rfl);have HE3:=Hd (HX.o.trans hE);clear hk hkB hE;unfold ptrV;go_wp2_with fail
 go_ret2
 exact⟨rfl,HE3.o⟩
theorem jqI(w:World)(v:Value)(l:List Pair)(hv:RdP w v l)(hn:l.length≤9223372036854775807)(hs:∀ p∈l,p.1.size≤9223372036854775807∧p.2.size≤9223372036854775807)(h:ja6 l≠0):Calls Tryz.prog 45 #[v] w fun e w'=>e=.returned (.tuple #[.string ⟨#[]⟩,.int .i64 (ja6 l)])∧Ext w w':=by
 obtain⟨a,c,hsl⟩:=hv.sl
 subst hsl;have hck:=jht w _ l hv hn hs
 obtain⟨x,hx⟩:∃ x,x=ja6 l:=⟨_,rfl⟩
 rw[←hx]at h hck ⊢;have hne:(x == 0)=false:=by simpa using h
 have HCK:=Hd hck;clear hv hs hx hck;go_enter Tryz.func45,Tryz.ntmps45;go_wp2_with fail
 refine HCK.o.mono ?_;rintro e w1 ⟨rfl,hE⟩;have HE:=Hd hE;clear hE;go_wp2_with fail
 go_ret2
 exact⟨rfl,HE.o⟩
theorem jnn(w:World)(v:Value)(l:List Pair)(hc:jbO w)(hv:RdP w v l)(h:ja6 l=0):Calls Tryz.prog 46 #[v] w fun e w'=>e=.returned (.tuple #[.string (shaB (ja5 l).text),.int .i64 0])∧Ext w w':=by
 have hT:=jrZ w v l hc hv h
 obtain⟨a,c,hsl⟩:=hv.sl
 subst hsl
 obtain⟨t,ht⟩:∃ t,t=(ja5 l).text:=⟨_,rfl⟩
 rw[←ht]at hT ⊢;have HT:=Hd hT;have HC:=Hd hc;clear hT hc hv ht h;go_enter Tryz.func46,Tryz.ntmps46;go_wp2_with fail
 refine HT.o.mono ?_;rintro e w1 ⟨rfl,hE⟩;have HE:=Hd hE;clear hE;go_wp2_with fail
 refine (of_t _ _ [t] (by simp) (jcL w1 [t] 9) (HC.o.ext (HE.o.alloc _))).mono ?_;rintro e w2 ⟨rfl,hE⟩;rw[jcl];have HE2:=Hd ((HE.o.alloc _).trans hE);clear hE;go_wp2_with fail
 go_ret2
 exact⟨rfl,HE2.o⟩
theorem joP(w:World)(v:Value)(l:List Pair)(hv:RdP w v l)(hn:l.length≤9223372036854775807)(hs:∀ p∈l,p.1.size≤9223372036854775807∧p.2.size≤9223372036854775807)(h:ja6 l≠0):Calls Tryz.prog 46 #[v] w fun e w'=>e=.returned (.tuple #[.string ⟨#[]⟩,.int .i64 (ja6 l)])∧Ext w w':=by
 have hT:=jqI w v l hv hn hs h
 obtain⟨a,c,hsl⟩:=hv.sl
 subst hsl
 obtain⟨x,hx⟩:∃ x,x=ja6 l:=⟨_,rfl⟩
 rw[←hx]at h hT ⊢;have hne:(x == 0)=false:=by simpa using h
 have HT:=Hd hT;clear hT hv hx;go_enter Tryz.func46,Tryz.ntmps46;go_wp2_with fail
 refine HT.o.mono ?_;rintro e w1 ⟨rfl,hE⟩;have HE:=Hd hE;clear hE;go_wp2_with fail
 go_ret2
 exact⟨rfl,HE.o⟩
theorem jp1(w:World)(x y k:ByteArray)(gk:Nat)(hk:w.cell? ⟨gk,0,none⟩=some (.string k)):Calls Tryz.prog 114 #[.agg #[.string x,.string y],.pointer (some ⟨gk,0,none⟩)] w fun e w'=>e=.returned (.bool (x.toList == k.toList))∧Ext w w':=by
 have hk':=jab hk ((ExtR w).alloc (.cells #[.string x,.string y] 95));clear hk;go_enter Tryz.func114,Tryz.ntmps114;go_wp2_with fail
 go_ret
 exact⟨rfl,(ExtR w).alloc _⟩
def jfe(k:ByteArray)(l:List Pair):Option Nat:=l.findIdx? fun p=>p.1.toList == k.toList
def idxV:Option Nat→Int | some i=>i | none => -1
def jqZ(w:World)(k:ByteArray)(l:List Pair)(v:Value)(wr:World):Prop:=∃ i:Nat,i≤l.length∧v=.int .i64 i∧Ext w wr∧∀ p∈l.take i,(p.1.toList == k.toList)=false
theorem jjC(w:World)(v:Value)(l:List Pair)(k:ByteArray)(gk:Nat)(hv:RdP w v l)(hn:l.length≤1000000)(hk:w.cell? ⟨gk,0,none⟩=some (.string k)):Calls Tryz.prog 113 #[v,.func (.func 114) #[] #[.pointer (some ⟨gk,0,none⟩)]] w fun e w'=>e=.returned (.int .i64 (idxV (jfe k l)))∧Ext w w':=by
 obtain⟨a,c,hsl⟩:=hv.sl
 have HV:=Hd hv;have HK:=Hd hk;subst hsl;clear hv hk;go_enter Tryz.func113,Tryz.ntmps113;go_wp2_with fail
 go_loopw [8] (fun i wr=>jqZ w k l i wr) (fun i _=>l.length - (intOf i).toNat)
 case atStart=>exact⟨0,by omega,rfl,ExtR w,fun p hp=>by simp at hp⟩
 case round =>
  obtain⟨i,hi,rfl,hE,hall⟩:=hrel
  have HE:=Hd hE;have HALL:=Hd hall;clear hE hall
  by_cases hlt:i < l.length
  ·rcases HV.o with⟨_,_,_,h0⟩ |⟨b,o,c',hh,hb,hc,hcell⟩
   ·rw[h0]at hlt;cases hlt
   cases hh
   obtain⟨p,hp⟩:∃ p,l[i]?=some p:=⟨_,List.getElem?_eq_getElem hlt⟩
   obtain⟨q1,q2⟩:=hcell i p hp
   have q1:=jab q1 HE.o;have q2:=jab q2 HE.o
   obtain⟨x,y⟩:=p
   simp only at q1 q2;have b1:(i:Int) < (l.length:Int):=by omega
   have HP:=Hd hp;clear hcell hp;go_wp2_with fail
   refine (jp1 wr x y k gk (jab HK.o HE.o)).mono ?_;rintro e w3 ⟨rfl,hE⟩;have HE3:=Hd (HE.o.trans hE);clear hE q1 q2;cases hq:(x.toList == k.toList)with
   | true =>
    have HQ:=Hd hq;clear hq;go_wp2_with fail
    go_ret
    refine⟨?_,HE3.o⟩
    have hka:jfe k l=some i:=by
     unfold jfe;rw[List.findIdx?_eq_some_iff_getElem]
     refine⟨hlt,?_,fun j hj=>?_⟩
     ·rw[(List.getElem?_eq_some_iff.1 HP.o).2];exact HQ.o
     ·have:=HALL.o l[j] (List.mem_take_iff_getElem.2 ⟨j,by omega,rfl⟩)
      rw[this];simp
    rw[hka];rfl
   | false =>
    have HQ:=Hd hq;clear hq;go_wp2_with fail
    go_roundw
    case rel =>
     refine⟨i+1,by omega,by go_num,HE3.o,fun p hp=>?_⟩
     rw[List.take_add_one,HP.o]at hp;rcases List.mem_append.1 hp with hp | hp
     ·exact HALL.o p hp
     ·simp at hp;subst hp;exact HQ.o
    case measure=>simp[intOf];omega
  ·have hil:i=l.length:=by omega
   subst hil;have hka:jfe k l=none:=by
    unfold jfe;rw[List.findIdx?_eq_none_iff];exact fun p hp=>HALL.o p (by rw[List.take_length];exact hp)
   have HKA:=Hd hka;clear hka;go_wp2;go_ret
   exact⟨by rw[HKA.o];rfl,HE.o⟩
def jdG(l:List Pair)(k:ByteArray):Option ByteArray:=(jfe k l).map fun i=>(l.getD i pd).2
theorem jrq(w:World)(v:Value)(l:List Pair)(k:ByteArray)(hv:RdP w v l)(hn:l.length≤1000000):Calls Tryz.prog 64 #[v,.string k] w fun e w'=>e=.returned (optV (jdG l k))∧Ext w w':=by
 obtain⟨a,c,hsl⟩:=hv.sl
 have HV:=Hd hv;subst hsl;clear hv
 obtain⟨r,hr⟩:∃ r,r=optV (jdG l k):=⟨_,rfl⟩
 rw[←hr];have HR:=Hd hr;clear hr;go_enter Tryz.func64,Tryz.ntmps64;go_wp2_with fail
 refine (jjC _ _ l k w.heap.size (HV.o.ext ((ExtR w).alloc _)) hn ((Blk.new w _).cell (by rfl))).mono ?_;rintro e w1 ⟨rfl,hE⟩;have HE:=Hd (((ExtR w).alloc _).trans hE);clear hE;cases hka:jfe k l with
 | none =>
  have HRV:=Hd (show r=optV none by rw[HR.o];unfold jdG;rw[hka];rfl);clear hka;unfold idxV;go_wp2_with fail
  go_ret2
  exact⟨by rw[HRV.o];rfl,HE.o⟩
 | some i =>
  have hil:i < l.length:=by
   unfold jfe at hka;exact (List.findIdx?_eq_some_iff_getElem.1 hka).1
  rcases HV.o with⟨_,_,_,h0⟩ |⟨b,o,c',hh,hb,hc,hcell⟩
  ·rw[h0]at hil;cases hil
  cases hh
  obtain⟨p,hp⟩:∃ p,l[i]?=some p:=⟨_,List.getElem?_eq_getElem hil⟩
  have q2:=jab (hcell i p hp).2 HE.o;have HRV:=Hd (show r=optV (some p.2) by
   rw[HR.o];unfold jdG;rw[hka];show optV (some (l.getD i pd).2)=_;rw[List.getD_eq_getElem?_getD,hp];rfl)
  have b1:(i:Int) < (l.length:Int):=by omega
  clear hka hcell hp;unfold idxV;go_wp2_with fail
  go_ret2
  exact⟨by rw[HRV.o];rfl,HE.o⟩
end
section
open Go Go.RowKit
attribute [local go_sem] Oper.semAt_some
theorem jqm(W:World)(hc:jbO W)(root key:ByteArray)(hk:key.size≤1000)(v:Value)(nodes:List ByteArray)(hv:RdS W v nodes)(hG:jc5 W nodes) :
  Calls Tryz.prog 106 #[.string root,.string key,v] W (jlJ W (proveR root key nodes)):=by
 unfold proveR
 by_cases hn:40 < nodes.length
 ·rw[if_pos hn]
  obtain⟨a,c,rfl⟩:=jkw hv
  exact jlo W root key a nodes.length c hn
 ·rw[if_neg hn]
  obtain⟨⟨vs,rest,okf⟩,hvs⟩:∃ x,proveN root (jbe key) nodes=x:=⟨_,rfl⟩
  rw[hvs];exact jjF W hc root key hk v nodes hv (by omega) hG vs rest okf hvs
def verV(r:Option ByteArray × Bool):Value:=if r.2=true then .tuple #[clmV r.1,.int .i64 0]else .tuple #[clmV none,.int .i64 10]
theorem jeY(W:World)(hc:jbO W)(root key:ByteArray)(hk:key.size≤1000)(v:Value)(nodes:List ByteArray)(hv:RdS W v nodes)(hG:jc5 W nodes) :
  Calls Tryz.prog 51 #[.string root,.string key,v] W fun e w'=>e=.returned (verV (proveR root key nodes))∧Ext W w':=by
 obtain⟨a,c,hsl⟩:=jkw hv
 have HP:=Hd (fun w (h:Ext W w)=>jqm w (hc.ext h) root key hk v nodes (hv.ext h) (hG.ext h))
 obtain⟨⟨o,b⟩,hr⟩:∃ r,r=proveR root key nodes:=⟨_,rfl⟩
 rw[←hr]at HP ⊢;clear hc hk hv hG hr;subst hsl;unfold verV;go_enter Tryz.func51,Tryz.ntmps51;go_wp2_with (refine jai Tryz.allocClaim rfl rfl ?_;intro W1 hB1 hE1)
 refine (HP.o W1 hE1).mono ?_;rintro e w2 ⟨hE,ev,rfl,hcase⟩;have HB2:=Hd (hB1.keeps hE (fun h=>h));have HE2:=Hd (hE1.trans hE);clear hB1 hE1 hE;unfold clmV;rcases hcase with⟨hb,rfl⟩ |⟨hb,bb,kk,rfl,hBb⟩
 ·have hb:b=true:=hb
  subst hb;go_wp2_with (first |(refine jai Tryz.allocClaim rfl rfl ?_;intro W3 hB3 hE3) |(refine jaf (old:=clmL none) (vs:=clmL o) rfl rfl rfl rfl hB3 ((jaW none).trans (jaW o).symm) (by rw[jaW];exact Tryz.szClaim) (jbk _) ?_;intro W4 hB4 hE4))
  have hX4:Ext w2 W4:=hE3.trans' hE4 (fun x hx e=>by have e:x=w2.heap.size:=e;omega);have HX4:=Hd (HE2.o.trans hX4);have HB24:=Hd (HB2.o.keeps hX4 (fun h=>h));have HB4:=Hd hB4;clear hB3 hE3 hB4 hE4 hX4;refine (show Calls Tryz.prog 107 #[.nilIface,.iface 27 (.int .i64 10)] W4 fun e w'=>e=.returned (.bool false)∧W4=w' from jqb W4).mono ?_;rintro e w5 ⟨rfl,rfl⟩;have hB24:=HB24.o;go_wp2_with (first |(refine jah 71 (.tmp 8) rfl rfl _ _ rfl (jbm HB4.o) ?_) |(refine jaf (old:=clmL none) (vs:=clmL o) rfl rfl rfl rfl hB24 ((jaW none).trans (jaW o).symm) (by rw[jaW];exact Tryz.szClaim) (jbk _) ?_;intro W8 hB8 hE8))
  refine bodyPost_ret (jaj rfl rfl rfl (jaO hB8)) rfl ?_
  exact⟨rfl,HX4.o.trans' hE8 (fun x hx e=>by have e:x=W.heap.size:=e;omega)⟩
 ·have hb:b=false:=hb
  subst hb;have HBB:=Hd hBb;clear hBb;go_wp2_with (first |(refine jai Tryz.allocClaim rfl rfl ?_;intro W3 hB3 hE3) |(refine jaf (old:=clmL none) (vs:=clmL o) rfl rfl rfl rfl hB3 ((jaW none).trans (jaW o).symm) (by rw[jaW];exact Tryz.szClaim) (jbk _) ?_;intro W4 hB4 hE4))
  have hX4:Ext w2 W4:=hE3.trans' hE4 (fun x hx e=>by have e:x=w2.heap.size:=e;omega);have HX4:=Hd (HE2.o.trans hX4);have HB24:=Hd (HB2.o.keeps hX4 (fun h=>h));have HBB4:=Hd (HBB.o.keeps hX4 (fun h=>h));clear hB3 hE3 hB4 hE4 hX4;refine (show Calls Tryz.prog 107 #[.iface 211 (.pointer (some ⟨bb,0,none⟩)),.iface 27 (.int .i64 10)] W4 fun e w'=>e=.returned (.bool true)∧W4=w' from jou W4 bb kk HBB4.o).mono ?_;rintro e w5 ⟨rfl,rfl⟩;have hB24:=HB24.o;go_wp2_with (refine jaf (old:=clmL none) (vs:=clmL none) rfl rfl rfl rfl hB24 (by rw[jaW]) (by rw[jaW];exact Tryz.szClaim) (jbk _) ?_;intro W8 hB8 hE8)
  refine bodyPost_ret (jaj rfl rfl rfl (jaO hB8)) rfl ?_
  exact⟨rfl,HX4.o.trans' hE8 (fun x hx e=>by have e:x=W.heap.size:=e;omega)⟩
theorem jju(d:Nat)(a b:Bool)(w:World):(Op.equalIn (d+1) 4 (.bool a) (.bool b)).run Tryz.prog w=.ok (a == b) w:=by
 simp[Op.equalIn,Sem.run_bind,run_underlying Tryz.underlying4,Result.andThen,Sem.run_pure]
theorem jp0{d:Option TypeDesc}(h:jjw d [(false,4,0),(false,9,1)]=true):∃ f g:Field,d=some (.struct #[f,g])∧f.name ≠ "_"∧f.type=4∧f.offset=0∧g.name ≠ "_"∧g.type=9∧g.offset=1:=by
 cases d with
 | none=>cases h
 | some d =>
  cases d <;> try (cases h;done)
  rename_i fs
  obtain⟨l⟩:=fs
  rcases l with _ |⟨f,_ |⟨g,_ |⟨e,r⟩⟩⟩ <;> simp[jjw]at h
  obtain⟨⟨h1,h2,h3⟩,h4,h5,h6⟩:=h
  exact⟨f,g,rfl,h1,h2,h3,h4,h5,h6⟩
theorem Tryz.clmFields:jjw (Tryz.prog.underlying 71) [(false,4,0),(false,9,1)]=true:=by kernel_rfl
theorem Tryz.clmHeld:Tryz.prog.stoodInHeld 71=false:=by kernel_rfl
theorem Tryz.boolAggP(w:World):(isAgg 4).run Tryz.prog w=.ok false w:=by kernel_rfl
theorem jhy(a b:Bool)(y y':ByteArray)(w:World):(binOp .eql 71 (.agg #[.bool a,.string y]) (.agg #[.bool b,.string y'])).run Tryz.prog w=.ok (.bool (a == b && y == y')) w:=by
 obtain⟨f,g,h0,h1,h2,h3,h4,h5,h6⟩:=jp0 Tryz.clmFields
 have hp1:∀ (u v:Value) w,(part 4 #[u,v] 0).run Tryz.prog w=.ok u w:=fun u v w=>by
  simp[part,Sem.run_bind,Tryz.boolAggP,Result.andThen,Sem.run_pure]
 have hp2:∀ (u v:Value) w,(part 9 #[u,v] 1).run Tryz.prog w=.ok v w:=fun u v w=>by
  simp[part,Sem.run_bind,Tryz.strAgg,Result.andThen,Sem.run_pure]
 have he:∀ d,(Op.equalIn (d+2) 71 (.agg #[.bool a,.string y]) (.agg #[.bool b,.string y'])).run Tryz.prog w=.ok (a == b && y == y') w:=fun d=>by
  rw[Op.equalIn];simp only[Sem.run_bind,run_underlying h0,Result.andThen];simp[Sem.run_bind,Result.andThen,Sem.run,Tryz.clmHeld,h1,h2,h3,h4,h5,h6,hp1,hp2,jpW,jju]
  by_cases hab:a=b
  ·subst hab
   by_cases hy:y=y'
   ·subst hy
    simp[Sem.run_bind,Result.andThen,Sem.run,Tryz.clmHeld,h1,h2,h3,h4,h5,h6,hp1,hp2,jpW,jju,Sem.run_pure,jdz]
   ·simp[Sem.run_bind,Result.andThen,Sem.run,Tryz.clmHeld,h1,h2,h3,h4,h5,h6,hp1,hp2,jpW,jju,Sem.run_pure,jdz,hy]
  ·simp[hab,Sem.run_pure,Sem.run]
 have he':(Op.equal 71 (.agg #[.bool a,.string y]) (.agg #[.bool b,.string y'])).run Tryz.prog w=.ok (a == b && y == y') w:=he 9998;simp only[binOp,Sem.run_bind,he',Result.andThen,Sem.run_pure]
theorem jfE(o p:Option ByteArray)(w:World):(binOp .eql 71 (clmV o) (clmV p)).run Tryz.prog w=.ok (.bool (decide (o=p))) w:=by
 cases o with
 | none =>
  cases p with
  | none=>exact jhy false false ⟨#[]⟩ ⟨#[]⟩ w
  | some x=>exact jhy false true ⟨#[]⟩ x w
 | some x =>
  cases p with
  | none=>exact jhy true false x ⟨#[]⟩ w
  | some y =>
   refine (jhy true true x y w).trans ?_
   congr 2
   by_cases h:x=y
   ·subst h;simp[jdz]
   ·simp[h,jdz]
theorem jgh(W:World)(v:Value)(l:List Pair)(key:ByteArray)(o:Option ByteArray)(hv:RdP W v l)(hn:l.length≤1000000) :
  Calls Tryz.prog 52 #[v,.string key,clmV o] W fun e w'=>e=.returned (.bool (decide (o=jdG l key)))∧Ext W w':=by
 obtain⟨a,c,hsl⟩:=hv.sl
 have HF:=Hd (fun w (h:Ext W w)=>jrq w v l key (hv.ext h) hn)
 obtain⟨f,hf⟩:∃ f,f=jdG l key:=⟨_,rfl⟩
 rw[←hf]at HF ⊢;clear hv hn hf;subst hsl;have hE0:Ext W (W.alloc (.cells (clmL o).toArray 71)):=(ExtR W).alloc _;have hB0:=Blk.new W (.cells (clmL o).toArray 71);have HE0:=Hd hE0;have HB0:=Hd hB0;clear hE0 hB0;have key2:∀ (P:Value→Prop),P (clmV o)→P (clmV o):=fun _ h=>h;cases o with
 | none =>
  unfold clmL at HE0 HB0;unfold clmV clmL;go_enter Tryz.func52,Tryz.ntmps52;go_wp2_with fail
  refine (HF.o _ HE0.o).mono ?_;rintro e w2 ⟨rfl,hE⟩;have HB2:=Hd (HB0.o.keeps hE (fun h=>h));have HE2:=Hd (HE0.o.trans hE);clear hE;have q0:=HB2.o.cell (i:=0) (v:=.bool false) (by rfl);have q1:=HB2.o.cell (i:=1) (v:=.string ⟨#[]⟩) (by rfl);cases f with
  | none =>
   unfold optV;have hq:=jfE none none;unfold clmV clmL at hq;go_wp2_with fail
   go_ret
   exact⟨rfl,HE2.o⟩
  | some x =>
   unfold optV;have hq:=jfE none (some x);unfold clmV clmL at hq;go_wp2_with fail
   go_ret
   exact⟨rfl,HE2.o⟩
 | some u =>
  unfold clmL at HE0 HB0;unfold clmV clmL;go_enter Tryz.func52,Tryz.ntmps52;go_wp2_with fail
  refine (HF.o _ HE0.o).mono ?_;rintro e w2 ⟨rfl,hE⟩;have HB2:=Hd (HB0.o.keeps hE (fun h=>h));have HE2:=Hd (HE0.o.trans hE);clear hE;have q0:=HB2.o.cell (i:=0) (v:=.bool true) (by rfl);have q1:=HB2.o.cell (i:=1) (v:=.string u) (by rfl);cases f with
  | none =>
   unfold optV;have hq:=jfE (some u) none;unfold clmV clmL at hq;go_wp2_with fail
   go_ret
   exact⟨rfl,HE2.o⟩
  | some x =>
   unfold optV;have hq:=jfE (some u) (some x);unfold clmV clmL at hq;go_wp2_with fail
   go_ret
   exact⟨by rw[show decide (some u=some x)=decide (u=x)from by simp];rfl,HE2.o⟩
end
section
open Go Go.RowKit
theorem jmh(w:World)(a b:ByteArray)(hc:jbO w) :
  Calls Tryz.prog 150 #[.string a,.string b] w fun e w'=>e=.returned (.bool (decide (a≠b) && decide (shaB a=shaB b)))∧Ext w w':=by
 have HC:=Hd hc;clear hc
 by_cases hab:a=b
 ·subst hab
  go_enter Tryz.func150,Tryz.ntmps150;go_wp2_with fail
  go_ret
  exact⟨by simp,ExtR w⟩
 ·have hne:¬ a.toList=b.toList:=fun h=>hab (jcj h)
  have hq:(a.toList == b.toList)=false:=by simp[hne]
  have hd:decide (a≠b)=true:=by simp[hab]
  have HD:=Hd hd;clear hd;go_enter Tryz.func150,Tryz.ntmps150;go_wp2_with fail
  refine (of_t _ _ [a] (by simp) (jjI (ExtR _)) (HC.o.ext ((ExtR w).alloc _))).mono ?_;rintro e w1 ⟨rfl,hE1⟩;rw[jcl];have HE1:Hid (Ext w w1):=Hd (((ExtR w).alloc _).trans hE1);clear hE1;go_wp2_with fail
  refine (of_t _ _ [b] (by simp) (jjI (ExtR _)) ((HC.o.ext HE1.o).ext ((ExtR w1).alloc _))).mono ?_;rintro e w2 ⟨rfl,hE2⟩;rw[jcl];have HE2:Hid (Ext w w2):=Hd (HE1.o.trans (((ExtR w1).alloc _).trans hE2));clear hE2;go_wp2_with fail
  go_ret
  refine⟨?_,HE2.o⟩
  have e:((shaB a).toList ==(shaB b).toList)=decide (shaB a=shaB b):=by
   by_cases h:shaB a=shaB b
   ·simp[h]
   ·have h3:¬(shaB a).toList=(shaB b).toList:=fun h2=>h (jcj h2)
    simp only[h,decide_false];exact beq_eq_false_iff_ne.2 h3
  rw[HD.o,Bool.true_and,e];rfl
def job(x y:ByteArray):Bool:=decide (x≠y) && decide (shaB x=shaB y)
def jdo(ys:List ByteArray)(x:ByteArray):Option (ByteArray × ByteArray):=(ys.find? (job x)).map fun y=>(x,y)
def jgW(xs ys:List ByteArray):Option (ByteArray × ByteArray):=xs.findSome? (jdo ys)
theorem jmf{xs ys:List ByteArray}{i:Nat}{x:ByteArray}{r:ByteArray × ByteArray}(hx:xs[i]?=some x)(h0:(xs.take i).findSome? (jdo ys)=none)(h:jdo ys x=some r):jgW xs ys=some r:=by
 unfold jgW;have hs:xs=xs.take i++xs.drop i:=(List.take_append_drop i xs).symm;have hd:xs.drop i=x :: xs.drop (i+1):=by
  obtain⟨hlt,e⟩:=List.getElem?_eq_some_iff.1 hx
  rw[←e];exact List.drop_eq_getElem_cons hlt
 rw[hs,List.findSome?_append,h0,hd,List.findSome?_cons,h];rfl
theorem jjp{xs ys:List ByteArray}{i:Nat}{x:ByteArray}(hx:xs[i]?=some x)(h0:(xs.take i).findSome? (jdo ys)=none)(h:ys.find? (job x)=none):(xs.take (i+1)).findSome? (jdo ys)=none:=by
 rw[List.take_add_one,hx,List.findSome?_append,h0];simp[jdo,h]
theorem jp2{ys:List ByteArray}{p:ByteArray→Bool}{j:Nat}{y:ByteArray}(hy:ys[j]?=some y)(h0:(ys.take j).find? p=none)(h:p y=true):ys.find? p=some y:=by
 have hs:ys=ys.take j++ys.drop j:=(List.take_append_drop j ys).symm;have hd:ys.drop j=y :: ys.drop (j+1):=by
  obtain⟨hlt,e⟩:=List.getElem?_eq_some_iff.1 hy
  rw[←e];exact List.drop_eq_getElem_cons hlt
 rw[hs,List.find?_append,h0,hd,List.find?_cons,h];rfl
theorem jmz{ys:List ByteArray}{p:ByteArray→Bool}{j:Nat}{y:ByteArray}(hy:ys[j]?=some y)(h0:(ys.take j).find? p=none)(h:p y=false):(ys.take (j+1)).find? p=none:=by
 rw[List.take_add_one,hy,List.find?_append,h0];simp[h]
def jeD:Option (ByteArray × ByteArray)→Value
 | some (x,y)=>.tuple #[.string x,.string y,.bool true]
 | none=>.tuple #[.string ⟨#[]⟩,.string ⟨#[]⟩,.bool false]
theorem jkt(s:ByteArray):jaA (jbe s)=true:=jch s
end
end Go.Proofs.YtcpnjmcipainpaaGreatDoor
