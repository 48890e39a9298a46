/- Parts of the proof, one behind the other: CurK, CurXb, StoreFb, StoreG, StoreH, NibbleE. Each is under no condition but those that it states. -/
import Derived.Test.YtcpnjmcipainpaaGreatDoorPa26
import Derived.Test.YtcpnjmcipainpaaGreatDoorPa25
import Derived.Test.YtcpnjmcipainpaaGreatDoorPa16
import Derived.Test.YtcpnjmcipainpaaGreatDoorPa18
namespace Go.Proofs.YtcpnjmcipainpaaGreatDoor
set_option linter.unusedSimpArgs false
set_option linter.unusedVariables false
set_option maxRecDepth 100000
set_option maxHeartbeats 16000000
section
open Go Go.RowKit
attribute [local go_sem] Oper.semAt_some
def jie(to:ByteArray)(l:List Pair):List Pair:=l.filter fun p => !ja9 to p.1
theorem jkJ{to:ByteArray}:∀ {E:List Pair} {k:Nat},E.Pairwise (fun p q=>Lt p.l q.l)→(∀ q∈E.take k,ja9 to q.1=false)→(∀ q,E[k]?=some q→ja9 to q.1=true)→jie to E=E.take k:=by
 intro E k hr h1 h2;unfold jie;have e:E=E.take k++E.drop k:=(List.take_append_drop k E).symm
 conv=>lhs;rw[e]
 rw[List.filter_append];have ha:(E.take k).filter (fun p => !ja9 to p.1)=E.take k:=by
  rw[List.filter_eq_self];intro q hq;simp[h1 q hq]
 have hb:(E.drop k).filter (fun p => !ja9 to p.1)=[]:=by
  rw[List.filter_eq_nil_iff];intro q hq
  obtain⟨i,hi⟩:=List.getElem?_of_mem hq
  rw[List.getElem?_drop]at hi;have hk:k < E.length:=by have:=(List.getElem?_eq_some_iff.1 hi).1;omega
  have h3:=h2 _ (List.getElem?_eq_getElem hk)
  by_cases h0:i=0
  ·subst h0
   rw[Nat.add_zero]at hi;rw[h2 q hi];simp
  ·have hlt:=jb4 hr (show k < k+i by omega) (List.getElem?_eq_getElem hk) hi
   have:ja9 to q.1=true:=(jbK _ _).2 (jcX _ _ _ ((jbK _ _).1 h3) hlt)
   simp[this]
 rw[ha,hb,List.append_nil]
theorem jkI{to:ByteArray}{E:List Pair}{k:Nat}{q:Pair}(h1:∀ q∈E.take k,ja9 to q.1=false)(hq:E[k]?=some q)(h2:ja9 to q.1=false):(jie to E).take k=E.take k∧k < (jie to E).length:=by
 unfold jie;have hk:=(List.getElem?_eq_some_iff.1 hq).1;have e:E=E.take k++(q :: E.drop (k+1)):=by
  obtain⟨h,rfl⟩:=List.getElem?_eq_some_iff.1 hq
  rw[←List.drop_eq_getElem_cons h,List.take_append_drop]
 have ha:(E.take k).filter (fun p => !ja9 to p.1)=E.take k:=by
  rw[List.filter_eq_self];intro q hq;simp[h1 q hq]
 have hl:(E.take k).length=k:=by rw[List.length_take];omega
 have ef:E.filter (fun p => !ja9 to p.1)=E.take k++(q ::(E.drop (k+1)).filter (fun p => !ja9 to p.1)):=by
  conv=>lhs;rw[e]
  rw[List.filter_append,ha,List.filter_cons,h2];rfl
 rw[ef]
 refine⟨?_,?_⟩
 ·conv=>lhs;arg 1;rw[←hl]
  exact List.take_left
 ·rw[List.length_append,hl,List.length_cons];omega
theorem cmp3(a b:ByteArray):(ja9 b a=true→Op.bytesLess a.toList b.toList=false∧(a.toList == b.toList)=false)∧(ja9 b a=false→∃ b1 b2,Op.bytesLess a.toList b.toList=b1∧(a.toList == b.toList)=b2∧(!b1 && !b2)=false):=by
 rw[ByteArray.toList_eq,ByteArray.toList_eq];constructor
 ·intro h
  rw[jbK]at h
  refine⟨?_,?_⟩
  ·rw[Bool.eq_false_iff];exact fun h2=>lt_irrefl _ (jcX _ _ _ h h2)
  ·rw[beq_eq_false_iff_ne];intro e;rw[e]at h;exact lt_irrefl _ h
 ·intro h
  refine⟨_,_,rfl,rfl,?_⟩
  rcases jgO a.data.toList b.data.toList with h3 | h3 | h3
  ·rw[show Op.bytesLess a.data.toList b.data.toList=true from h3];rfl
  ·rw[h3];simp
  ·rw[(jbK _ _).2 h3]at h;cases h
structure RgA(t:Nat)(to:ByteArray)(limit:Int)(W:World):Prop where
 b0:Blk W t (.cells #[.string to] 9)
 b1:Blk W (t+1) (.cells #[.int .i64 limit] 3)
 b2:Blk W (t+2) (.cells #[.slice none 0 0] 22)
 b3:Blk W (t+3) (.cells #[.bool false] 4)
 b4:Blk W (t+4) (.cells #[.int .i64 0] 27)
theorem RgA.keeps{t:Nat}{to:ByteArray}{limit:Int}{W W':World}{F:BSet}(h:RgA t to limit W)(k:jae F W W')(hF:∀ b,t≤b→b≤t+4→¬ F b):RgA t to limit W':=
 ⟨h.b0.keeps k (hF _ (by omega) (by omega)),h.b1.keeps k (hF _ (by omega) (by omega)),h.b2.keeps k (hF _ (by omega) (by omega)),h.b3.keeps k (hF _ (by omega) (by omega)),h.b4.keeps k (hF _ (by omega) (by omega))⟩
theorem RgA.new(W:World)(to:ByteArray)(limit:Int):RgA W.heap.size to limit (((((W.alloc (.cells #[.string to] 9)).alloc (.cells #[.int .i64 limit] 3)).alloc (.cells #[.slice none 0 0] 22)).alloc (.cells #[.bool false] 4)).alloc (.cells #[.int .i64 0] 27)):=by
 refine⟨?_,?_,?_,?_,?_⟩
 ·exact ((((Blk.new W _).alloc _).alloc _).alloc _).alloc _
 ·have:=(((Blk.new (W.alloc (.cells #[.string to] 9)) (.cells #[.int .i64 limit] 3)).alloc (.cells #[.slice none 0 0] 22)).alloc (.cells #[.bool false] 4)).alloc (.cells #[.int .i64 0] 27)
  rwa [World.size_alloc]at this
 ·have:=((Blk.new ((W.alloc (.cells #[.string to] 9)).alloc (.cells #[.int .i64 limit] 3)) (.cells #[.slice none 0 0] 22)).alloc (.cells #[.bool false] 4)).alloc (.cells #[.int .i64 0] 27)
  rwa [World.size_alloc,World.size_alloc]at this
 ·have:=(Blk.new (((W.alloc (.cells #[.string to] 9)).alloc (.cells #[.int .i64 limit] 3)).alloc (.cells #[.slice none 0 0] 22)) (.cells #[.bool false] 4)).alloc (.cells #[.int .i64 0] 27)
  rwa [World.size_alloc,World.size_alloc,World.size_alloc]at this
 ·have:=Blk.new ((((W.alloc (.cells #[.string to] 9)).alloc (.cells #[.int .i64 limit] 3)).alloc (.cells #[.slice none 0 0] 22)).alloc (.cells #[.bool false] 4)) (.cells #[.int .i64 0] 27)
  rwa [World.size_alloc,World.size_alloc,World.size_alloc,World.size_alloc]at this
def jkR(U:List Pair)(limit:Int)(W:World)(e:Ending)(w':World):Prop:=
 Ext W w'∧if 1≤limit∧limit≤8 then ∃ lv,e=.returned (.tuple #[lv,.bool (decide (limit.toNat < U.length)),.int .i64 0])∧NRow W w' lv (U.take limit.toNat)
  else e=.returned (.tuple #[.slice none 0 0,.bool false,.int .i64 1])
def jp8(E:List Pair)(to:ByteArray)(limit:Int)(W:World)(e:Ending)(w':World):Prop:=jkR (jie to E) limit W e w'
structure IsUp(to:ByteArray)(E U:List Pair):Prop where
 stop:∀ {k:Nat},k≤E.length→(∀ q∈E.take k,ja9 to q.1=false)→(∀ q,E[k]?=some q→ja9 to q.1=true)→U=E.take k
 more:∀ {k:Nat} {q:Pair},(∀ q∈E.take k,ja9 to q.1=false)→E[k]?=some q→ja9 to q.1=false→U.take k=E.take k∧k < U.length
theorem IsUp.rise{to:ByteArray}{E:List Pair}(h:E.Pairwise (fun p q=>Lt p.l q.l)):IsUp to E (jie to E):=⟨fun _ h1 h2=>jkJ h h1 h2,fun h1 h2 h3=>jkI h1 h2 h3⟩
theorem jnR{W W':World}{B:Nat}{T:TypeId}{sz:Nat}{v:Value}{n:Nat}{xs:List Value}(h:W.ownsRow B T sz v n xs)(hb:∀ b,v.ownBlock=some b→W'.heap[b]?=W.heap[b]?):W'.ownsRow B T sz v n xs:=by
 obtain⟨h1,h2 |⟨g,cap,cur,h2,h3,h4,h5⟩⟩:=h
 ·exact⟨h1,.inl h2⟩
 ·exact⟨h1,.inr ⟨g,cap,cur,h2,h3,(hb g (by rw[h2];rfl)).trans h4,h5⟩⟩
structure RgG(t5:Nat)(t:Nat)(to:ByteArray)(n:Nat)(E:List Pair)(k:Nat)(r2:Value)(r3:Bool)(lv:Value)(D:BSet)(W:World):Prop where
 is:∀ b,D b↔(t≤b∧b≤t+4)∨b=t5∨lv.ownBlock=some b
 b0:Blk W t (.cells #[.string to] 9)
 b1:Blk W (t+1) (.cells #[.int .i64 (n:Int)] 3)
 b2:Blk W (t+2) (.cells #[r2] 22)
 b3:Blk W (t+3) (.cells #[.bool r3] 4)
 b4:Blk W (t+4) (.cells #[.int .i64 0] 27)
 b5:Blk W t5 (.cells #[lv] 22)
 row:W.ownsRow 0 95 2 lv k (jcR (E.take k))
 far:∀ b,lv.ownBlock=some b→t5 < b
 le:k≤n
 low:∀ q∈E.take k,ja9 to q.1=false
theorem RgG.supp(t5 t:Nat)(to:ByteArray)(n:Nat)(E:List Pair)(k:Nat)(r2:Value)(r3:Bool)(lv:Value):Supp (RgG t5 t to n E k r2 r3 lv):=by
 refine⟨fun D W h b hb=>?_,fun D W W' h hz hb=>?_⟩
 ·rcases (h.is b).1 hb with e | e | e
  ·have:=h.b4.lt;omega
  ·have:=h.b5.lt;omega
  ·exact jee h.row e
 ·have hD:∀ b,t≤b→b≤t+4→W'.heap[b]?=W.heap[b]?:=fun b h1 h2=>hb b ((h.is b).2 (.inl ⟨h1,h2⟩))
  exact⟨h.is,(hD _ (by omega) (by omega)).trans h.b0,(hD _ (by omega) (by omega)).trans h.b1,(hD _ (by omega) (by omega)).trans h.b2,(hD _ (by omega) (by omega)).trans h.b3,(hD _ (by omega) (by omega)).trans h.b4,
   (hb t5 ((h.is t5).2 (.inr (.inl rfl)))).trans h.b5,jnR h.row fun b e=>hb b ((h.is b).2 (.inr (.inr e))),h.far,h.le,h.low⟩
def RgC(t5 t:Nat)(to:ByteArray)(n:Nat)(E:List Pair)(k:Nat)(D:BSet)(W:World):Prop:=∃ lv,RgG t5 t to n E k (.slice none 0 0) false lv D W
theorem RgC.supp(t5 t:Nat)(to:ByteArray)(n:Nat)(E:List Pair)(k:Nat):Supp (RgC t5 t to n E k):=
 ⟨fun D W ⟨lv,h⟩ b hb=>(RgG.supp t5 t to n E k _ _ lv).lt D W h b hb,fun D W W' ⟨lv,h⟩ hz hb=>⟨lv,(RgG.supp t5 t to n E k _ _ lv).st D W W' h hz hb⟩⟩
def RgJ(t5 t:Nat)(to:ByteArray)(n:Nat)(E:List Pair)(c:Code)(k1:Nat)(D:BSet)(W:World):Prop:=
 (c=.exit 0∧∃ k lv,RgG t5 t to n E k (.slice none 0 0) false lv D W∧k < E.length∧∀ q,E[k]?=some q→ja9 to q.1=true) ∨
 (c=.ret∧∃ lv q,RgG t5 t to n E n lv true lv D W∧E[n]?=some q∧ja9 to q.1=false)
theorem RgJ.supp(t5 t:Nat)(to:ByteArray)(n:Nat)(E:List Pair)(c:Code)(k1:Nat):Supp (RgJ t5 t to n E c k1):=by
 refine⟨fun D W h b hb=>?_,fun D W W' h hz hb=>?_⟩
 ·rcases h with⟨_,k,lv,h,_⟩ |⟨_,lv,q,h,_⟩
  ·exact (RgG.supp t5 t to n E k _ _ lv).lt D W h b hb
  ·exact (RgG.supp t5 t to n E n _ _ lv).lt D W h b hb
 ·rcases h with⟨h1,k,lv,h,h2⟩ |⟨h1,lv,q,h,h2⟩
  ·exact .inl ⟨h1,k,lv,(RgG.supp t5 t to n E k _ _ lv).st D W W' h hz hb,h2⟩
  ·exact .inr ⟨h1,lv,q,(RgG.supp t5 t to n E n _ _ lv).st D W W' h hz hb,h2⟩
theorem jgT{P:Program}{fn:Func}{t u x:Tmp}{ty ty2 ty3:TypeId}(h:fn.results=#[.cell t ty,.cell u ty2,.cell x ty3]){tmps:Array Value}{a b c:Addr}(ha:tmps.getD t undef=.pointer (some a))(hb:tmps.getD u undef=.pointer (some b))(hc:tmps.getD x undef=.pointer (some c)){w:World}{v1 v2 v3:Value}
  (l1:(loadVar ty a).run P w=.ok v1 w) (l2:(loadVar ty2 b).run P w=.ok v2 w) (l3:(loadVar ty3 c).run P w=.ok v3 w):(results fn tmps).run P w=.ok (.tuple #[v1,v2,v3]) w:=by
 have ha':tmps[t]?.getD undef=.pointer (some a):=by simpa using ha
 have hb':tmps[u]?.getD undef=.pointer (some b):=by simpa using hb
 have hc':tmps[x]?.getD undef=.pointer (some c):=by simpa using hc
 simp[results,h,ha',hb',hc',asAddr,Sem.run_bind,Result.andThen,l1,l2,l3]
theorem jdZ{P:Program}{W:World}{p:Addr}{v:Value}{t:TypeId}{d:TypeDesc}(hu:P.underlying t=some d)(hd:(match d with | .struct _ | .array _ _=>true | _=>false)=false)(h:W.cell? p=some v):(loadVar t p).run P W=.ok v W:=by
 have:=jaa hu hd h
 simpa [Instr.loadAt,Instr.sureAddr,Sem.run_bind,Result.andThen]using this
theorem jjv{t:Nat}{w1:World}{x2 x3 x4:Value}(y2 y3 y4:Value)(h2:Blk w1 (t+2) (.cells #[x2] 22))(h3:Blk w1 (t+3) (.cells #[x3] 4))(h4:Blk w1 (t+4) (.cells #[x4] 27)) :
  Blk (((w1.setCell ⟨t+1+1,0,none⟩ y2).setCell ⟨t+1+1+1,0,none⟩ y3).setCell ⟨t+1+1+1+1,0,none⟩ y4) (t+2) (.cells #[y2] 22) ∧
  Blk (((w1.setCell ⟨t+1+1,0,none⟩ y2).setCell ⟨t+1+1+1,0,none⟩ y3).setCell ⟨t+1+1+1+1,0,none⟩ y4) (t+3) (.cells #[y3] 4) ∧
  Blk (((w1.setCell ⟨t+1+1,0,none⟩ y2).setCell ⟨t+1+1+1,0,none⟩ y3).setCell ⟨t+1+1+1+1,0,none⟩ y4) (t+4) (.cells #[y4] 27) ∧
  jae (fun b=>b=t+2∨b=t+3∨b=t+4) w1 (((w1.setCell ⟨t+1+1,0,none⟩ y2).setCell ⟨t+1+1+1,0,none⟩ y3).setCell ⟨t+1+1+1+1,0,none⟩ y4):=by
 have k2:=jae.oneSet w1 ⟨t+1+1,0,none⟩ y2;have k3:=jae.oneSet (w1.setCell ⟨t+1+1,0,none⟩ y2) ⟨t+1+1+1,0,none⟩ y3;have k4:=jae.oneSet ((w1.setCell ⟨t+1+1,0,none⟩ y2).setCell ⟨t+1+1+1,0,none⟩ y3) ⟨t+1+1+1+1,0,none⟩ y4
 refine⟨?_,?_,?_,((k2.mono (fun b _ e=>.inl e)).trans' k3 (fun b _ e=>.inr (.inl e))).trans' k4 (fun b _ e=>.inr (.inr e))⟩
 ·exact ((h2.set_same (i:=0) y2).set_other (p:=⟨t+1+1+1,0,none⟩) (by show t+2≠t+3;omega) _).set_other (p:=⟨t+1+1+1+1,0,none⟩) (by show t+2≠t+4;omega) _
 ·exact ((h3.set_other (p:=⟨t+1+1,0,none⟩) (by show t+3≠t+2;omega) _).set_same (i:=0) y3).set_other (p:=⟨t+1+1+1+1,0,none⟩) (by show t+3≠t+4;omega) _
 ·exact ((h4.set_other (p:=⟨t+1+1,0,none⟩) (by show t+4≠t+2;omega) _).set_other (p:=⟨t+1+1+1,0,none⟩) (by show t+4≠t+3;omega) _).set_same (i:=0) y4
theorem jiM{t:Nat}{W:World}{y2 y3 y4:Value}(h2:Blk W (t+2) (.cells #[y2] 22))(h3:Blk W (t+3) (.cells #[y3] 4))(h4:Blk W (t+4) (.cells #[y4] 27)){tmps:Array Value}
  (ha:tmps.getD 10 undef=.pointer (some ⟨t+2,0,none⟩)) (hb:tmps.getD 11 undef=.pointer (some ⟨t+3,0,none⟩)) (hc:tmps.getD 12 undef=.pointer (some ⟨t+4,0,none⟩)):(results Tryz.f40 tmps).run Tryz.prog W=.ok (.tuple #[y2,y3,y4]) W:=
 jgT rfl ha hb hc (jdZ Tryz.uEnts rfl (h2.cell (i:=0) (by rfl))) (jdZ Tryz.underlying4 rfl (h3.cell (i:=0) (by rfl))) (jdZ Tryz.underlying27 rfl (h4.cell (i:=0) (by rfl)))
theorem jmo{W W9 X:World}{d n k:Nat}{E U:List Pair}{lv:Value}{more:Bool}{tmps:Array Value}(hd:Blk W9 d (.deferred (some [])))(hdz:W.heap.size+5≤d)(h1n:1≤n)(hn8:n≤8)(hX:Ext W W9)(hK:jae (fun b=>b=W.heap.size+2∨b=W.heap.size+3∨b=W.heap.size+4) W9 X)
  (g2:Blk X (W.heap.size+2) (.cells #[lv] 22)) (g3:Blk X (W.heap.size+3) (.cells #[.bool more] 4)) (g4:Blk X (W.heap.size+4) (.cells #[.int .i64 0] 27))
  (hr:W9.ownsRow 0 95 2 lv k (jcR (E.take k))) (hf:∀ b,lv.ownBlock=some b→W.heap.size+5≤b∧b≠d) (hk:k≤E.length) (hu:U.take n=E.take k) (hm:more=decide (n < U.length))
  (ha:tmps.getD 10 undef=.pointer (some ⟨W.heap.size+2,0,none⟩)) (hb:tmps.getD 11 undef=.pointer (some ⟨W.heap.size+3,0,none⟩)) (hc:tmps.getD 12 undef=.pointer (some ⟨W.heap.size+4,0,none⟩)) :
  bodyPostM Fence.wide 0 Tryz.prog Tryz.f40 (jkR U (n:Int) W) Exit.ret { tmps:=tmps,defers:=[{ target:=Target.collected d,args:=#[] }] } X:=by
 have hd2:Blk X d (.deferred (some [])):=hd.keeps hK (by omega)
 refine⟨by simp,.inl ⟨_,_,rfl,run_takeDeferred hd2,?_⟩⟩
 have kp:=jae.onePut X d (.deferred none);have kx:jae (fun b=>b=W.heap.size+2∨b=W.heap.size+3∨b=W.heap.size+4∨b=d) W9 (X.putObj d (.deferred none)):=(hK.mono (fun b _ e=>by rcases e with e | e | e;exact .inl e;exact .inr (.inl e);exact .inr (.inr (.inl e)))).trans' kp (fun b _ e=>.inr (.inr (.inr e)))
 refine⟨_,jiM (g2.put_other (by omega) _) (g3.put_other (by omega) _) (g4.put_other (by omega) _) ha hb hc,hX.trans' kx (fun b hb e=>by omega),?_⟩
 rw[if_pos (by omega),Int.toNat_natCast]
 refine⟨lv,by rw[hm],?_⟩
 rw[hu];have hl:(E.take k).length=k:=by rw[List.length_take];omega
 exact⟨by rw[hl];exact jaG hr kx (fun b hb e=>by have:=hf b hb;omega),fun b hb=>by have:=hf b hb;omega⟩
theorem jh0(W:World)(s bm:Nat)(room:Int)(S:List Nd5)(fr to k:ByteArray)(E U:List Pair)(limit:Int)(hf:fr.size≤100000)(hSK:∀ w,Ext W w→Calls Tryz.prog 42 #[.pointer (some ⟨s,0,none⟩),.string k,.string fr] w (jjO S s fr (jaV E) w))(hEl:E.length≤8000)(hU:IsUp to E U)(hs:jat W s bm room S) :
  Calls Tryz.prog 40 #[.pointer (some ⟨s,0,none⟩),.string k,.string fr,.string to,.int .i64 limit] W (jkR U limit W):=by
 have HSK:=Hd hSK;have HS:=Hd hs;have HRS:=Hd hU;have hps:=jb5 fr;clear hs hSK hU;rw[←callsIn_wide (n:=0)];refine callsIn_of_wp_marks Tryz.func40 rfl trivial ?_ rfl;simp only[Tryz.ntmps40,List.size_toArray,List.length_cons,List.length_nil,Nat.reduceAdd,Nat.reduceSub,Array.replicate_succ,Array.replicate_zero,List.push_toArray,List.append_toArray,List.nil_append,List.cons_append];gi_wp2_with fail
 have hA:=RgA.new W to limit;have hX0:Ext W (((((W.alloc (.cells #[.string to] 9)).alloc (.cells #[.int .i64 limit] 3)).alloc (.cells #[.slice none 0 0] 22)).alloc (.cells #[.bool false] 4)).alloc (.cells #[.int .i64 0] 27)):=((((((ExtR W).alloc _).alloc _).alloc _).alloc _)).alloc _
 refine⟨trivial,rfl,CallsIn.mono (callsIn_wide.2 (HSK.o _ hX0)) ?_⟩
 rintro e w1 ⟨c,v,rfl,hc,hv,hX,hC⟩;have hsz0:W.heap.size+5≤c:=by simpa using hc
 have hv0:∀ b,v.ownBlock=some b→W.heap.size+5≤b:=fun b hb=>by simpa using hv b hb
 have HCC:=Hd (And.intro hsz0 hv0);have HX:=Hd (hX0.trans hX);have HC:=Hd hC;have HA:=Hd (hA.keeps hX (fun _ _ _ h=>h));have p1:w1.cell? ⟨W.heap.size+1,0,none⟩=some (.int .i64 limit):=HA.o.b1.cell (i:=0) (by rfl);have p2:w1.cell? ⟨W.heap.size+1+1,0,none⟩=some (.slice none 0 0):=HA.o.b2.cell (i:=0) (by rfl);have p3:w1.cell? ⟨W.heap.size+1+1+1,0,none⟩=some (.bool false):=HA.o.b3.cell (i:=0) (by rfl);have p4:w1.cell? ⟨W.heap.size+1+1+1+1,0,none⟩=some (.int .i64 0):=HA.o.b4.cell (i:=0) (by rfl);have f2:w1.frozen? ⟨W.heap.size+1+1,0,none⟩=false:=HA.o.b2.frozen;have f3:w1.frozen? ⟨W.heap.size+1+1+1,0,none⟩=false:=HA.o.b3.frozen;have f4:w1.frozen? ⟨W.heap.size+1+1+1+1,0,none⟩=false:=HA.o.b4.frozen;clear hA hX0 hc hv hX hC hsz0 hv0
 by_cases h1:limit < 1
 ·gi_wp2_with fail
  obtain⟨g2,g3,g4,gk⟩:=jjv (.slice none 0 0) (.bool false) (.int .i64 1) HA.o.b2 HA.o.b3 HA.o.b4
  refine⟨_,jiM g2 g3 g4 rfl rfl rfl,HX.o.trans' gk (fun b hb e=>by omega),?_⟩
  rw[if_neg (by omega)]
 ·by_cases h2:8 < limit
  ·gi_wp2_with fail
   obtain⟨g2,g3,g4,gk⟩:=jjv (.slice none 0 0) (.bool false) (.int .i64 1) HA.o.b2 HA.o.b3 HA.o.b4
   refine⟨_,jiM g2 g3 g4 rfl rfl rfl,HX.o.trans' gk (fun b hb e=>by omega),?_⟩
   rw[if_neg (by omega)]
  ·obtain⟨n,rfl⟩:∃ n:Nat,limit=(n:Int):=⟨limit.toNat,by omega⟩
   have HN:=Hd (show 1≤n∧n≤8 by omega);gi_wp2_with fail
   clear p1 p2 p3 p4 f2 f3 f4
   obtain⟨w2,hw2⟩:∃ w2,w2=w1.alloc (.cells #[.slice none 0 0] 22):=⟨_,rfl⟩
   have hX2:Ext w1 w2:=by rw[hw2];exact (ExtR w1).alloc _
   have hB2:Blk w2 w1.heap.size (.cells #[.slice none 0 0] 22):=by rw[hw2];exact Blk.new w1 _
   have hz2:w2.heap.size=w1.heap.size+1:=by rw[hw2];simp
   rw[←hw2];have hcl:=HC.o.lt;have hz1:W.heap.size+5≤w1.heap.size:=by have:=HA.o.b4.lt;omega
   have hS0:EaS W S c s (jaL fr) E v (fun b=>b < W.heap.size∨b=c∨v.ownBlock=some b) w2:=
    ⟨fun b=>Iff.rfl,by omega,fun b hb=>(hX2.block b (by omega) (fun h=>h)).trans (HX.o.block b hb (fun h=>h)),HC.o.ext hX2⟩
   have hA2:=HA.o.keeps hX2 (fun _ _ _ h=>h);have hC0:RgC w1.heap.size W.heap.size to n E 0 (fun b=>(W.heap.size≤b∧b≤W.heap.size+4)∨b=w1.heap.size) w2:=
    ⟨.slice none 0 0,⟨fun b=>⟨fun h=>h.elim .inl (fun h=>.inr (.inl h)),fun h=>by
     rcases h with h | h | h
     ·exact .inl h
     ·exact .inr h
     ·cases h⟩,hA2.b0,hA2.b1,hA2.b2,hA2.b3,hA2.b4,hB2,World.ownsRow_nil _ _ _ _,fun b hb=>(by cases hb),Nat.zero_le _,fun q hq=>(by simp at hq)⟩⟩
   have HX2:=Hd (HX.o.trans hX2);have HZ:=Hd (And.intro hz2 hz1);clear hw2 hX2 hz2 hB2 hA2 hz1;refine jij (N:=E.length) (gf:=96) (pre:=#[.pointer (some ⟨c,0,none⟩)]) (lb:=#[]) rfl Tryz.enterEachCur
    (jiX W c s bm room S HS.o (jaL fr) E v (by omega) (by omega) (by have:=HCC.o.1;omega) (fun b hb=>by have:=HCC.o.2 b hb;omega))
    (EaS.supp W S c s (jaL fr) E v) (fun k=>rfl) (RgC w1.heap.size W.heap.size to n E) (RgJ w1.heap.size W.heap.size to n E) (RgC.supp w1.heap.size W.heap.size to n E) (RgJ.supp w1.heap.size W.heap.size to n E)
    (fun b=>(W.heap.size≤b∧b≤W.heap.size+4)∨b=w1.heap.size) (fun b=>b < W.heap.size∨b=c∨v.ownBlock=some b) hC0 hS0
    (fun b hb ho=>by
     have hc1:=HCC.o.1;have hc2:=HCC.o.2;rcases ho with h | h | h
     ·rcases hb with hb | hb
      ·omega
      ·have:=HZ.o.2;omega
     ·rcases hb with hb | hb <;> omega
     ·have h9:=hc2 _ h
      have:=hcl.2 _ h
      rcases hb with hb | hb <;> omega)
    (fun j=>{ tmps:=#[.pointer (some ⟨s,0,none⟩),.string k,.string fr,.string to,.int .i64 (n:Int),undef,undef,undef,.pointer (some ⟨W.heap.size,0,none⟩),
     .pointer (some ⟨W.heap.size+1,0,none⟩),.pointer (some ⟨W.heap.size+1+1,0,none⟩),.pointer (some ⟨W.heap.size+1+1+1,0,none⟩),.pointer (some ⟨W.heap.size+1+1+1+1,0,none⟩),
     .pointer (some ⟨c,0,none⟩),.int .i64 0,.pointer (some ⟨w1.heap.size,0,none⟩),.string (atE E j).1,.string (atE E j).2,
     .tuple #[.pointer (some ⟨c,0,none⟩),.int .i64 0],.pointer (some ⟨s,0,none⟩),.string k,.string fr,.tuple #[.pointer (some ⟨c,0,none⟩),.int .i64 0],
     .pointer (some ⟨c,0,none⟩),.int .i64 0,.int .i64 0,.bool false,undef,.int .i64 (n:Int),.bool (decide ((n:Int) < 1)),.bool (decide ((n:Int) < 1)),.int .i64 (n:Int),.bool (decide (8 < (n:Int))),
     .bool (decide ((n:Int) < 1) || decide (8 < (n:Int))),.pointer (some ⟨c,0,none⟩),.func (.func 96) #[.pointer (some ⟨c,0,none⟩)] #[],.string (atE E j).1,.string (atE E j).2,
     undef,undef,undef,undef,undef,undef,undef,undef,undef,undef,undef,undef,undef,undef,undef],defers:=[] }) ?hassign ?hbody ?hdone ?hstop EaE.supp
   case hassign =>
    intro y j W9 K hK;unfold eaV;rw[jgE];gi_wp2;exact hK
   case hbody =>
    intro y j D W9 hj hc hkp
    obtain⟨lv,hG⟩:=hc
    obtain⟨q,hq⟩:∃ q,E[j]?=some q:=⟨_,List.getElem?_eq_getElem hj⟩
    have hat:atE E j=q:=by unfold atE;rw[List.getD_eq_getElem?_getD,hq];rfl
    rw[hat]
    obtain⟨kx,vx⟩:=q
    obtain⟨ad,cp,hsl⟩:=jaH hG.row
    subst hsl;have HG:=Hd hG;have HQ:=Hd hq;have p0:=hG.b0.cell (i:=0) (v:=.string to) (by rfl);have p5:=hG.b5.cell (i:=0) (v:=.slice ad j cp) (by rfl);have p1:W9.cell? ⟨W.heap.size+1,0,none⟩=some (.int .i64 (n:Int)):=hG.b1.cell (i:=0) (by rfl);have p2:W9.cell? ⟨W.heap.size+1+1,0,none⟩=some (.slice none 0 0):=hG.b2.cell (i:=0) (by rfl);have p3:W9.cell? ⟨W.heap.size+1+1+1,0,none⟩=some (.bool false):=hG.b3.cell (i:=0) (by rfl);have p4:W9.cell? ⟨W.heap.size+1+1+1+1,0,none⟩=some (.int .i64 0):=hG.b4.cell (i:=0) (by rfl);have f2:W9.frozen? ⟨W.heap.size+1+1,0,none⟩=false:=hG.b2.frozen;have f3:W9.frozen? ⟨W.heap.size+1+1+1,0,none⟩=false:=hG.b3.frozen;have f4:W9.frozen? ⟨W.heap.size+1+1+1+1,0,none⟩=false:=hG.b4.frozen;clear hG hq hat hkp hC0 hS0;have hcmp:=cmp3 kx to
    by_cases hgt:ja9 to kx=true
    ·have HGT:=Hd hgt
     obtain⟨e1,e2⟩:=hcmp.1 hgt
     clear hcmp hgt;gi_wp2_with fail
     refine⟨D,jae.refl _ _,fun b hb=>.inl hb,.inl ⟨rfl,j,_,HG.o,hj,fun q hq=>?_⟩⟩
     rw[HQ.o]at hq;obtain rfl:=Option.some.inj hq;exact HGT.o
    ·have HGT:=Hd (show ja9 to kx=false by rw[Bool.eq_false_iff];exact hgt)
     obtain⟨b1,b2,e1,e2,e3⟩:=hcmp.2 HGT.o
     clear hcmp hgt
     by_cases hjn:j=n
     ·have hjn2:((j:Int) ==(n:Int))=true:=by simp;omega
      have HJN:=Hd hjn;clear hjn;gi_wp2_with fail
      have k2:=jae.oneSet W9 ⟨W.heap.size+1+1,0,none⟩ (.slice ad j cp);have k3:=jae.oneSet (W9.setCell ⟨W.heap.size+1+1,0,none⟩ (.slice ad j cp)) ⟨W.heap.size+1+1+1,0,none⟩ (.bool true);have k4:=jae.oneSet ((W9.setCell ⟨W.heap.size+1+1,0,none⟩ (.slice ad j cp)).setCell ⟨W.heap.size+1+1+1,0,none⟩ (.bool true)) ⟨W.heap.size+1+1+1+1,0,none⟩ (.int .i64 0);have kall:jae (fun b=>b=W.heap.size+2∨b=W.heap.size+3∨b=W.heap.size+4) W9 _:=((k2.mono (fun b _ e=>.inl e)).trans' k3 (fun b _ e=>.inr (.inl e))).trans' k4 (fun b _ e=>.inr (.inr e));have hz:=HZ.o.2;have hfar:=HG.o.far
      refine⟨D,kall.mono (fun b _ e=>(HG.o.is b).2 (.inl (by omega))),fun b hb=>.inl hb,.inr ⟨rfl,.slice ad j cp,(kx,vx),⟨HG.o.is,HG.o.b0.keeps kall (by omega),HG.o.b1.keeps kall (by omega),?_,?_,?_,HG.o.b5.keeps kall (by omega),jaG ?_ kall (fun b hb e=>by have:=hfar b hb;omega),hfar,Nat.le_refl _,?_⟩,by rw[←HJN.o];exact HQ.o,HGT.o⟩⟩
      ·exact ((HG.o.b2.set_same (i:=0) (.slice ad j cp)).set_other (p:=⟨W.heap.size+1+1+1,0,none⟩) (by show W.heap.size+2≠W.heap.size+3;omega) _).set_other (p:=⟨W.heap.size+1+1+1+1,0,none⟩) (by show W.heap.size+2≠W.heap.size+4;omega) _
      ·exact ((HG.o.b3.set_other (p:=⟨W.heap.size+1+1,0,none⟩) (by show W.heap.size+3≠W.heap.size+2;omega) _).set_same (i:=0) (.bool true)).set_other (p:=⟨W.heap.size+1+1+1+1,0,none⟩) (by show W.heap.size+3≠W.heap.size+4;omega) _
      ·exact ((HG.o.b4.set_other (p:=⟨W.heap.size+1+1,0,none⟩) (by show W.heap.size+4≠W.heap.size+2;omega) _).set_other (p:=⟨W.heap.size+1+1+1,0,none⟩) (by show W.heap.size+4≠W.heap.size+3;omega) _).set_same (i:=0) (.int .i64 0)
      ·rw[←HJN.o];exact HG.o.row
      ·rw[←HJN.o];exact HG.o.low
     ·have hjn2:((j:Int) ==(n:Int))=false:=by simp;omega
      have hm1:j+1≤maxLen:=by unfold maxLen;omega
      have hm2:(j+1) * 32≤140737488355328:=by omega
      have HJN:=Hd hjn;clear hjn p2 p3 p4 f2 f3 f4;gi_wp2_with (gi_at_builtin;refine jih Tryz.sEnts (ORow.any (ja7 HG.o.row ((ExtR W9).alloc _))) (.tmp 46) (.tmp 50) rfl rfl rfl (jbe (Blk.new W9 _)) (news:=[.string kx,.string vx]) (jeD _ _) rfl rfl hm1 hm2 ?_;intro lv' w' r1 r2 r3;have hb5:=(HG.o.b5.keeps ((ExtR W9).alloc (.cells #[.string kx,.string vx] 95)) (fun h=>h)).keeps r2 (fun e=>by have:=HG.o.far _ e;omega);have p5:=hb5.cell (i:=0) (v:=.slice ad j cp) (by rfl);have f5:w'.frozen? ⟨w1.heap.size,0,none⟩=false:=hb5.frozen;have HRR:=Hd (And.intro r1 (And.intro r2 (And.intro r3 hb5)));obtain⟨ad',cp',hv'⟩:=r1.sl;subst hv';clear r1 r2 r3 hb5)
      obtain⟨r1,r2,r3,hb5⟩:=HRR.o
      have hx9:Ext W9 (W9.alloc (.cells #[.string kx,.string vx] 95)):=(ExtR W9).alloc _;have k5:=jae.oneSet w' ⟨w1.heap.size,0,none⟩ (.slice ad' (j+1) cp');have kall:jae (fun b=>b=w1.heap.size∨(Value.slice ad j cp).ownBlock=some b) W9 (w'.setCell ⟨w1.heap.size,0,none⟩ (.slice ad' (j+1) cp')):=((hx9.mono (fun b _ e=>e.elim)).trans' r2 (fun b _ e=>.inr e)).trans' k5 (fun b _ e=>.inl e);have hz:=HZ.o.2;have hfar:=HG.o.far;have hkk:∀ i,i≤4→¬(W.heap.size+i=w1.heap.size∨(Value.slice ad j cp).ownBlock=some (W.heap.size+i)):=fun i hi e=>by
       rcases e with e | e
       ·omega
       ·have:=hfar _ e;omega
      have h9:=HG.o.b5.lt;have hfar2:∀ b,(Value.slice ad' (j+1) cp').ownBlock=some b→w1.heap.size < b:=fun b hb=>by
       rcases r3 with h | h
       ·exact hfar b (h ▸ hb)
       ·have:=h b hb;have:=hx9.size;omega
      refine⟨fun b=>(W.heap.size≤b∧b≤W.heap.size+4)∨b=w1.heap.size∨(Value.slice ad' (j+1) cp').ownBlock=some b,kall.mono (fun b _ e=>(HG.o.is b).2 (.inr e)),fun b hb=>?_,.slice ad' (j+1) cp',⟨fun b=>Iff.rfl,HG.o.b0.keeps kall (hkk 0 (by omega)),HG.o.b1.keeps kall (hkk 1 (by omega)),HG.o.b2.keeps kall (hkk 2 (by omega)),HG.o.b3.keeps kall (hkk 3 (by omega)),HG.o.b4.keeps kall (hkk 4 (by omega)),hb5.set_same (i:=0) _,jaG ?_ k5 (fun b hb e=>by have:=hfar2 b hb;have e:b=w1.heap.size:=e;omega),hfar2,?_,?_⟩⟩
      ·rcases hb with hb | hb | hb
       ·exact .inl ((HG.o.is b).2 (.inl hb))
       ·exact .inl ((HG.o.is b).2 (.inr (.inl hb)))
       ·rcases r3 with h | h
        ·exact .inl ((HG.o.is b).2 (.inr (.inr (h ▸ hb))))
        ·have:=h b hb;have:=hx9.size;exact .inr (by omega)
      ·have htk:E.take (j+1)=E.take j++[(kx,vx)]:=by rw[List.take_add_one,HQ.o];rfl
       rw[htk,jbY];exact r1.own
      ·have:=HG.o.le;have:=HJN.o;omega
      ·have htk:E.take (j+1)=E.take j++[(kx,vx)]:=by rw[List.take_add_one,HQ.o];rfl
       rw[htk];intro q hq;rcases List.mem_append.1 hq with hq | hq
       ·exact HG.o.low q hq
       ·rw[List.mem_singleton]at hq;subst hq;exact HGT.o
   case hdone =>
    intro D O W9 hkp hc hse hdis hDn hOn hbd h1 h2
    obtain⟨lv,hG⟩:=hc
    have HG:=Hd hG;have HBD:=Hd hbd;have hKX:Ext W W9:=HX2.o.trans' hkp (fun b hb e=>by
     have:=HZ.o.2
     have hc1:=HCC.o.1;rcases e with (e | e) | e | e
     ·omega
     ·omega
     ·omega
     ·have:=HCC.o.2 b e;omega)
    have HKX:=Hd hKX;have HDN:=Hd h1
    obtain⟨ad,cp,hsl⟩:=jaH hG.row
    subst hsl;have p5:=hG.b5.cell (i:=0) (v:=.slice ad E.length cp) (by rfl);have p2:W9.cell? ⟨W.heap.size+1+1,0,none⟩=some (.slice none 0 0):=hG.b2.cell (i:=0) (by rfl);have p3:W9.cell? ⟨W.heap.size+1+1+1,0,none⟩=some (.bool false):=hG.b3.cell (i:=0) (by rfl);have p4:W9.cell? ⟨W.heap.size+1+1+1+1,0,none⟩=some (.int .i64 0):=hG.b4.cell (i:=0) (by rfl);have f2:W9.frozen? ⟨W.heap.size+1+1,0,none⟩=false:=hG.b2.frozen;have f3:W9.frozen? ⟨W.heap.size+1+1+1,0,none⟩=false:=hG.b3.frozen;have f4:W9.frozen? ⟨W.heap.size+1+1+1+1,0,none⟩=false:=hG.b4.frozen;clear hG hkp hse hdis hDn hOn hbd h1 h2 hC0 hS0 hKX;gi_wp2_with fail
    obtain⟨g2,g3,g4,gk⟩:=jjv (.slice ad E.length cp) (.bool false) (.int .i64 0) HG.o.b2 HG.o.b3 HG.o.b4
    have hup:U=E.take E.length:=HRS.o.stop (Nat.le_refl _) HG.o.low (fun q hq=>by rw[List.getElem?_eq_none (Nat.le_refl _)]at hq;cases hq);have hle:=HG.o.le;have hz:=HZ.o;refine jmo HBD.o (by omega) HN.o.1 HN.o.2 HKX.o gk g2 g3 g4 HG.o.row (fun b hb=>⟨by have:=HG.o.far b hb;omega,fun e=>HDN.o ((HG.o.is _).2 (.inr (.inr (by rw[←e];exact hb))))⟩) (Nat.le_refl _) ?_ ?_ rfl rfl rfl
    ·rw[hup,List.take_take,Nat.min_eq_right hle]
    ·rw[hup,List.length_take,Nat.min_self];simp;omega
   case hstop =>
    intro cd k9 D O W9 hk1 hk2 hkp hj hse hdis hDn hOn hbd h1 h2;have HBD:=Hd hbd;have hKX:Ext W W9:=HX2.o.trans' hkp (fun b hb e=>by
     have:=HZ.o.2
     have hc1:=HCC.o.1;rcases e with (e | e) | e | e
     ·omega
     ·omega
     ·omega
     ·have:=HCC.o.2 b e;omega)
    have HKX:=Hd hKX;have HDN:=Hd h1;clear hkp hse hdis hDn hOn hbd hC0 hS0 hKX;rcases hj with⟨rfl,k,lv,hG,hke,hstop⟩ |⟨rfl,lv,q,hG,hq,hlow⟩
    ·have HG:=Hd hG
     have HSTP:=Hd (And.intro hke hstop)
     obtain⟨ad,cp,hsl⟩:=jaH hG.row
     subst hsl;have p5:=hG.b5.cell (i:=0) (v:=.slice ad k cp) (by rfl);have p2:W9.cell? ⟨W.heap.size+1+1,0,none⟩=some (.slice none 0 0):=hG.b2.cell (i:=0) (by rfl);have p3:W9.cell? ⟨W.heap.size+1+1+1,0,none⟩=some (.bool false):=hG.b3.cell (i:=0) (by rfl);have p4:W9.cell? ⟨W.heap.size+1+1+1+1,0,none⟩=some (.int .i64 0):=hG.b4.cell (i:=0) (by rfl);have f2:W9.frozen? ⟨W.heap.size+1+1,0,none⟩=false:=hG.b2.frozen;have f3:W9.frozen? ⟨W.heap.size+1+1+1,0,none⟩=false:=hG.b3.frozen;have f4:W9.frozen? ⟨W.heap.size+1+1+1+1,0,none⟩=false:=hG.b4.frozen;clear hG hke hstop h1 h2;gi_wp2_with fail
     obtain⟨g2,g3,g4,gk⟩:=jjv (.slice ad k cp) (.bool false) (.int .i64 0) HG.o.b2 HG.o.b3 HG.o.b4
     have hup:U=E.take k:=HRS.o.stop (Nat.le_of_lt HSTP.o.1) HG.o.low HSTP.o.2;have hle:=HG.o.le;have hz:=HZ.o;have hkl:=HSTP.o.1;refine jmo HBD.o (by omega) HN.o.1 HN.o.2 HKX.o gk g2 g3 g4 HG.o.row (fun b hb=>⟨by have:=HG.o.far b hb;omega,fun e=>HDN.o ((HG.o.is _).2 (.inr (.inr (by rw[←e];exact hb))))⟩) (by omega) ?_ ?_ rfl rfl rfl
     ·rw[hup,List.take_take,Nat.min_eq_right hle]
     ·rw[hup,List.length_take];simp;omega
    ·gi_wp2
     obtain⟨u1,u2⟩:=HRS.o.more hG.low hq hlow
     have hz:=HZ.o;have hnl:=(List.getElem?_eq_some_iff.1 hq).1;exact jmo HBD.o (by omega) HN.o.1 HN.o.2 HKX.o (jae.refl _ _) hG.b2 hG.b3 hG.b4 hG.row (fun b hb=>⟨by have:=hG.far b hb;omega,fun e=>HDN.o ((hG.is _).2 (.inr (.inr (by rw[←e];exact hb))))⟩) (by omega) u1 (by rw[decide_eq_true u2]) rfl rfl rfl
theorem jpC(W:World)(s bm:Nat)(room:Int)(S:List Nd5)(fr to:ByteArray)(l:List Pair)(limit:Int)(hf:fr.size≤100000)(hM:HasM S l)(hs:jat W s bm room S) :
  Calls Tryz.prog 40 #[.pointer (some ⟨s,0,none⟩),.string (shaB (ja2 l).text),.string fr,.string to,.int .i64 limit] W (jp8 (jeP fr l) to limit W):=
 jh0 W s bm room S fr to _ (jeP fr l) _ limit hf (fun w e=>by
  have h:=jjA w s bm room S fr l hf hM (hs.ext e);unfold jjP at h;rw[jeh]at h;exact h) (by
  have:=(jbT hM.ok).len
  unfold jeP
  have:=List.length_filter_le (fun p:Pair => !ja9 p.1 fr) l
  omega) (IsUp.rise ((jbT hM.ok).rise.filter _)) hs
end
section
open Go Go.RowKit
theorem jfF:∀ l:List UInt8,l.length % 2=0→l.all (·≤15)=true→jcg (jbI l)=l
 | [],_,_=>rfl
 | [x],h,_=>by simp at h
 | x :: y :: r,h,ha=>by
  rw[List.all_cons,List.all_cons,Bool.and_eq_true,Bool.and_eq_true]at ha
  obtain⟨hx,hy,hr⟩:=ha
  have hx:x.toNat < 16:=by have h:x≤15:=of_decide_eq_true hx;have:x.toNat≤15:=h;omega
  have hy:y.toNat < 16:=by have h:y≤15:=of_decide_eq_true hy;have:y.toNat≤15:=h;omega
  have h1:∀ a b:Fin 16,((UInt8.ofNat a.1) <<< 4 ||| UInt8.ofNat b.1) >>> 4=UInt8.ofNat a.1∧((UInt8.ofNat a.1) <<< 4 ||| UInt8.ofNat b.1) &&& 15=UInt8.ofNat b.1:=by decide +kernel
  have h2:=h1 ⟨x.toNat,hx⟩ ⟨y.toNat,hy⟩;simp only[UInt8.ofNat_toNat]at h2;show ((x <<< 4 ||| y) >>> 4) ::((x <<< 4 ||| y) &&& 15) :: jcg (jbI r)=_;rw[h2.1,h2.2,jfF r (by simp only[List.length_cons]at h;omega) hr]
theorem jiH{p:ByteArray}(h:jck p=true):jaL (jbD p)=p:=by
 unfold jck at h;rw[Bool.and_eq_true]at h;refine jk8 ?_;show (jcg (jbI p.data.toList)).toArray.toList=_;rw[List.toList_toArray];exact jfF _ (by have:=h.1;have e:p.data.toList.length=p.size:=rfl;rw[e];simpa using this) h.2
theorem jmI{S:List Nd5}{fr:ByteArray}{k:Nat}{ts:List Pl5}{R:List Pair}(h:jdk S fr k ts R):∀ q∈R,jck q.1=true:=by
 induction h with
 | nil=>exact fun q hq=>by cases hq
 | val k t r R _ h2 _ _ ih =>
  intro q hq;rcases List.mem_cons.1 hq with rfl | hq
  ·exact h2
  ·exact ih q hq
 | many=>exact fun q hq=>by cases hq
 | no=>exact fun q hq=>by cases hq
 | go k t r n R _ hk _ _ _ ih=>exact ih
theorem jpO{R:List Pair}(h:∀ q∈R,jck q.1=true):jaV (R.map fun q=>(jbD q.1,q.2))=R:=by
 unfold jaV;rw[List.map_map]
 conv=>rhs;rw[←List.map_id R]
 refine List.map_congr_left fun q hq=>?_;show (jaL (jbD q.1),q.2)=q;rw[jiH (h q hq)]
theorem jfL{S:List Nd5}(hN:AllN S)(fr k:ByteArray)(hf:fr.size≤100000)(s bm:Nat)(room:Int)(y:Nd5)(hy:atL S k.data.toList=some y) :
  ∃ E:List Pair,E.length≤8000∧∀ W,jat W s bm room S→Calls Tryz.prog 42 #[.pointer (some ⟨s,0,none⟩),.string k,.string fr] W (jjO S s fr (jaV E) W):=by
 obtain⟨n,h1,d,hg⟩:=hN y (jaR hy).1
 obtain⟨R,hR⟩:=jmG hN (jaL fr) 399 1 (layP (jaL fr) n ⟨#[]⟩).reverse (by omega) fun x hx=>jlT (k:=0) hg (by show 0≤_;omega) x (List.mem_reverse.1 hx)
 have hl:=jjG hR;have hl2:=jfz (jaL fr) n ⟨#[]⟩;rw[List.length_reverse]at hl
 refine⟨R.map fun q=>(jbD q.1,q.2),by rw[List.length_map];omega,fun W hs=>?_⟩
 rw[jpO (jmI hR)];exact jgV W s bm room S fr k R hf hs y hy d n hg h1 hR
theorem jq0(to:ByteArray)(E:List Pair):IsUp to E (E.takeWhile fun p => !ja9 to p.1):=by
 have hall:∀ (k:Nat) (E:List Pair),(∀ q∈E.take k,ja9 to q.1=false)→E.takeWhile (fun p => !ja9 to p.1)=E.take k++(E.drop k).takeWhile fun p => !ja9 to p.1:=by
  intro k;induction k with
  | zero=>intro E _;rfl
  | succ k ih =>
   intro E h;cases E with
   | nil=>rfl
   | cons a E =>
    rw[List.takeWhile_cons,h a (by simp),List.take_succ_cons,List.drop_succ_cons];simp only[Bool.not_false,if_true,List.cons_append];rw[ih E fun q hq=>h q (by rw[List.take_succ_cons];exact List.mem_cons_of_mem _ hq)]
 refine⟨fun {k} hk h1 h2=>?_,fun {k q} h1 h2 h3=>?_⟩
 ·rw[hall k E h1]
  by_cases hlt:k < E.length
  ·rw[List.drop_eq_getElem_cons hlt,List.takeWhile_cons,h2 _ (List.getElem?_eq_getElem hlt)]
   simp
  ·rw[List.drop_of_length_le (by omega)];simp
 ·obtain⟨hlt,he⟩:=List.getElem?_eq_some_iff.1 h2
  have hl:(E.take k).length=k:=by rw[List.length_take];omega
  rw[hall k E h1]
  refine⟨by rw[List.take_left' hl],?_⟩
  rw[List.length_append,hl,List.drop_eq_getElem_cons hlt,he,List.takeWhile_cons,h3]
  simp
def Tup3(W:World)(e:Ending)(w':World):Prop:=(∃ x y z,e=.returned (.tuple #[x,y,z]))∧Ext W w'
theorem jnU(W:World)(s bm:Nat)(room:Int)(S:List Nd5)(hN:AllN S)(fr k:ByteArray)(limit:Int)(hf:fr.size≤100000)(hs:jat W s bm room S)(y:Nd5)(hy:atL S k.data.toList=some y) :
  Calls Tryz.prog 39 #[.pointer (some ⟨s,0,none⟩),.string k,.string fr,.int .i64 limit] W (Tup3 W):=by
 obtain⟨E,_,hE⟩:=jfL hN fr k hf s bm room y hy
 refine (jjo W s bm room S fr k E limit hf (hE W hs) hs).mono fun e w' ⟨h1,h2⟩=>⟨?_,h1⟩;split at h2
 ·obtain⟨lv,h2,_⟩:=h2;exact⟨_,_,_,h2⟩
 ·exact⟨_,_,_,h2⟩
theorem jmg(W:World)(s bm:Nat)(room:Int)(S:List Nd5)(hN:AllN S)(fr to k:ByteArray)(limit:Int)(hf:fr.size≤100000)(hs:jat W s bm room S)(y:Nd5)(hy:atL S k.data.toList=some y) :
  Calls Tryz.prog 40 #[.pointer (some ⟨s,0,none⟩),.string k,.string fr,.string to,.int .i64 limit] W (Tup3 W):=by
 obtain⟨E,hl,hE⟩:=jfL hN fr k hf s bm room y hy
 refine (jh0 W s bm room S fr to k E _ limit hf (fun w e=>hE w (hs.ext e)) hl (jq0 to E) hs).mono fun e w' ⟨h1,h2⟩=>⟨?_,h1⟩;split at h2
 ·obtain⟨lv,h2,_⟩:=h2;exact⟨_,_,_,h2⟩
 ·exact⟨_,_,_,h2⟩
theorem je7(W:World)(s bm:Nat)(room:Int)(S:List Nd5)(hN:AllN S)(k:ByteArray)(hs:jat W s bm room S)(y:Nd5)(hy:atL S k.data.toList=some y) :
  Calls Tryz.prog 41 #[.pointer (some ⟨s,0,none⟩),.string k] W fun e w'=>(∃ n:Nat,e=.returned (.tuple #[.int .i64 n,.int .i64 0]))∧Ext W w':=by
 obtain⟨E,hl,hE⟩:=jfL hN ⟨#[]⟩ k (by simp[ByteArray.size]) s bm room y hy
 exact (jhs W s bm room S k E (hE W hs) hl hs).mono fun e w' ⟨h1,h2⟩=>⟨⟨_,h1⟩,h2⟩
end
section
open Go Go.RowKit
attribute [local go_sem] Oper.semAt_some
def jd5(k:Key)(L:List Nd5):List Nd5:=L.map fun x=>if x.1=k then (x.1,x.2.1,putF 2 (x.2.2.used+1) x.2.2)else x
def jdl(T:List ByteArray)(L:List Nd5):List Nd5:=T.foldl (fun L r=>jd5 r.data.toList L) L
theorem jjZ(T:List ByteArray)(r:ByteArray)(L:List Nd5):jdl (T++[r]) L=jd5 r.data.toList (jdl T L):=by unfold jdl;rw[List.foldl_append];rfl
theorem jjY(k:Key)(L:List Nd5):(jd5 k L).map (·.1)=L.map (·.1):=by
 unfold jd5;rw[List.map_map];refine List.map_congr_left (fun x _=>?_);simp only[Function.comp];split <;> rfl
theorem jjX(k:Key)(L:List Nd5):(jd5 k L).map (·.2.1)=L.map (·.2.1):=by
 unfold jd5;rw[List.map_map];refine List.map_congr_left (fun x _=>?_);simp only[Function.comp];split <;> rfl
theorem jeq:∀ (T:List ByteArray) (L:List Nd5),(jdl T L).map (·.1)=L.map (·.1)
 | [],_=>rfl
 | r :: T,L=>by
  show (jdl T (jd5 r.data.toList L)).map (·.1)=_;rw[jeq T,jjY]
theorem jep:∀ (T:List ByteArray) (L:List Nd5),(jdl T L).map (·.2.1)=L.map (·.2.1)
 | [],_=>rfl
 | r :: T,L=>by
  show (jdl T (jd5 r.data.toList L)).map (·.2.1)=_;rw[jep T,jjX]
theorem jiS{A B:List Nd5}(h:A.map (·.1)=B.map (·.1))(k:Key):(atL A k).isSome=(atL B k).isSome:=by
 have e:∀ L:List Nd5,(atL L k).isSome=(L.map (·.1)).any (fun y=>decide (k=y)):=fun L=>by
  unfold atL;rw[List.isSome_find?,List.any_map];rfl
 rw[e,e,h]
theorem jf3:∀ (T:List ByteArray) (L:List Nd5) (lo hi:Int),(∀ x∈L,lo≤x.2.2.used∧x.2.2.used≤hi)→∀ x∈jdl T L,lo≤x.2.2.used∧x.2.2.used≤hi+T.length
 | [],L,lo,hi,h=>fun x hx=>by have:=h x hx;simp;exact this
 | r :: T,L,lo,hi,h=>fun x hx=>by
  have:=jf3 T (jd5 r.data.toList L) lo (hi+1) (fun y hy=>by
   obtain⟨z,hz,rfl⟩:=List.mem_map.1 hy
   have:=h z hz
   split
   ·simp only[putF,if_true];omega
   ·omega) x hx
  rw[List.length_cons];omega
def kvR(x:Nd5):Nat × ByteArray × List ByteArray:=(x.2.1,x.2.2.text,x.2.2.refs)
def Like(W:World)(bg:Nat)(G:List Nd5):Prop:=∃ G',jcm W bg G'∧∀ k,(atL G' k).map kvR=(atL G k).map kvR
theorem jm5(f c:Nat)(v:Int)(L:List Nd5)(k:Key):atL (L.map (setB f c v)) k=(atL L k).map (setB f c v):=by
 unfold atL;rw[List.find?_map]
 congr 1
 refine congrFun (congrArg _ (funext fun x=>?_)) L;simp only[Function.comp,setB];split <;> rfl
theorem jnG(f c:Nat)(v:Int)(x:Nd5):kvR (setB f c v x)=kvR x:=by
 unfold setB kvR putF
 by_cases e:x.2.1=c
 ·rw[if_pos e]
  by_cases e2:f=2
  ·rw[if_pos e2]
  ·rw[if_neg e2]
 ·rw[if_neg e]
theorem Like.setF{W:World}{bg:Nat}{G:List Nd5}(h:Like W bg G){c:Nat}{it:It}(hc:jdg W c it){f:Nat}(hf:f=2∨f=3)(v:Int):Like (W.setCell ⟨c,f,none⟩ (.int .i64 v)) bg G:=by
 obtain⟨G',h1,h2⟩:=h
 refine⟨_,h1.setF hc hf v,fun k=>?_⟩
 rw[jm5,Option.map_map, ←h2 k]
 congr 1
 funext x
 exact jnG f c v x
theorem jmt{W:World}{bm:Nat}{L:List Nd5}(h:jcm W bm L){k:Key}{y:Nd5}(hy:atL L k=some y):L.map (setB 2 y.2.1 (y.2.2.used+1))=jd5 k L:=by
 obtain⟨es,ck,_,h2⟩:=h.mp
 have hk:=h2.keys;rw[List.map_map]at hk;have hk:(L.map (·.1)).Nodup:=hk;unfold jd5;refine List.map_congr_left (fun x hx=>?_);unfold setB
 by_cases e:x.2.1=y.2.1
 ·have:x=y:=jbG h.blks hx (jaR hy).1 e
  subst this;rw[if_pos rfl,if_pos (jaR hy).2]
 ·rw[if_neg e,if_neg]
  intro e2
  have:x=y:=jbG hk hx (jaR hy).1 (e2.trans (jaR hy).2.symm)
  subst this;exact e rfl
structure Ad2(w5:World)(s bm bg:Nat)(room:Int)(S1 G:List Nd5)(F:List ByteArray)(v:Value)(T:List ByteArray)(W:World):Prop where
 kp:jae (fun z=>z∈S1.map (·.2.1)) w5 W
 st:jat W s bm room (jdl T S1)
 gv:Like W bg G
 row:W.ownsRow 0 9 1 v F.length (F.map Value.string)
theorem Ad2.bump{w5:World}{s bm bg:Nat}{room:Int}{S1 G:List Nd5}{F:List ByteArray}{v:Value}{T:List ByteArray}{W:World}(h:Ad2 w5 s bm bg room S1 G F v T W)
  (hu:∀ x∈S1,0≤x.2.2.used∧x.2.2.used≤1000000000) (hT:T.length≤1000000) (r:ByteArray) (hr:(atL S1 r.data.toList).isSome=true) :
  ∃ (zb:Nat) (u:Int),(Instr.lookup 115 (.map (some bm)) (.string r) false).run Tryz.prog W=.ok (.pointer (some ⟨zb,0,none⟩)) W∧W.cell? ⟨zb,2,none⟩=some (.int .i64 u)∧W.frozen? ⟨zb,2,none⟩=false∧0≤u∧u≤2000000000 ∧
   Ad2 w5 s bm bg room S1 G F v (T++[r]) (W.setCell ⟨zb,2,none⟩ (.int .i64 (u+1)))∧∀ rv n xs,W.ownsRow 0 9 1 rv n xs→(W.setCell ⟨zb,2,none⟩ (.int .i64 (u+1))).ownsRow 0 9 1 rv n xs:=by
 have hs:(atL (jdl T S1) r.data.toList).isSome=true:=by rw[jiS (jeq T S1)];exact hr
 obtain⟨y,hy⟩:=Option.isSome_iff_exists.1 hs
 have hym:=(jaR hy).1;have hi:=h.st.mp.items y hym
 obtain⟨rv,hb,hrw⟩:=hi.cells
 have hlk:=h.st.mp.look r false;rw[hy]at hlk;simp only[Bool.false_eq_true,if_false]at hlk;have hK:jae (fun z=>z=y.2.1) W (W.setCell ⟨y.2.1,2,none⟩ (.int .i64 (y.2.2.used+1))):=jae.oneSet W ⟨y.2.1,2,none⟩ _;have hN:jfR W (fun z=>z=y.2.1):=fun z cur fz e hz=>by
  have e:z=y.2.1:=e;subst e
  have:=hb.uniq hz;injection this with _ h2;exact absurd h2 (by decide)
 have hyb:y.2.1∈S1.map (·.2.1):=by rw[←jep T S1];exact List.mem_map.2 ⟨y,hym,rfl⟩
 have hub:=jf3 T S1 0 1000000000 hu y hym
 refine⟨y.2.1,y.2.2.used,hlk,hb.cell (i:=2) (by rfl),hb.frozen,hub.1,by omega,⟨h.kp.trans (hK.mono (fun z _ e=>by have e:z=_:=e;rw[e];exact hyb)),⟨h.st.st.keeps hK (fun e=>?_),?_⟩,h.gv.setF hi (.inl rfl) _,jei h.row hK hN⟩,fun rv n xs hx=>jei hx hK hN⟩
 ·have e:s=y.2.1:=e
  rw[e]at h
  have:=hb.uniq h.st.st;injection this with _ h2;exact absurd h2 (by decide)
 ·rw[jjZ, ←jmt h.st.mp hy]
  exact h.st.mp.setF hi (.inl rfl) _
def jhp(k:Key)(L:List Nd5):List Nd5:=L.map fun x=>if x.1=k then (x.1,x.2.1,putF 3 (x.2.2.held+1) x.2.2)else x
theorem jkC{W:World}{bm:Nat}{L:List Nd5}(h:jcm W bm L){k:Key}{y:Nd5}(hy:atL L k=some y):L.map (setB 3 y.2.1 (y.2.2.held+1))=jhp k L:=by
 obtain⟨es,ck,_,h2⟩:=h.mp
 have hk:=h2.keys;rw[List.map_map]at hk;have hk:(L.map (·.1)).Nodup:=hk;unfold jhp;refine List.map_congr_left (fun x hx=>?_);unfold setB
 by_cases e:x.2.1=y.2.1
 ·have:x=y:=jbG h.blks hx (jaR hy).1 e
  subst this;rw[if_pos rfl,if_pos (jaR hy).2]
 ·rw[if_neg e,if_neg]
  intro e2
  have:x=y:=jbG hk hx (jaR hy).1 (e2.trans (jaR hy).2.symm)
  subst this;exact e rfl
theorem jf2:∀ (T:List ByteArray) (L:List Nd5) (lo hi:Int),(∀ x∈L,lo≤x.2.2.held∧x.2.2.held≤hi)→∀ x∈jdl T L,lo≤x.2.2.held∧x.2.2.held≤hi
 | [],L,lo,hi,h=>fun x hx=>h x hx
 | r :: T,L,lo,hi,h=>fun x hx=>by
  refine jf2 T (jd5 r.data.toList L) lo hi (fun y hy=>?_) x hx
  obtain⟨z,hz,rfl⟩:=List.mem_map.1 hy
  have:=h z hz
  split
  ·simp only[putF,if_true];exact this
  ·exact this
theorem Ad2.hold{w5:World}{s bm bg:Nat}{room:Int}{S1 G:List Nd5}{F:List ByteArray}{v:Value}{T:List ByteArray}{W:World}(h:Ad2 w5 s bm bg room S1 G F v T W)
  (hu:∀ x∈S1,0≤x.2.2.held∧x.2.2.held≤1000000000) (r:ByteArray) (hr:(atL S1 r.data.toList).isSome=true) :
  ∃ (zb:Nat) (u:Int),(Instr.lookup 115 (.map (some bm)) (.string r) false).run Tryz.prog W=.ok (.pointer (some ⟨zb,0,none⟩)) W∧W.cell? ⟨zb,3,none⟩=some (.int .i64 u)∧W.frozen? ⟨zb,3,none⟩=false∧0≤u∧u≤1000000000 ∧
   jat (W.setCell ⟨zb,3,none⟩ (.int .i64 (u+1))) s bm room (jhp r.data.toList (jdl T S1))∧jae (fun z=>z∈S1.map (·.2.1)) w5 (W.setCell ⟨zb,3,none⟩ (.int .i64 (u+1))):=by
 have hs:(atL (jdl T S1) r.data.toList).isSome=true:=by rw[jiS (jeq T S1)];exact hr
 obtain⟨y,hy⟩:=Option.isSome_iff_exists.1 hs
 have hym:=(jaR hy).1;have hi:=h.st.mp.items y hym
 obtain⟨rv,hb,hrw⟩:=hi.cells
 have hlk:=h.st.mp.look r false;rw[hy]at hlk;simp only[Bool.false_eq_true,if_false]at hlk;have hK:jae (fun z=>z=y.2.1) W (W.setCell ⟨y.2.1,3,none⟩ (.int .i64 (y.2.2.held+1))):=jae.oneSet W ⟨y.2.1,3,none⟩ _;have hyb:y.2.1∈S1.map (·.2.1):=by rw[←jep T S1];exact List.mem_map.2 ⟨y,hym,rfl⟩
 have hub:=jf2 T S1 0 1000000000 hu y hym
 refine⟨y.2.1,y.2.2.held,hlk,hb.cell (i:=3) (by rfl),hb.frozen,hub.1,hub.2,⟨h.st.st.keeps hK (fun e=>?_),?_⟩,h.kp.trans (hK.mono (fun z _ e=>by have e:z=_:=e;rw[e];exact hyb))⟩
 ·have e:s=y.2.1:=e
  rw[e]at h
  have:=hb.uniq h.st.st;injection this with _ h2;exact absurd h2 (by decide)
 ·rw[←jkC h.st.mp hy]
  exact h.st.mp.setF hi (.inr rfl) _
def jb8(G:List Nd5)(F:List ByteArray):List Nd5:=F.filterMap fun x=>atL G x.data.toList
theorem jks{G:List Nd5}{F:List ByteArray}{i:Nat}{x:ByteArray}{y:Nd5}(hx:F[i]?=some x)(hy:atL G x.data.toList=some y):jb8 G (F.take (i+1))=jb8 G (F.take i)++[y]:=by
 unfold jb8;rw[List.take_add_one,hx,List.filterMap_append];simp[hy]
theorem jbt{G:List Nd5}{F:List ByteArray}{y:Nd5}(h:y∈jb8 G F):y∈G∧∃ x∈F,y.1=x.data.toList:=by
 obtain⟨x,hx,e⟩:=List.mem_filterMap.1 h
 exact⟨(jaR e).1,x,hx,(jaR e).2⟩
theorem jo6{A B:List Nd5}{k:Key}(h:∀ x∈B,k≠x.1):atL (A++B) k=atL A k:=by
 unfold atL;rw[List.find?_append]
 have:B.find? (fun x=>decide (k=x.1))=none:=by rw[List.find?_eq_none];simpa using h
 rw[this];simp
theorem jcm.notRow{W:World}{bm:Nat}{L:List Nd5}(h:jcm W bm L):jfR W (fun z=>z=bm):=fun z cur fz e hz=>by
 obtain⟨es,ck,h1,_⟩:=h.mp
 have e:z=bm:=e;subst e
 have:=h1.uniq hz;cases this
structure Ad1(w4:World)(s bm bg:Nat)(room:Int)(S G:List Nd5)(F:List ByteArray)(v:Value)(i:Nat)(W:World):Prop where
 kp:jae (fun z=>z=bm) w4 W
 st:jat W s bm room (S++jb8 G (F.take i))
 gv:jcm W bg G
 row:W.ownsRow 0 9 1 v F.length (F.map Value.string)
theorem Ad1.ext{w4:World}{s bm bg:Nat}{room:Int}{S G:List Nd5}{F:List ByteArray}{v:Value}{i:Nat}{W W':World}(h:Ad1 w4 s bm bg room S G F v i W)(e:Ext W W'):Ad1 w4 s bm bg room S G F v i W':=
 ⟨h.kp.trans (e.mono (fun _ _ g=>g.elim)),h.st.ext e,h.gv.ext e,ja7 h.row e⟩
theorem Ad1.put{w4:World}{s bm bg:Nat}{room:Int}{S G:List Nd5}{F:List ByteArray}{v:Value}{i:Nat}{W:World}(h:Ad1 w4 s bm bg room S G F v i W)
  (hSG:∀ x∈S,∀ y∈G,x.2.1≠y.2.1) (hbg:bg≠bm) (hv:∀ z,v.ownBlock=some z→z≠bm) (hnd:F.Nodup) (hFS:∀ x∈F,atL S x.data.toList=none)
  {x:ByteArray} {y:Nd5} (hx:F[i]?=some x) (hy:atL G x.data.toList=some y) :
  ∃ o,(Instr.mapUpdate 115 (.map (some bm)) (.string x) (.pointer (some ⟨y.2.1,0,none⟩))).run Tryz.prog W=.ok () (W.putObj bm o)∧Ad1 w4 s bm bg room S G F v (i+1) (W.putObj bm o):=by
 have hk:∀ z∈jb8 G (F.take i),x.data.toList≠z.1:=fun z hz e=>by
  obtain⟨_,x',hx',e'⟩:=jbt hz
  have:=jin (e.trans e')
  subst this;exact jkn hnd hx hx'
 have hn:atL (S++jb8 G (F.take i)) x.data.toList=none:=by rw[jo6 hk];exact hFS x (List.mem_of_getElem? hx)
 have hym:=(jaR hy).1;have hy1:=(jaR hy).2;have hblk:∀ z∈S++jb8 G (F.take i),z.2.1≠y.2.1:=fun z hz e=>by
  rcases List.mem_append.1 hz with hz | hz
  ·exact hSG z hz y hym e
  ·have:=jbG h.gv.blks (jbt hz).1 hym e
   subst this;exact hk z hz hy1.symm
 obtain⟨o,hmu,hA⟩:=h.st.mp.put x hn (h.gv.items y hym) hblk
 have hK:jae (fun z=>z=bm) W (W.putObj bm o):=jae.onePut W bm o;have hN:=h.st.mp.notRow;have hie:∀ {c:Nat} {it:It},jdg W c it→¬ c=bm:=fun hi e=>by
  obtain⟨_,hc,_⟩:=hi.cells
  obtain⟨es,ck,h1,_⟩:=h.st.mp.mp
  subst e
  have:=h1.uniq hc;cases this
 refine⟨o,hmu,h.kp.trans hK,⟨h.st.st.keeps hK (fun e=>?_),?_⟩,h.gv.keeps hK hbg (fun z hz=>hie (h.gv.items z hz)) hN,jaG h.row hK (fun z hz e=>hv z hz e)⟩
 ·have e:s=bm:=e
  obtain⟨es,ck,h1,_⟩:=h.st.mp.mp
  subst e
  have:=h1.uniq h.st.st;cases this
 ·rw[jks hx hy, ←List.append_assoc]
  have e:(x.data.toList,y.2.1,y.2.2)=y:=by rw[←hy1]
  rw[e]at hA;exact hA
theorem jqi(A B:List Nd5)(k:Key):(atL (A++B) k).isSome=((atL A k).isSome ||(atL B k).isSome):=by
 unfold atL;rw[List.find?_append,Option.isSome_or]
def AdR2(w5:World)(s bm bg:Nat)(room:Int)(S1 G:List Nd5)(F:List ByteArray)(v iv:Value)(W:World):Prop:=∃ i:Nat,i≤F.length∧iv=.int .i64 i∧Ad2 w5 s bm bg room S1 G F v ((F.take i).flatMap (jbE G)) W
def AdR3(w5:World)(s bm bg:Nat)(room:Int)(S1 G:List Nd5)(F:List ByteArray)(v:Value)(T R:List ByteArray)(rv jv:Value)(W:World):Prop:=∃ j:Nat,j≤R.length∧jv=.int .i64 j∧Ad2 w5 s bm bg room S1 G F v (T++R.take j) W∧W.ownsRow 0 9 1 rv R.length (R.map Value.string)
def AdR1(w4:World)(s bm bg:Nat)(room:Int)(S G:List Nd5)(F:List ByteArray)(v iv:Value)(W:World):Prop:=∃ i:Nat,i≤F.length∧iv=.int .i64 i∧Ad1 w4 s bm bg room S G F v i W
theorem jmA(w:World)(a:Option Addr)(c:Nat):Calls Tryz.prog 81 #[.slice a 0 c] w fun e w'=>e=.returned (.tuple #[.map none,.int .i64 2])∧Ext w w':=by
 go_enter Tryz.func81,Tryz.ntmps81;go_wp2_with fail
 go_ret2
 exact⟨rfl,ExtR w⟩
theorem jo3(w:World)(p:Value)(a:Option Addr)(c:Nat):Calls Tryz.prog 27 #[p,.slice a 0 c] w fun e w'=>e=.returned (.tuple #[.string ⟨#[]⟩,.int .i64 2])∧Ext w w':=by
 go_enter Tryz.func27,Tryz.ntmps27;go_wp2_with fail
 refine (jmA w a c).mono ?_;rintro e w1 ⟨rfl,hE⟩;have HE:=Hd hE;clear hE;go_wp2_with fail
 go_ret2
 exact⟨rfl,HE.o⟩
end
section
open Go Go.RowKit
theorem jjp(s:ByteArray):(jaL s).size=2 * s.size:=by
 have:∀ l:List UInt8,(jcg l).length=2 * l.length:=by
  intro l;induction l with
  | nil=>rfl
  | cons x r ih=>unfold jcg at ih ⊢;rw[List.flatMap_cons,List.length_append,ih];simp;omega
 exact this s.data.toList
theorem jn0(s:ByteArray):jbc (jaL s)=true:=jew s
def jfZ(s:ByteArray):ByteArray × Bool × Bool:=
 if s.size=0 then (⟨#[]⟩,false,false)
 else if 3 < ((jaL s).data.toList.getD 0 0).toNat then (⟨#[]⟩,false,false)
 else if ((jaL s).data.toList.getD 0 0).toNat=3∨((jaL s).data.toList.getD 0 0).toNat=1 then ((jaL s).extract 1 (jaL s).size,decide (((jaL s).data.toList.getD 0 0).toNat=3),true)
 else if ((jaL s).data.toList.getD 1 0).toNat=0 then ((jaL s).extract 2 (jaL s).size,decide (((jaL s).data.toList.getD 0 0).toNat=2),true)
 else (⟨#[]⟩,false,false)
theorem jnN(s:ByteArray):jbc (jfZ s).1=true∧(jfZ s).1.size≤2 * s.size:=by
 have hv:=jn0 s;have hl:=jjp s;have h0:jbc (⟨#[]⟩:ByteArray)=true∧(⟨#[]⟩:ByteArray).size≤2 * s.size:=⟨by decide,Nat.zero_le _⟩;unfold jfZ;split
 ·exact h0
 ·split
  ·exact h0
  ·split
   ·exact⟨jek hv _ _,by show (ByteArray.extract _ _ _).size≤_;rw[ByteArray.size_extract];omega⟩
   ·split
    ·exact⟨jek hv _ _,by show (ByteArray.extract _ _ _).size≤_;rw[ByteArray.size_extract];omega⟩
    ·exact h0
def jp5(w:World)(s:ByteArray)(e:Ending)(w':World):Prop:=e=.returned (.tuple #[.string (jfZ s).1,.bool (jfZ s).2.1,.bool (jfZ s).2.2])∧Ext w w'
def jkQ(w:World)(e:Ending)(w':World):Prop:=e=.returned (.tuple #[.string ⟨#[]⟩,.bool false,.bool false])∧Ext w w'
theorem jnu(w:World)(s:ByteArray)(hs:s.size≤1000000)(hx:jaL s=⟨#[]⟩):Calls Tryz.prog 228 #[.string s] w (jkQ w):=by
 go_enter Tryz.func228,Tryz.ntmps228;go_wp2_with fail
 refine (jfE w s hs).mono ?_;rintro e w1 ⟨rfl,hE⟩;rw[hx];have HE:=Hd hE;clear hE hx hs;go_wp2_with fail
 exact bodyPost_ret (v:=.tuple #[.string ⟨#[]⟩,.bool false,.bool false]) (by kernel_rfl) rfl ⟨rfl,HE.o⟩
theorem jnt(w:World)(s:ByteArray)(hs:s.size≤1000000)(x:ByteArray)(hx:jaL s=x)(h2:2≤x.size)(h0:3 < x[0].toNat):Calls Tryz.prog 228 #[.string s] w (jkQ w):=by
 go_enter Tryz.func228,Tryz.ntmps228;go_wp2_with fail
 refine (jfE w s hs).mono ?_;rintro e w1 ⟨rfl,hE⟩;rw[hx];have HE:=Hd hE;clear hE hx hs;have hne:=jaO (s:=x) (by omega);have c0:(0:Int) < (x.size:Int):=by omega
 have d3:((x[0].toNat:Int) == 3)=false:=by simp;omega
 have d2:((x[0].toNat:Int) == 2)=false:=by simp;omega
 have d1:((x[0].toNat:Int) == 1)=false:=by simp;omega
 have d0:((x[0].toNat:Int) == 0)=false:=by simp;omega
 clear h0;go_wp2_with fail
 exact bodyPost_ret (v:=.tuple #[.string ⟨#[]⟩,.bool false,.bool false]) (by kernel_rfl) rfl ⟨rfl,HE.o⟩
theorem jlI(w:World)(s:ByteArray)(hs:s.size≤1000000)(leaf:Bool)(x:ByteArray)(hx:jaL s=x)(h2:2≤x.size)(h0:x[0].toNat=if leaf then 2 else 0)(h1:x[1].toNat≠0) :
  Calls Tryz.prog 228 #[.string s] w (jkQ w):=by
 go_enter Tryz.func228,Tryz.ntmps228;go_wp2_with fail
 refine (jfE w s hs).mono ?_;rintro e w1 ⟨rfl,hE⟩;rw[hx];have HE:=Hd hE;clear hE hx hs;have hne:=jaO (s:=x) (by omega);have c0:(0:Int) < (x.size:Int):=by omega
 have c1:(1:Int) < (x.size:Int):=by omega
 have hq1:((x[1].toNat:Int) == 0)=false:=by simpa using h1
 clear h1;cases leaf with
 | true =>
  have hq:(x[0].toNat:Int)=2:=by simp at h0;omega
  clear h0;go_wp2_with fail
  exact bodyPost_ret (v:=.tuple #[.string ⟨#[]⟩,.bool false,.bool false]) (by kernel_rfl) rfl ⟨rfl,HE.o⟩
 | false =>
  have hq:(x[0].toNat:Int)=0:=by simp at h0;omega
  clear h0;go_wp2_with fail
  exact bodyPost_ret (v:=.tuple #[.string ⟨#[]⟩,.bool false,.bool false]) (by kernel_rfl) rfl ⟨rfl,HE.o⟩
theorem jnO(w:World)(s:ByteArray)(hs:s.size≤1000000):Calls Tryz.prog 228 #[.string s] w (jp5 w s):=by
 have hl:=jjp s
 by_cases h0:s.size=0
 ·refine (jnu w s hs (by rw[jbS h0];rfl)).mono fun e w' h=>⟨?_,h.2⟩
  unfold jfZ;rw[if_pos h0];exact h.1
 ·have h2:2≤(jaL s).size:=by omega
  have e0:(jaL s)[0]=(jaL s).data.toList.getD 0 0:=by
   rw[List.getD_eq_getElem?_getD,List.getElem?_eq_getElem (by show 0 < (jaL s).size;omega)];rfl
  have e1:(jaL s)[1]=(jaL s).data.toList.getD 1 0:=by
   rw[List.getD_eq_getElem?_getD,List.getElem?_eq_getElem (by show 1 < (jaL s).size;omega)];rfl
  obtain⟨n,hn⟩:∃ n,n=((jaL s).data.toList.getD 0 0).toNat:=⟨_,rfl⟩
  have e0:(jaL s)[0].toNat=n:=by rw[e0,hn]
  unfold jp5 jfZ;rw[if_neg h0, ←hn]
  by_cases h3:3 < n
  ·rw[if_pos h3];exact jnt w s hs _ rfl h2 (by omega)
  ·rw[if_neg h3]
   by_cases ho:n=3∨n=1
   ·rw[if_pos ho]
    refine jlH w s hs (decide (n=3)) _ rfl h2 ?_;rw[e0];rcases ho with rfl | rfl <;> rfl
   ·rw[if_neg ho]
    have he:(jaL s)[0].toNat=if decide (n=2)=true then 2 else 0:=by
     rw[e0]
     by_cases h:n=2
     ·simp[h]
     ·simp[h];omega
    by_cases hz:((jaL s).data.toList.getD 1 0).toNat=0
    ·rw[if_pos hz];exact jjb w s hs (decide (n=2)) _ rfl h2 he (by rw[e1];exact hz)
    ·rw[if_neg hz];exact jlI w s hs (decide (n=2)) _ rfl h2 he (by rw[e1];exact hz)
end
end Go.Proofs.YtcpnjmcipainpaaGreatDoor
