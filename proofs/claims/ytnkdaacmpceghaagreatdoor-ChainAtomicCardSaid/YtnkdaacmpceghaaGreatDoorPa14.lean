/- Lemmas; each is under no condition but those that it states. -/
import Derived.Test.YtnkdaacmpceghaaGreatDoorPa13
namespace Go.Proofs.YtnkdaacmpceghaaGreatDoor
set_option linter.unusedSimpArgs false
set_option linter.unusedVariables false
set_option maxRecDepth 100000
set_option maxHeartbeats 16000000
open Go Go.RowKit
variable {es s s':List EntS}{W W' w:vW}
section
attribute [local go_sem] Oper.semAt_some
def keyB(x:EntS):vB:=⟨x.1.toArray⟩
theorem jnj(x:EntS):str x.1=.string (keyB x):=rfl
def InvS(es s:List EntS):Prop:=(s.map (·.2.2)).Nodup/\∀ x∈s,x∈es
theorem InvS.step{v:Array vV}(h:InvS es s)(k:jw8 es s v s'):InvS es s':=by
 obtain⟨x,H,_,rfl⟩:=k
 obtain⟨J,A⟩:=cI.1 H
 have A:x.2.2 ∉ s.map (·.2.2):=by simpa [jfa]using A
 refine⟨?_,fun z q=>?_⟩
 ·rw[bY,dR]
  exact⟨h.1,by simp,fun a K b hb e=>by simp at hb;subst hb;subst e;exact A K⟩
 ·rcases bQ.1 q with q | q
  ·exact h.2 z q
  ·simp at q;exact q ▸ J
theorem InvS.len(h:InvS es s):s.length<=es.length:=by
 have:=gZ h.1 (l₂:=es.map (·.2.2)) (fun k q=>by
  obtain⟨z,A,e⟩:=bD.1 q;exact bD.2 ⟨z,h.2 z A,e⟩)
 simpa using this
theorem InvS.perm(h:InvS es s)(hd:jnx es s)(hst:(es.map (·.2.2)).Nodup)(hkn:(es.map (·.1)).Nodup):(s.map (·.1)).Perm (es.map (·.1)):=by
 have q:∀ x∈es,x∈s:=by
  intro x H
  by_cases hc:x.2.2∈s.map (·.2.2)
  ·obtain⟨z,A,e⟩:=bD.1 hc
   have:=jaG hst (h.2 z A) H e
   exact this ▸ A
  ·have:x∈jaA es (jfa s):=by
    refine cI.2 ⟨H,?_⟩;simpa [jfa]using hc
   rw[hd]at this;cases this
 have J:(s.map (·.1)).Nodup:=by
  have K:=h.1;have O:=h.2;clear h hd q;induction s with
  | nil=>simp
  | cons z r ih =>
   rw[bN,dP]at K ⊢
   refine⟨fun hm=>?_,ih K.2 (fun x H=>O x (bW _ H))⟩
   obtain⟨y,Z,e⟩:=bD.1 hm
   have:=jaG hkn (O y (bW _ Z)) (O z (cJ ..)) e
   exact K.1 (bD.2 ⟨y,Z,by rw[this]⟩)
 refine jhJ J hkn fun k=>?_;constructor
 ·intro X;obtain⟨z,A,e⟩:=bD.1 X;exact bD.2 ⟨z,h.2 z A,e⟩
 ·intro X;obtain⟨z,A,e⟩:=bD.1 X;exact bD.2 ⟨z,q z A,e⟩
structure AppS(w:World)(es s:List EntS)(W:World):Prop where
 ext:Ext w W
 inv:InvS es s
 var:∃ v,Blk W w.heap.size (.cells #[v] 34)/\W.ownsRow 0 9 1 v s.length ((s.map keyB).map Value.string)/\∀ b,v.ownBlock=some b->w.heap.size+4<=b
theorem AppS.st(h:AppS w es s W)(k:jac (fun b=>b=w.heap.size+1\/b=w.heap.size+1+1\/b=w.heap.size+1+2) W W'):AppS w es s W':=by
 obtain⟨v,A,H,q⟩:=h.var
 exact⟨h.ext.trans' k (fun x J e=>by omega),h.inv,v,A.keeps k vO,jaL H k (fun b hb e=>by have:=q b hb;omega),q⟩
theorem jsf(w:vW)(bx bm ck:Nat)(es:List EntS)(hk:KyS bx bm ck es w)(hnd:(es.map (·.2.2)).Nodup)(A:∀ x∈es,x.2.2 < ck)(hlen:es.length<=1000000) :
  vQ 212 #[.slice none 0 0,.func (.func 172) #[] #[.pointer (some ⟨bx,0,none⟩)]] w fun e w'=>∃ u s,e=.returned u/\InvS es s/\jnx es s/\SRow w w' u s.length (s.map keyB):=by
 have a7:=Hd (jvM bx bm ck es hnd A);have HK:=Hd hk;clear hk hnd A;refine (callsIn_wide (n:=0)).1 ?_;refine callsIn_of_wp_marks Tryz.func212 rfl trivial ?_ rfl;simp only[Tryz.ntmps212,cT,bU,dA,Nat.reduceAdd,Nat.reduceSub,cV,cU,dE,cZ,cN,cY];gi_wp2_with fail
 obtain⟨w1,J⟩:=vE (w.alloc (.cells #[.slice none 0 0] 34))
 rw[<-J];have H:w1.heap.size=w.heap.size+1:=by rw[J];simp
 have S0:AppS w es [] w1:=by
  rw[J]
  exact⟨(ExtR w).alloc _,⟨by simp,fun x hx=>by cases hx⟩,_,Blk.new w _,fE _ _ _ _,fun b hb=>by cases hb⟩
 have a0:=Hd S0;clear S0 J;refine jrW (gf:=172) (lb:=#[.pointer (some ⟨bx,0,none⟩)]) rfl (vX 172) a7.o
  (fun s v s' h=>by obtain⟨x,_,rfl,_⟩:=h;rfl) (AppS w es) (fun s W W' h k=>h.st (by rw[H]at k;exact k)) (fun s W h=>⟨HK.o.1.keeps h.ext (fun h=>h),HK.o.2.keeps h.ext (fun h=>h)⟩) a0.o
  (fun v=>{ tmps:=#[.slice none 0 0,.func (.func 172) #[] #[.pointer (some ⟨bx,0,none⟩)],.pointer (some ⟨w.heap.size,0,none⟩),undef,.slice none 0 0,v.getD 0 undef,.func (.func 172) #[] #[.pointer (some ⟨bx,0,none⟩)],v.getD 0 undef,undef,undef,undef,undef,undef],defers:=[] })
  ?hassign ?hbody ?hdone
 case hassign =>
  intro l2 v s s' W K O hK
  obtain⟨x,_,rfl,_⟩:=O
  rw[jnj]at hK ⊢;rw[jzh];simp only[dG,dB];gi_wp2;exact hK
 case hbody =>
  intro l2 v s s' W O h A;have hinv:=h.inv.step O
  obtain⟨x,hx,rfl,rfl⟩:=O
  obtain⟨v,X,Z,h3⟩:=h.var
  obtain⟨ad,cp,rfl⟩:=jaD Z
  rw[jnj]
  obtain⟨q,hq⟩:=vE (keyB x)
  rw[<-hq];have a8:s.length<=1000000:=bE h.inv.len hlen;have hV:=X.cell (i:=0) (v:=.slice ad s.length cp) vF;have b4:W.frozen? ⟨w.heap.size,0,none⟩=false:=X.frozen
  obtain⟨n,hn⟩:=vE s.length
  rw[<-hn]at Z a8 hV X h3;have A:w.heap.size+3 < W.heap.size:=by rw[H]at A;omega
  have HN:=Hd hn;have HQ:=Hd hq;have HV:=Hd X;have HO:=Hd Z;have H3:=Hd h3;have HE:=Hd h.ext;have HI:=Hd hinv;rw[show (#[Value.string q]:Array vV).getD 0 undef=.string q from rfl];clear h X Z h3 hinv hx hn hq a0
  obtain⟨i0,hi,a9,b0,b1⟩:=info_parts Tryz.infoStr
  gi_wp2_with (gi_at_builtin;refine jbK _ rfl (.tmp 8) (.tmp 10) 34 rfl 9 i0 _ 1 16 Tryz.uStrs hi a9 b0 b1 rfl vI (.slice ad n cp) n _ rfl (jaZ HO.o ((ExtR W).alloc _)) ⟨W.heap.size,0,none⟩ 1 1 [.string q] rfl rfl (jaN (Blk.new W _)) (by simp[Value.oneCell']) (by unfold maxLen;omega) vO ?_;intro v' w6 r1 r2 r3;obtain⟨a1,a2,rfl⟩:=jaD r1;have a3:=(HV.o.alloc _).keeps r2 (fun e=>by have:=H3.o _ e;omega);have b5:w6.cell? ⟨w.heap.size,0,none⟩=some (.slice ad n cp):=a3.cell (i:=0) vF;have b6:w6.frozen? ⟨w.heap.size,0,none⟩=false:=a3.frozen)
  have b2:w6.ownsRow 0 9 1 (.slice a1 (n+1) a2) (s++[x]).length (((s++[x]).map keyB).map Value.string):=by
   rw[bI, <-HN.o,bY,bY]
   have:=r1;rw[HQ.o]at this;exact this
  have K6:jac (fun b=>(Value.slice ad n cp).ownBlock=some b) W w6:=((jac.refl _ W).alloc _).trans r2;have a4:∀ b,(Value.slice a1 (n+1) a2).ownBlock=some b->w.heap.size+4<=b:=fun b hb=>by
   rcases r3 with r3 | r3
   ·exact H3.o b (r3 ▸ hb)
   ·have h9:=r3 b hb;rw[bF]at h9;omega
  have K7:jac (fun b=>b=w.heap.size) w6 (w6.setCell ⟨w.heap.size,0,none⟩ (.slice a1 (n+1) a2)):=jac.oneSet w6 ⟨w.heap.size,0,none⟩ _
  refine⟨(K6.mono (fun y _ e=>?_)).trans (K7.mono (fun y _ e=>?_)),?_⟩
  ·have:=H3.o y e;rw[H];omega
  ·have e:y=_:=e;rw[H];omega
  ·exact⟨(HE.o.trans' K6 (fun y hy e=>by have:=H3.o y e;omega)).trans' K7 (fun y hy e=>by have e:y=_:=e;omega),HI.o,
    _,a3.set_same (i:=0) _,jaL b2 K7 (fun b hb e=>by have:=a4 b hb;omega),a4⟩
 case hdone =>
  intro s W a5 h hd
  obtain⟨v,X,Z,h3⟩:=h.var
  obtain⟨ad,cp,rfl⟩:=jaD Z
  have q5:W.cell? ⟨w.heap.size,0,none⟩=some (.slice ad s.length cp):=X.cell (i:=0) vF;have H2:=Hd Z;have H3:=Hd h3;have HX:=Hd h.ext;have HI:=Hd h.inv;have b3:=Hd a5;have HD:=Hd hd;clear h X Z h3 hd a5 a0;gi_wp2_with fail
  refine⟨by simp,.inl ⟨_,_,rfl,run_takeDeferred HD.o,?_⟩⟩
  refine⟨_,results_tmp rfl _ _ _,?_⟩
  have hK:=jac.onePut W w1.heap.size (.deferred none)
  exact⟨.slice ad s.length cp,s,rfl,HI.o,b3.o,⟨_,_,rfl⟩,jaL H2.o hK (fun b hb e=>by have:=H3.o b hb;rw[H]at e;omega),HX.o.putObj (.inr vO) _,fun b hb=>by have:=H3.o b hb;omega⟩
end
section
section mixr
variable {P:Program} {l:List Oper} {lr:Nat} {R:Act->vW->Prop}
def jdy(R:Act->vW->Prop):Exit->Act->vW->Prop:=fun e a w=>e=.normal/\R a w
theorem jiD:¬ LetsOut (jdy R):=fun ⟨_,_,h,_⟩=>by cases h
theorem jgz{o:Oper}{a:Act}{w:vW}{K K':Act->vW->Prop}{Q:Exit->Act->vW->Prop}(hd:∀ c,o.op≠.defer c)(hK:∀ a w,K a w->K' a w)(h:o.wp P a w K (jdy R)) :
  o.wpIn (Fence.wide.inRound lr) 0 P a w K' Q:=by
 unfold Oper.wp at h
 refine⟨fun _ _=>trivial,?_⟩
 rw[Oper.semAt_eq _ _ _ hd];generalize (execOp a.eval o).run P w=r at *;cases r with
 | ok x w' =>
  cases x with
  | value v=>exact hK _ _ h
  | skip=>exact hK _ _ h
  | defer d=>exact hK _ _ h
  | enter f args =>
   refine bA (fun q=>absurd q (by simp[Fence.wide])) (CallsIn.inRound lr (callsIn_wide.2 (Calls.mono h fun e H A=>?_)));cases e with
   | returned v=>exact hK _ _ A
   | panicked c=>cases A.1
   | outgrown=>exact absurd A jiD
  | row r args=>exact bA (fun q=>absurd q (by simp[Fence.wide])) (fun c cs _=>let ⟨v,w',r,s⟩:=h c cs;⟨v,w',hK _ _ r,stepsIn_wide.2 s⟩)
  | round l f t a b=>exact h.elim
  | _=>exact h.elim
 | halt x w' =>
  cases x <;> first | exact h.elim | cases h.1
theorem jjY(hnd:jjn l.toArray=true):∀ (q:Nat) (e:Array Bool) (a:Act) (w:vW),wpAny P .any l.toArray (jdy R) q e a w->wpAnyIn (Fence.wide.inRound lr) 0 P .any l.toArray (jdy R) q e a w:=by
 have J:∀ (i:Nat) (o:Oper),l.toArray[i]?=some o->∀ c,o.op≠.defer c:=by
  intro i o H c K;unfold jjn at hnd;rw[dI]at hnd
  have:=hnd o (by simpa using bG (by simpa using H))
  rw[K]at this;simp at this
 intro q;induction q with
 | zero=>exact fun _ _ _ h=>h
 | succ q ih =>
  intro e a w h
  refine⟨h.1,fun i hi=>?_⟩
  have A:=h.2 i hi;unfold wpOp at A;unfold wpOpIn;split
  ·rename_i H;simp only[H]at A;exact ih _ _ _ A
  ·rename_i o H
   simp only[H]at A;split
   ·rename_i hw;simp only[hw,if_true]at A
    rcases A with A | A
    ·exact jgz (J i o H) (fun a w h=>ih _ a w h) A
    ·exact absurd A.2 jiD
   ·rename_i hw;simp only[hw]at A
    exact⟨fun _ _=>trivial,ih _ _ _ A⟩
theorem jjP(hm:P.follows .mixedOrders=true)(hnd:jjn l.toArray=true){id:Nat}{Q:Exit->Act->vW->Prop}{a:Act}{w:vW}(hq:∀ a w,R a w->Q .normal a w)
  (h:wpAny P .any l.toArray (jdy R) l.toArray.size (Array.replicate l.toArray.size false) a w.drew):(Code.region id l.toArray true).wpIn (Fence.wide.inRound lr) 0 P Q a w:=
 wpIn_mono (wpIn_region_any hm (jjY hnd _ _ _ _ h)) fun e a w ⟨q,A⟩=>by subst q;exact hq _ _ A
theorem jgA(ord hd:List Nat)(E:vW->vW->Prop)(hE:∀ w,E w w)(hT:∀ x y z,E x y->E y z->E x z){id:Nat}{Q:Exit->Act->vW->Prop}{a:Act}{w:vW}
  (hm:P.follows .mixedOrders=true) (hnd:jjn l.toArray=true) (hs:Region.noSelect l.toArray=true) (hl:ord.length=l.toArray.size)
  (h:Mix P l hd E (fun a w=>Q .normal a w) ord [] a w.drew):(Code.region id l.toArray true).wpIn (Fence.wide.inRound lr) 0 P Q a w:=by
 refine jjP (R:=fun a w=>Q .normal a w) hm hnd (fun _ _ h=>h) ?_;rw[<-hl]
 have:=jdO hE hT hs ord _ _ _ h
 unfold jaR at this;rw[hl]at this ⊢;exact jf1 hE (fun _ _ h=>⟨rfl,h⟩) _ _ _ _ this
theorem jgH{ops:Array Oper}{rest:List Oper}{o:Oper}{a:Act}{w:vW}{Q:Exit->Act->vW->Prop}{T:TypeId}{cs:List vV}(hrun:∀ w,(Instr.alloc T true (.tuple #[])).run P w=.ok (.pointer (some ⟨w.heap.size,0,none⟩)) (w.alloc (.cells cs.toArray T)))(hgd:o.guard=none)(ho:o.op=.alloc T)
  (h:∀ W,Blk W w.heap.size (.cells cs.toArray T)->Ext w W->wpListIn (Fence.wide.inRound lr) 0 P ops Q rest (a.put o.dst (.pointer (some ⟨w.heap.size,0,none⟩))) W):wpListIn (Fence.wide.inRound lr) 0 P ops Q (o :: rest) a w:=
 wpListIn_plain hgd fun K e=>jgz (R:=fun _ _=>False) (by rw[ho];intro c q;cases q) (fun _ _ h=>h) (jbk (v:=.pointer (some ⟨w.heap.size,0,none⟩)) (w':=w.alloc (.cells cs.toArray T)) (by simp only[execOp,ho,bK,hrun,Result.andThen,cP]) (e _ _ (h _ (Blk.new w _) ((ExtR w).alloc _))))
theorem jd6{ops:Array Oper}{rest:List Oper}{o:Oper}{a:Act}{w:vW}{Q:Exit->Act->vW->Prop}{T T2:TypeId}{x y:Operand}{b:Nat}{old vs:List vV}(hgd:o.guard=none)(ho:o.op=.store T x y)(hx:a.eval x=.pointer (some ⟨b,0,none⟩))(hy:a.eval y=.agg vs.toArray)
  (hB:Blk w b (.cells old.toArray T2)) (hl:old.length=vs.length) (hi:(P.info? T).map (·.size)=some vs.length) (h1:∀ v∈vs,v.oneCell'=true)
  (h:∀ W,Blk W b (.cells vs.toArray T2)->jac (fun z=>z=b) w W->wpListIn (Fence.wide.inRound lr) 0 P ops Q rest (a.put o.dst undef) W):wpListIn (Fence.wide.inRound lr) 0 P ops Q (o :: rest) a w:=by
 refine wpListIn_plain hgd fun K e=>jgz (R:=fun _ _=>False) (by rw[ho];intro c q;cases q) (fun _ _ h=>h) ?_;refine wp_store_mid T x y ho b 0 vs.toArray hx hy (by have:=jhU hB;rw[hl]at this;simpa using this) (by simpa using hi) (all_oneCell_toArray h1) (e _ _ (h _ ?_ (jac.oneSetCells b vs 0 w)))
 have:=Blk.setCells vs 0 w old hB vO
 rw[fG vO]at this;simpa using this
end mixr
end
theorem jdI(a b:vB):jdv a b=true↔Lt a.data.toList b.data.toList:=by
 unfold jdv;rw[bR,bR]
abbrev Pair.k(p:Pair):vN:=p.1.data.toList
def look(m:vL)(k:vN):Option vB:=(m.find? (fun p=>decide (k=p.k))).map (·.2)
theorem jew(q:Pair)(r:vL)(k:vN):look (q :: r) k=if k=q.k then some q.2 else look r k:=by
 unfold look
 by_cases h:k=q.k <;> simp[fW,h]
