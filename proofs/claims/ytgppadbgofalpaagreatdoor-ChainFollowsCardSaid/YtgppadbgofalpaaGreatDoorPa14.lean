/- Lemmas; each is under no condition but those that it states. -/
import Derived.Test.YtgppadbgofalpaaGreatDoorPa0
import Derived.Test.YtgppadbgofalpaaGreatDoorPa13
namespace Go.Proofs.YtgppadbgofalpaaGreatDoor
set_option linter.unusedSimpArgs false
set_option linter.unusedVariables false
set_option maxRecDepth 100000
set_option maxHeartbeats 16000000
open Go Go.RowKit
variable {es s s':List Ea}{W W' w:vW}
section
attribute [local go_sem] Oper.semAt_some
def Us(x:Ea):vB:=⟨x.1.toArray⟩
theorem oJ(x:Ea):LL x.1=.string (Us x):=rfl
def Nm(es s:List Ea):Prop:=(s.map (·.2.2)).Nodup/\∀ x∈s,x∈es
theorem Nm.step{v:Array vV}(h:Nm es s)(k:tE es s v s'):Nm es s':=by
 obtain⟨x,H,_,rfl⟩:=k
 obtain⟨J,A⟩:=cG.1 H
 have A:x.2.2 ∉ s.map (·.2.2):=by simpa [Uq]using A
 refine⟨?_,fun z q=>?_⟩
 ·rw[bW,dS];exact⟨h.1,by simp,fun a K b hb e=>by simp at hb;subst hb;subst e;exact A K⟩
 ·rcases bR.1 q with q | q;{exact h.2 z q};simp at q;exact q ▸ J
theorem Nm.len(h:Nm es s):s.length<=es.length:=by
 have:=iI h.1 (l₂:=es.map (·.2.2)) (fun k q=>by obtain⟨z,A,e⟩:=bC.1 q;exact bC.2 ⟨z,h.2 z A,e⟩)
 simpa using this
theorem Nm.perm(h:Nm es s)(hd:GR es s)(hst:(es.map (·.2.2)).Nodup)(hkn:(es.map (·.1)).Nodup):(s.map (·.1)).Perm (es.map (·.1)):=by
 have q:∀ x∈es,x∈s:=by intro x H;by_cases hc:x.2.2∈s.map (·.2.2);{obtain⟨z,A,e⟩:=bC.1 hc;have:=Pk hst (h.2 z A) H e;exact this ▸ A};(have:x∈Fl es (Uq s):=by refine cG.2 ⟨H,?_⟩;simpa [Uq]using hc);rw[hd]at this;cases this
 have J:(s.map (·.1)).Nodup:=by have K:=h.1;have O:=h.2;clear h hd q;induction s with| nil=>simp| cons z r ih =>rw[bN,dF]at K ⊢;refine⟨fun hm=>?_,ih K.2 (fun x H=>O x (bM _ H))⟩;obtain⟨y,Z,e⟩:=bC.1 hm;have:=Pk hkn (O y (bM _ Z)) (O z (bO ..)) e;exact K.1 (bC.2 ⟨y,Z,by rw[this]⟩)
 refine zE J hkn fun k=>?_;constructor
 ·intro X;obtain⟨z,A,e⟩:=bC.1 X;exact bC.2 ⟨z,h.2 z A,e⟩
 ·intro X;obtain⟨z,A,e⟩:=bC.1 X;exact bC.2 ⟨z,q z A,e⟩
structure Xs(w:World)(es s:List Ea)(W:World):Prop where
 ext:Af w W
 inv:Nm es s
 var:∃ v,Ae W w (.cells #[v] 52)/\W.ownsRow 0 9 1 v s.length ((s.map Us).map Value.string)/\∀ b,v.ownBlock=some b->w.heap.size+4<=b
theorem Xs.st(h:Xs w es s W)(k:Ad (fun b=>b=w.heap.size+1\/b=w.heap.size+1+1\/b=w.heap.size+1+2) W W'):Xs w es s W':=by
 obtain⟨v,A,H,q⟩:=h.var
 exact⟨h.ext.trans' k (fun x J e=>by omega),h.inv,v,A.keeps k vO,Kq H k (fun b hb e=>kL (q b hb)),q⟩
theorem juv(w:vW)(bx bm ck:Nat)(es:List Ea)(hk:LP bx bm ck es w)(hnd:(es.map (·.2.2)).Nodup)(Z:∀ x∈es,x.2.2 < ck)(hlen:es.length<=1000000):vQ 135 #[.slice none 0 0,.func (.func 88) #[] #[bx]] w fun e w'=>∃ u s,e=.returned u/\Nm es s/\GR es s/\Cd w w' u s.length (s.map Us):=by
 have a7:=Hd (jyb bx bm ck es hnd Z);have HK:=Hd hk;clear hk hnd Z;refine (callsIn_wide (n:=0)).1 ?_;refine callsIn_of_wp_marks Tryz.func135 rfl trivial ?_ rfl;simp only[Tryz.ntmps135,cQ,bS,cY,Nat.reduceAdd,Nat.reduceSub,cT,cS,dC,cW,cL,cR];gi_wp2_with fail
 obtain⟨w1,A⟩:=vE (w.alloc (.cells #[.slice none 0 0] 52))
 rw[<-A];have H:w1.heap.size=w.heap.size+1:=by rw[A];simp
 have S0:Xs w es [] w1:=by rw[A];exact⟨(Aa w).alloc _,⟨by simp,fun x hx=>by cases hx⟩,_,Ae.new w _,fE _ _ _ _,fun b hb=>by cases hb⟩
 have a0:=Hd S0;clear S0 A;refine jua (gf:=88) (lb:=#[bx]) rfl (vX 88) a7.o (fun s v s' h=>by obtain⟨x,_,rfl,_⟩:=h;rfl) (Xs w es) (fun s W W' h k=>h.st (by rw[H]at k;exact k)) (fun s W h=>⟨HK.o.1.keeps h.ext kI,HK.o.2.keeps h.ext kI⟩) a0.o (fun v=>{ tmps:=#[.slice none 0 0,.func (.func 88) #[] #[bx],w,undef,.slice none 0 0,v.getD 0 undef,.func (.func 88) #[] #[bx],v.getD 0 undef,undef,undef,undef,undef,undef],defers:=[] }) ?hassign ?hbody ?hdone
 case hassign =>intro l2 v s s' W K J hK;obtain⟨x,_,rfl,_⟩:=J;rw[oJ]at hK ⊢;rw[XT];simp only[dJ,dE];gi_wp2;exact hK
 case hbody =>intro l2 v s s' W J h Z;have hinv:=h.inv.step J;obtain⟨x,hx,rfl,rfl⟩:=J;obtain⟨v,O,X,h3⟩:=h.var;obtain⟨ad,cp,rfl⟩:=Ir X;rw[oJ];obtain⟨q,hq⟩:=vE (Us x);rw[<-hq];have a8:s.length<=1000000:=bF h.inv.len hlen;have hV:=O.cell (i:=0) (v:=.slice ad s.length cp) vF;have b4:W.frozen? w=false:=O.frozen;obtain⟨n,hn⟩:=vE s.length;rw[<-hn]at X a8 hV O h3;have HN:=Hd hn;have HQ:=Hd hq;have HV:=Hd O;have HO:=Hd X;have H3:=Hd h3;have HE:=Hd h.ext;have HI:=Hd hinv;rw[show (#[Value.string q]:Array vV).getD 0 undef=.string q from rfl];clear h O X h3 hinv hx hn hq a0;obtain⟨i0,hi,a9,b0,b1⟩:=info_parts Bl;(gi_wp2_with (gi_at_builtin;refine IP _ rfl (.tmp 8) (.tmp 10) 52 rfl 9 i0 _ 1 16 Bd hi a9 b0 b1 rfl vI (.slice ad n cp) n _ rfl (Jy HO.o ((Aa W).alloc _)) W 1 1 [q] rfl rfl (Jx (Ae.new W _)) (by simp[Value.oneCell']) (by unfold maxLen;omega) vO ?_;intro v' w6 r1 r2 r3;obtain⟨a1,a2,rfl⟩:=Ir r1;have a3:=(HV.o.alloc _).keeps r2 (fun e=>kL (H3.o _ e));have b5:w6.cell? w=some (.slice ad n cp):=a3.cell (i:=0) vF;have b6:w6.frozen? w=false:=a3.frozen));(have b2:w6.ownsRow 0 9 1 (.slice a1 (n+1) a2) (s++[x]).length (((s++[x]).map Us).map Value.string):=by rw[bK, <-HN.o,bW,bW];have:=r1;rw[HQ.o]at this;exact this);(have K6:Ad (fun b=>(Value.slice ad n cp).ownBlock=some b) W w6:=((Ad.refl _ W).alloc _).trans r2;have a4:∀ b,(Value.slice a1 (n+1) a2).ownBlock=some b->w.heap.size+4<=b:=fun b hb=>by rcases r3 with r3 | r3;{exact H3.o b (r3 ▸ hb)};have h9:=r3 b hb;rw[bG]at h9;omega);have K7:Ad (fun b=>b=w.heap.size) w6 (w6.setCell w (.slice a1 (n+1) a2)):=Ad.oneSet w6 w _;refine⟨(K6.mono (fun y _ e=>?_)).trans (K7.mono (fun y _ e=>?_)),?_⟩;{have:=H3.o y e;rw[H];omega};{have e:y=_:=e;rw[H];omega};exact⟨(HE.o.trans' K6 (fun y hy e=>kL (H3.o y e))).trans' K7 kJ,HI.o,_,a3.set_same (i:=0) _,Kq b2 K7 (fun b hb e=>kL (a4 b hb)),a4⟩
 case hdone =>intro s W a5 h hd;obtain⟨v,O,X,h3⟩:=h.var;obtain⟨ad,cp,rfl⟩:=Ir X;(have q5:W.cell? w=some (.slice ad s.length cp):=O.cell (i:=0) vF;have H2:=Hd X;have H3:=Hd h3;have HX:=Hd h.ext;have HI:=Hd h.inv;have b3:=Hd a5;have HD:=Hd hd;clear h O X h3 hd a5 a0;gi_wp2_with fail);refine⟨by simp,.inl ⟨_,_,rfl,run_takeDeferred HD.o,?_⟩⟩;refine⟨_,results_tmp rfl _ _ _,?_⟩;have hK:=Ad.onePut W w1 (.deferred none);exact⟨.slice ad s.length cp,s,rfl,HI.o,b3.o,⟨_,_,rfl⟩,Kq H2.o hK (fun b hb e=>by have:=H3.o b hb;rw[H]at e;omega),HX.o.putObj (.inr vO) _,fun b hb=>kL (H3.o b hb)⟩
end
section
section mixr
variable {P:Program} {l:List Oper} {lr:Nat} {R:Act->vW->Prop}
def IV(R:Act->vW->Prop):Exit->Act->vW->Prop:=fun e a w=>e=.normal/\R a w
theorem aD:¬ LetsOut (IV R):=fun ⟨_,_,h,_⟩=>by cases h
theorem SO{o:Oper}{a:Act}{w:vW}{K K':Act->vW->Prop}{Q:Exit->Act->vW->Prop}(hd:∀ c,o.op≠.defer c)(hK:∀ a w,K a w->K' a w)(h:o.wp P a w K (IV R)):o.wpIn (Fence.wide.inRound lr) 0 P a w K' Q:=by
 unfold Oper.wp at h
 refine⟨fun _ _=>trivial,?_⟩
 rw[Oper.semAt_eq _ _ _ hd];generalize (execOp a.eval o).run P w=r at *;cases r with
 | ok x w' =>(cases x with| value v=>exact hK _ _ h| skip=>exact hK _ _ h| defer d=>exact hK _ _ h| enter f args =>(refine bA (fun q=>absurd q (by simp[Fence.wide])) (CallsIn.inRound lr (callsIn_wide.2 (Calls.mono h fun e H A=>?_)));cases e with| returned v=>exact hK _ _ A| panicked c=>cases A.1| outgrown=>exact absurd A aD)| row r args=>exact bA (fun q=>absurd q (by simp[Fence.wide])) (fun c cs _=>let ⟨v,w',r,s⟩:=h c cs;⟨v,w',hK _ _ r,stepsIn_wide.2 s⟩)| round l f t a b=>exact h.elim| _=>exact h.elim)
 | halt x w' =>cases x <;> first | exact h.elim | cases h.1
theorem c_(hnd:OH l.toArray=true):∀ (q:Nat) (e:Array Bool) (a:Act) (w:vW),wpAny P .any l.toArray (IV R) q e a w->wpAnyIn (Fence.wide.inRound lr) 0 P .any l.toArray (IV R) q e a w:=by
 have J:∀ (i:Nat) (o:Oper),l.toArray[i]?=some o->∀ c,o.op≠.defer c:=by intro i o H c K;unfold OH at hnd;rw[fD]at hnd;have:=hnd o (by simpa using bD (by simpa using H));rw[K]at this;simp at this
 intro q;induction q with
 | zero=>exact fun _ _ _ h=>h
 | succ q ih =>intro e a w h;refine⟨h.1,fun i O=>?_⟩;have A:=h.2 i O;unfold wpOp at A;unfold wpOpIn;split;{rename_i H;simp only[H]at A;exact ih _ _ _ A};rename_i o H;simp only[H]at A;split;{rename_i hw;simp only[hw,if_true]at A;rcases A with A | A;{exact SO (J i o H) (fun a w h=>ih _ a w h) A};exact absurd A.2 aD};rename_i hw;simp only[hw]at A;exact⟨fun _ _=>trivial,ih _ _ _ A⟩
theorem b_(hm:P.follows .mixedOrders=true)(hnd:OH l.toArray=true){id:Nat}{Q:Exit->Act->vW->Prop}{a:Act}{w:vW}(hq:∀ a w,R a w->Q .normal a w)
  (h:wpAny P .any l.toArray (IV R) l.toArray.size (Array.replicate l.toArray.size false) a w.drew):(Code.region id l.toArray true).wpIn (Fence.wide.inRound lr) 0 P Q a w:=
 wpIn_mono (wpIn_region_any hm (c_ hnd _ _ _ _ h)) fun e a w ⟨q,A⟩=>by subst q;exact hq _ _ A
theorem zA(ord hd:List Nat)(E:vW->vW->Prop)(hE:∀ w,E w w)(hT:∀ x y z,E x y->E y z->E x z){id:Nat}{Q:Exit->Act->vW->Prop}{a:Act}{w:vW}
  (hm:P.follows .mixedOrders=true) (hnd:OH l.toArray=true) (hs:Region.noSelect l.toArray=true) (hl:ord.length=l.toArray.size)
  (h:Ms P l hd E (fun a w=>Q .normal a w) ord [] a w.drew):(Code.region id l.toArray true).wpIn (Fence.wide.inRound lr) 0 P Q a w:=by
 refine b_ (R:=fun a w=>Q .normal a w) hm hnd (fun _ _ h=>h) ?_;rw[<-hl]
 have:=LY hE hT hs ord _ _ _ h
 unfold Dy at this;rw[hl]at this ⊢;exact RS hE (fun _ _ h=>⟨rfl,h⟩) _ _ _ _ this
theorem YH{ops:Array Oper}{rest:List Oper}{o:Oper}{a:Act}{w:vW}{Q:Exit->Act->vW->Prop}{T:TypeId}{cs:List vV}(hrun:∀ w,(Instr.alloc T true (.tuple #[])).run P w=.ok w (w.alloc (.cells cs.toArray T)))(hgd:o.guard=none)(ho:o.op=.alloc T)
  (h:∀ W,Ae W w (.cells cs.toArray T)->Af w W->wpListIn (Fence.wide.inRound lr) 0 P ops Q rest (a.put o.dst w) W):wpListIn (Fence.wide.inRound lr) 0 P ops Q (o :: rest) a w:=
 wpListIn_plain hgd fun K e=>SO (R:=fun _ _=>False) (by rw[ho];intro c q;cases q) (fun _ _ h=>h) (Ra (v:=.pointer (some w)) (w':=w.alloc (.cells cs.toArray T)) (by simp only[execOp,ho,bQ,hrun,Result.andThen,cU]) (e _ _ (h _ (Ae.new w _) ((Aa w).alloc _))))
theorem RG{ops:Array Oper}{rest:List Oper}{o:Oper}{a:Act}{w:vW}{Q:Exit->Act->vW->Prop}{T T2:TypeId}{x y:Operand}{b:Nat}{old vs:List vV}(hgd:o.guard=none)(ho:o.op=.store T x y)(hx:a.eval x=.pointer (some b))(hy:a.eval y=.agg vs.toArray)
  (hB:Ae w b (.cells old.toArray T2)) (hl:old.length=vs.length) (hi:(P.info? T).map (·.size)=some vs.length) (h1:∀ v∈vs,v.oneCell'=true)
  (h:∀ W,Ae W b (.cells vs.toArray T2)->Ad (fun z=>z=b) w W->wpListIn (Fence.wide.inRound lr) 0 P ops Q rest (a.put o.dst undef) W):wpListIn (Fence.wide.inRound lr) 0 P ops Q (o :: rest) a w:=by
 refine wpListIn_plain hgd fun K e=>SO (R:=fun _ _=>False) (by rw[ho];intro c q;cases q) (fun _ _ h=>h) ?_;refine wp_store_mid T x y ho b 0 vs.toArray hx hy (by have:=KP hB;rw[hl]at this;simpa using this) (by simpa using hi) (all_oneCell_toArray h1) (e _ _ (h _ ?_ (Ad.oneSetCells b vs 0 w)))
 have:=Ae.setCells vs 0 w old hB vO
 rw[fS vO]at this;simpa using this
end mixr
end
theorem FK(a b:vB):Pr a b=true↔Lt a.data.toList b.data.toList:=by
 unfold Pr;rw[cC,cC]
abbrev Ar.k(p:Ar):vN:=p.1.data.toList
def look(m:vL)(k:vN):Option vB:=(m.find? (fun p=>decide (k=p.k))).map (·.2)
theorem NU(k:vN):look [] k=none:=rfl
theorem Nj(q:Ar)(r:vL)(k:vN):look (q :: r) k=if k=q.k then some q.2 else look r k:=by
 unfold look
 by_cases h:k=q.k <;> simp[fL,h]
