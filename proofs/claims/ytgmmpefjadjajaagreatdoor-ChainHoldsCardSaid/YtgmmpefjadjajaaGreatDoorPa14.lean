/- Lemmas. -/
import Derived.Test.YtgmmpefjadjajaaGreatDoorPa0
import Derived.Test.YtgmmpefjadjajaaGreatDoorPa13
namespace Go.Proofs.YtgmmpefjadjajaaGreatDoor
set_option linter.unusedSimpArgs false
set_option linter.unusedVariables false
set_option maxRecDepth 100000
set_option maxHeartbeats 16000000
open Go Go.RowKit
variable {es s s':List Ea}{W W' w:vW}
section
attribute [local go_sem] Oper.semAt_some
def Vf(x:Ea):vB:=⟨x.1.toArray⟩
theorem oY(x:Ea):MG x.1=.string (Vf x):=rfl
def Nx(es s:List Ea):Prop:=(s.map (·.2.2)).Nodup/\∀ x∈s,x∈es
theorem Nx.step{v:Array vV}(h:Nx es s)(k:tS es s v s'):Nx es s':=by
 obtain⟨x,H,_,rfl⟩:=k
 obtain⟨K,A⟩:=cE.1 H
 have A:x.2.2 ∉ s.map (·.2.2):=by simpa [Vd]using A
 refine⟨?_,λz q=>?_⟩
 ·rw[bW,dW];exact⟨h.1,by simp,λa O b hb e=>by simp at hb;subst hb;subst e;exact A O⟩
 ·rcases bR.1 q with q|q;{exact h.2 z q};simp at q;exact q ▸ K
theorem Nx.len(h:Nx es s):s.length<=es.length:=by
 have:=iO h.1 (l₂:=es.map (·.2.2)) (λk q=>by obtain⟨z,A,e⟩:=bC.1 q;exact bC.2 ⟨z,h.2 z A,e⟩)
 simpa using this
theorem Nx.perm(h:Nx es s)(hd:IM es s)(hst:(es.map (·.2.2)).Nodup)(hkn:(es.map (·.1)).Nodup):(s.map (·.1)).Perm (es.map (·.1)):=by
 have q:∀ x∈es,x∈s:=by intro x H;by_cases hc:x.2.2∈s.map (·.2.2);{obtain⟨z,A,e⟩:=bC.1 hc;have:=Qj hst (h.2 z A) H e;exact this ▸ A};(have:x∈Fq es (Vd s):=by refine cE.2 ⟨H,?_⟩;simpa [Vd]using hc);rw[hd]at this;cases this
 have K:(s.map (·.1)).Nodup:=by have O:=h.1;have X:=h.2;clear h hd q;induction s with| nil=>simp| cons z r ih =>rw[bP,dL]at O ⊢;refine⟨λhm=>?_,ih O.2 λx H=>X x (bM _ H)⟩;obtain⟨y,hy,e⟩:=bC.1 hm;have:=Qj hkn (X y (bM _ hy)) (X z (bN ..)) e;exact O.1 (bC.2 ⟨y,hy,by rw[this]⟩)
 refine k_ K hkn λk=>?_;constructor
 ·intro Z;obtain⟨z,A,e⟩:=bC.1 Z;exact bC.2 ⟨z,h.2 z A,e⟩
 ·intro Z;obtain⟨z,A,e⟩:=bC.1 Z;exact bC.2 ⟨z,q z A,e⟩
structure Yd(w:World)(es s:List Ea)(W:World):Prop where
 ext:Af w W
 inv:Nx es s
 var:∃ v,Ae W w (.cells #[v] 51)/\W.ownsRow 0 9 1 v s.length ((s.map Vf).map Value.string)/\∀ b,v.ownBlock=some b->(w:Nat)+4<=b
theorem Yd.st(h:Yd w es s W)(k:Ad (λb=>b=(w:Nat)+1\/b=(w:Nat)+1+1\/b=(w:Nat)+1+2) W W'):Yd w es s W':=by
 obtain⟨v,A,H,q⟩:=h.var
 exact⟨h.ext.O k λx K e=>by omega,h.inv,v,A.Z k vO,Lb H k λb hb e=>kL (q b hb),q⟩
theorem B5(w:vW)(bx bm ck:Nat)(es:List Ea)(hk:MK bx bm ck es w)(hnd:(es.map (·.2.2)).Nodup)(a0:∀ x∈es,x.2.2<ck)(hlen:es.length<=1000000):vQ 164 #[qe,.func (.func 119) #[] #[bx]] w λe w'=>∃ u s,e=.returned u/\Nx es s/\IM es s/\Cg w w' u s.length (s.map Vf):=by
 have a8:=J (Y6 bx bm ck es hnd a0);have HK:=J hk;clear hk hnd a0;refine (callsIn_wide (n:=0)).1 ?_;refine callsIn_of_wp_marks Tryz.func164 rfl trivial ?_ rfl;simp only[Tryz.ntmps164,cQ,bQ,cZ,Nat.reduceAdd,Nat.reduceSub,cV,cU,dC,cY,cL,cS];gi_wp2_with fail
 obtain⟨w1,A⟩:=vE (w.alloc (.cells #[qe] 51))
 rw[<-A];have H:(w1:Nat)=↑w+1:=by rw[A];simp
 have S0:Yd w es [] w1:=by rw[A];exact⟨(Aa w).alloc _,⟨by simp,λx hx=>by cases hx⟩,_,Ae.new w _,fK _ _ _ _,λb hb=>by cases hb⟩
 have a1:=J S0;clear S0 A;refine E2 (gf:=119) (lb:=#[bx]) rfl (vX 119) a8.o (λs v s' h=>by obtain⟨x,_,rfl,_⟩:=h;rfl) (Yd w es) (λs W W' h k=>h.st (by rw[H]at k;exact k)) (λs W h=>⟨HK.o.1.Z h.ext kI,HK.o.2.Z h.ext kI⟩) a1.o (λv=>{ tmps:=#[qe,.func (.func 119) #[] #[bx],w,undef,qe,v.getD 0 undef,.func (.func 119) #[] #[bx],v.getD 0 undef,undef,undef,undef,undef,undef],defers:=[] }) ?hassign ?hbody ?hdone
 case hassign =>intro l2 v s s' W K O hK;obtain⟨x,_,rfl,_⟩:=O;rw[oY]at hK ⊢;rw[YP];simp only[dM,dG];gi_wp2;exact hK
 case hbody =>intro l2 v s s' W O h a0;have hinv:=h.inv.step O;obtain⟨x,hx,rfl,rfl⟩:=O;obtain⟨v,X,Z,h3⟩:=h.var;obtain⟨ad,cp,rfl⟩:=Ir Z;rw[oY];obtain⟨q,hq⟩:=vE (Vf x);rw[<-hq];have a9:s.length<=1000000:=bH h.inv.len hlen;have hV:=X.cell (i:=0) (v:=.slice ad s.length cp) vF;have b5:W.frozen? w=false:=X.frozen;obtain⟨n,hn⟩:=vE s.length;rw[<-hn]at Z a9 hV X h3;have HN:=J hn;have HQ:=J hq;have HV:=J X;have HO:=J Z;have H3:=J h3;have HE:=J h.ext;have HI:=J hinv;rw[show (#[Value.string q]:Array vV).getD 0 undef=.string q from rfl];clear h X Z h3 hinv hx hn hq a1;obtain⟨i0,hi,b0,b1,b2⟩:=info_parts Bn;(gi_wp2_with (gi_at_builtin;refine JN _ rfl (.tmp 8) (.tmp 10) 51 rfl 9 i0 _ 1 16 Bg hi b0 b1 b2 rfl vI (.slice ad n cp) n _ rfl (Kh HO.o ((Aa W).alloc _)) W 1 1 [q] rfl rfl (Jx (Ae.new W _)) zc zi vO ?_;intro v' w6 r1 r2 r3;obtain⟨a2,a3,rfl⟩:=Ir r1;have a4:=(HV.o.alloc _).Z r2 (λe=>kL (H3.o _ e));have b6:w6.cell? w=some (.slice ad n cp):=a4.cell (i:=0) vF;have b7:w6.frozen? w=false:=a4.frozen));(have b3:w6.ownsRow 0 9 1 (.slice a2 (n+1) a3) (s++[x]).length (((s++[x]).map Vf).map Value.string):=by rw[bK, <-HN.o,bW,bW];have:=r1;rw[HQ.o]at this;exact this);(have K6:Ad (λb=>(Value.slice ad n cp).ownBlock=some b) W w6:=((Ad.refl _ W).alloc _).trans r2;have a5:∀ b,(Value.slice a2 (n+1) a3).ownBlock=some b->(w:Nat)+4<=b:=λb hb=>by rcases r3 with r3|r3;{exact H3.o b (r3 ▸ hb)};have h9:=r3 b hb;rw[bJ]at h9;omega);have K7:Ad (λb=>b=(w:Nat)) w6 (w6.setCell w (.slice a2 (n+1) a3)):=Ad.z4 w6 w _;refine⟨(K6.mono λy _ e=>?_).trans (K7.mono λy _ e=>?_),?_⟩;{have:=H3.o y e;rw[H];omega};{have e:y=_:=e;rw[H];omega};exact⟨(HE.o.O K6 λy hy e=>kL (H3.o y e)).O K7 kJ,HI.o,_,a4.z2 (i:=0) _,Lb b3 K7 λb hb e=>kL (a5 b hb),a5⟩
 case hdone =>intro s W a7 h hd;obtain⟨v,X,Z,h3⟩:=h.var;obtain⟨ad,cp,rfl⟩:=Ir Z;(have q5:W.cell? w=some (.slice ad s.length cp):=X.cell (i:=0) vF;have H2:=J Z;have H3:=J h3;have HX:=J h.ext;have HI:=J h.inv;have b4:=J a7;have HD:=J hd;clear h X Z h3 hd a7 a1;gi_wp2_with fail);refine⟨by simp,.inl ⟨_,_,rfl,run_takeDeferred HD.o,?_⟩⟩;refine⟨_,results_tmp rfl _ _ _,?_⟩;have hK:=Ad.z7 W w1 (.deferred none);exact⟨.slice ad s.length cp,s,rfl,HI.o,b4.o,⟨_,_,rfl⟩,Lb H2.o hK λb hb e=>by have:=H3.o b hb;rw[H]at e;omega,HX.o.putObj (.inr vO) _,λb hb=>kL (H3.o b hb)⟩
end
section
section mixr
variable {P:Program} {l:List Oper} {lr:Nat} {R:Act->vW->Prop}
def JX(R:Act->vW->Prop):Exit->Act->vW->Prop:=λe a w=>e=.normal/\R a w
theorem eI:¬ LetsOut (JX R):=λ⟨_,_,h,_⟩=>by cases h
theorem TF{o:Oper}{a:Act}{w:vW}{K K':Act->vW->Prop}{Q:Exit->Act->vW->Prop}(hd:∀ c,o.op≠.defer c)(hK:∀ a w,K a w->K' a w)(h:o.wp P a w K (JX R)):o.wpIn (Fence.wide.inRound lr) 0 P a w K' Q:=by
 unfold Oper.wp at h
 refine⟨λ_ _=>trivial,?_⟩
 rw[Oper.semAt_eq _ _ _ hd];generalize (execOp a.eval o).run P w=r at *;cases r with
 |ok x w' =>(cases x with| value v=>exact hK _ _ h| skip=>exact hK _ _ h| defer d=>exact hK _ _ h| enter f args =>(refine bA (λq=>absurd q (by simp[Fence.wide])) (CallsIn.inRound lr (callsIn_wide.2 (Calls.mono h λe H A=>?_)));cases e with| returned v=>exact hK _ _ A| panicked c=>cases A.1| outgrown=>exact absurd A eI)| row r args=>exact bA (λq=>absurd q (by simp[Fence.wide])) (λc cs _=>let ⟨v,w',r,s⟩:=h c cs;⟨v,w',hK _ _ r,stepsIn_wide.2 s⟩)| round l f t a b=>exact h.elim| _=>exact h.elim)
 |halt x w' =>cases x<;>first|exact h.elim|cases h.1
theorem L_(hnd:OY l.toArray=true):∀ (q:Nat) (e:Array Bool) (a:Act) (w:vW),wpAny P .any l.toArray (JX R) q e a w->wpAnyIn (Fence.wide.inRound lr) 0 P .any l.toArray (JX R) q e a w:=by
 have K:∀ (i:Nat) (o:Oper),l.toArray[i]?=some o->∀ c,o.op≠.defer c:=by intro i o H c O;unfold OY at hnd;rw[fJ]at hnd;have:=hnd o (by simpa using bD (by simpa using H));rw[O]at this;simp at this
 intro q;induction q with
 |zero=>exact λ_ _ _ h=>h
 |succ q ih =>intro e a w h;refine⟨h.1,λi X=>?_⟩;have A:=h.2 i X;unfold wpOp at A;unfold wpOpIn;split;{rename_i H;simp only[H]at A;exact ih _ _ _ A};rename_i o H;simp only[H]at A;split;{rename_i hw;simp only[hw,if_true]at A;rcases A with A|A;{exact TF (K i o H) (λa w h=>ih _ a w h) A};exact absurd A.2 eI};rename_i hw;simp only[hw]at A;exact⟨λ_ _=>trivial,ih _ _ _ A⟩
theorem K_(hm:P.follows .mixedOrders=true)(hnd:OY l.toArray=true){id:Nat}{Q:Exit->Act->vW->Prop}{a:Act}{w:vW}(hq:∀ a w,R a w->Q .normal a w)
  (h:wpAny P .any l.toArray (JX R) l.toArray.size (Array.replicate l.toArray.size false) a w.drew):(Code.region id l.toArray true).wpIn (Fence.wide.inRound lr) 0 P Q a w:=
 wpIn_mono (wpIn_region_any hm (L_ hnd _ _ _ _ h)) λe a w ⟨q,A⟩=>by subst q;exact hq _ _ A
theorem g_(ord hd:List Nat)(E:vW->vW->Prop)(hE:∀ w,E w w)(hT:∀ x y z,E x y->E y z->E x z){id:Nat}{Q:Exit->Act->vW->Prop}{a:Act}{w:vW}
  (hm:P.follows .mixedOrders=true) (hnd:OY l.toArray=true) (hs:Region.noSelect l.toArray=true) (hl:ord.length=l.toArray.size)
  (h:Nc P l hd E (λa w=>Q .normal a w) ord [] a w.drew):(Code.region id l.toArray true).wpIn (Fence.wide.inRound lr) 0 P Q a w:=by
 refine K_ (R:=λa w=>Q .normal a w) hm hnd (λ_ _ h=>h) ?_;rw[<-hl]
 have:=MS hE hT hs ord _ _ _ h
 unfold Ec at this;rw[hl]at this ⊢;exact SO hE (λ_ _ h=>⟨rfl,h⟩) _ _ _ _ this
theorem ZN{ops:Array Oper}{rest:List Oper}{o:Oper}{a:Act}{w:vW}{Q:Exit->Act->vW->Prop}{T:TypeId}{cs:List vV}(hrun:∀ w,(Instr.alloc T true (.tuple #[])).run P w=.ok w (w.alloc (.cells cs.toArray T)))(hgd:o.guard=none)(ho:o.op=.alloc T)
  (h:∀ W,Ae W w (.cells cs.toArray T)->Af w W->wpListIn (Fence.wide.inRound lr) 0 P ops Q rest (a.put o.dst w) W):wpListIn (Fence.wide.inRound lr) 0 P ops Q (o::rest) a w:=
 wpListIn_plain hgd λK e=>TF (R:=λ_ _=>False) (by rw[ho];intro c q;cases q) (λ_ _ h=>h) (Ro (v:=.pointer (some w)) (w':=w.alloc (.cells cs.toArray T)) (by simp only[execOp,ho,bS,hrun,Result.andThen,cT]) (e _ _ (h _ (Ae.new w _) ((Aa w).alloc _))))
theorem SB{ops:Array Oper}{rest:List Oper}{o:Oper}{a:Act}{w:vW}{Q:Exit->Act->vW->Prop}{T T2:TypeId}{x y:Operand}{b:Nat}{old vs:List vV}(hgd:o.guard=none)(ho:o.op=.store T x y)(hx:a.eval x=.pointer (some b))(hy:a.eval y=.agg vs.toArray)
  (hB:Ae w b (.cells old.toArray T2)) (hl:old.length=vs.length) (hi:(P.info? T).map (·.size)=some vs.length) (h1:∀ v∈vs,v.oneCell'=true)
  (h:∀ W,Ae W b (.cells vs.toArray T2)->Ad (λz=>z=b) w W->wpListIn (Fence.wide.inRound lr) 0 P ops Q rest (a.put o.dst undef) W):wpListIn (Fence.wide.inRound lr) 0 P ops Q (o::rest) a w:=by
 refine wpListIn_plain hgd λK e=>TF (R:=λ_ _=>False) (by rw[ho];intro c q;cases q) (λ_ _ h=>h) ?_;refine wp_store_mid T x y ho b 0 vs.toArray hx hy (by have:=LN hB;rw[hl]at this;simpa using this) (by simpa using hi) (all_oneCell_toArray h1) (e _ _ (h _ ?_ (Ad.z9 b vs 0 w)))
 have:=Ae.setCells vs 0 w old hB vO
 rw[fZ vO]at this;simpa using this
end mixr
end
theorem GK(a b:vB):Qf a b=true↔Lt a.data.toList b.data.toList:=by
 unfold Qf;rw[cA,cA]
abbrev Ay.k(p:Ay):vN:=p.1.data.toList
def look(m:vL)(k:vN):Option vB:=(m.find? λp=>decide (k=p.k)).map (·.2)
theorem GL(q:Ay)(r:vL)(k:vN):look (q::r) k=if k=q.k then some q.2 else look r k:=by
 unfold look
 by_cases h:k=q.k<;>simp[fQ,h]
