/- Lemmas; each is under no condition but those that it states. -/
import Derived.Test.YtcpnjmcipainpaaGreatDoorPr21
namespace Go.Proofs.YtcpnjmcipainpaaGreatDoor
set_option linter.unusedSimpArgs false
set_option linter.unusedVariables false
set_option maxRecDepth 100000
set_option maxHeartbeats 16000000
open Go Go.RowKit
def jwU(P:Program)(l:Nat)(args:Array Value)(W:World)(r:Nat)(Ct:World->Prop):Prop:=
 YieldAt Fence.wide 0 P l args W fun e W'=>e=.returned (.bool true)/\jae (fun b=>b≠r) W W'/\Ct W'
def jwy(P:Program)(gf:FuncId)(lb:Array Value){σ:Type}(s0:σ)(Step:σ->Array Value->σ->Prop)(Done:σ->Prop)(S:World->Prop):Prop:=
 ∀ (l:Nat) (C:σ->World->Prop) (W:World),(∀ s W1 W2,C s W1->jae (fun b=>b=W.heap.size) W1 W2->C s W2)->(∀ s W1,C s W1->S W1) ->
  (∀ s v s' W1,Step s v s'->C s W1->W.heap.size < W1.heap.size->jwU P l v W1 W.heap.size (C s'))->C s0 W ->
   CallsIn Fence.wide 0 P gf (#[.func (.yield l) #[] #[]]++lb) W (fun e W'=>(∃ v,e=.returned v)/\∃ s,Done s/\C s W')
def jwL(g:Nat)(W:World)(Ct:World->Prop):Exit->Act->World->Prop
 | .normal,_,W'=>jae (fun b=>b≠g/\b≠g+1/\b≠g+2) W W'/\Ct W'
 | _,_,_=>False
theorem jr3{P:Program}{g:Operand}{ps:Array Tmp}{assign body:Code}{Q:Exit->Act->World->Prop}{a:Act}{w:World}
  {gf:Nat} {lb:Array Value} (hg:a.eval g=.func (.func gf) #[] lb) (eg:∀ args w,(callFunc gf args).run P w=.ok (.enter gf args) w)
  {σ:Type} {s0:σ} {Step:σ->Array Value->σ->Prop} {Done:σ->Prop} {S:World->Prop} (IS:jwy P gf lb s0 Step Done S)
  (hps:∀ s v s',Step s v s'->v.size=ps.size)
  (C:σ->World->Prop) (hC:∀ s W W',C s W->jae (fun b=>b=w.heap.size\/b=w.heap.size+1\/b=w.heap.size+2) W W'->C s W') (hS:∀ s W,C s W->S W)
  (h0:C s0 w) (a₁:Array Value->Act)
  (hassign:∀ (l:Nat) (v:Array Value) (s s':σ) (W:World) (K:Act->World->Prop),Step s v s'->K (a₁ v) W ->
   assign.wpIn (Fence.wide.inRound l) 0 P (Exit.then K (fun _ _ _=>False)) { tmps:=(ps.zip v).foldl (fun t (p,v)=>t.setIfInBounds p v) a.tmps,defers:=[] } W)
  (hbody:∀ (l:Nat) (v:Array Value) (s s':σ) (W:World),Step s v s'->C s W->w.heap.size+2 < W.heap.size->body.wpIn (Fence.wide.inRound l) 0 P (jwL w.heap.size W (C s')) (a₁ v) W)
  (hdone:∀ (s:σ) (W:World),Done s->C s W->Blk W w.heap.size (.deferred (some []))->Q .normal { a with defers:={ target:=.collected w.heap.size,args:=#[] } :: a.defers } W) :
  (Code.rangeFunc g ps assign body).wpIn Fence.wide 0 P Q a w:=by
 refine wpIn_rangeFunc ?_;intro fn _;show ∃ l mark w₁ d w₁' f args w₂,(Instr.enterLoop fn a.tmps ps assign body none).run P w=_/\_
 obtain⟨rec,hrec⟩:∃ rec:LoopState->Option Code->Loop,rec=fun st pe=>{ state:=st,pending:=pe,fn,tmps:=a.tmps,params:=ps,assign,body,defers:=w.heap.size }:=⟨_,rfl⟩
 obtain⟨W1,hW1⟩:∃ W1,(w.alloc (.deferred (some []))).alloc (.loop (rec .ready none))=W1:=⟨_,rfl⟩
 have hL1:Blk W1 (w.heap.size+1) (.loop (rec .ready none)):=by
  rw[<-hW1];have:=Blk.new (w.alloc (.deferred (some []))) (.loop (rec .ready none));rwa [World.size_alloc]at this
 have hK1:Blk W1 w.heap.size (.deferred (some [])):=by
  rw[<-hW1];exact (Blk.new w _).alloc _
 have hX1:Ext w W1:=by rw[<-hW1];exact ((jae.refl _ w).alloc _).alloc _
 have hs1:W1.heap.size=w.heap.size+2:=by rw[<-hW1];simp
 refine⟨w.heap.size+1,[{ target:=.collected w.heap.size,args:=#[] }],W1,{ target:=.fn (.func gf) lb,args:=#[.func (.yield (w.heap.size+1)) #[] #[]] },W1,gf,
  #[.func (.yield (w.heap.size+1)) #[] #[]]++lb,W1,?_,?_,?_,?_,fun h=>by simp[Fence.wide]at h,?_⟩
 ·rw[<-hW1,hrec];exact run_enterLoop_outer _ _ _ _ _
 ·simp only[resolve,hg]
  simp[go_sem]
 ·intro f' _;trivial
 ·simp[invoke,go_sem,eg]
 ·let CC:σ->World->Prop:=fun s W=>C s W/\Blk W (w.heap.size+1) (.loop (rec .ready none))/\Blk W w.heap.size (.deferred (some []))
  have key:=IS (w.heap.size+1) CC W1 (fun s Wa Wb ⟨h1,h2,h3⟩ e=>⟨hC s _ _ h1 (e.mono (fun b _ h=>by rw[hs1]at h;exact .inr (.inr h))),h2.keeps e (by rw[hs1];omega),h3.keeps e (by rw[hs1];omega)⟩)
   (fun s W h=>hS s W h.1) ?_ ⟨hC s0 _ _ h0 (hX1.mono (fun _ _ h=>h.elim)),hL1,hK1⟩
  ·refine CallsIn.mono key ?_
   rintro e W' ⟨⟨v,rfl⟩,s,hd,h1,h3,h4⟩
   obtain⟨ox,he⟩:∃ ox,(Instr.endLoop (w.heap.size+1)).run P W'=.ok none (W'.putObj (w.heap.size+1) ox):=⟨_,(run_endLoop (r:=rec .ready none) h3 (by rw[hrec];simp)).trans (by rw[hrec])⟩
   exact⟨none,_,he,hdone s _ hd (hC s _ _ h1 ((jae.onePut _ _ _).mono (fun b _ h=>.inr (.inl h)))) (h4.put_other vO _)⟩
  ·rintro s v s' W hst ⟨h1,h3,h4⟩ hlt
   rw[hs1]at hlt
   refine⟨_,_,_,_,run_yield h3 (by rw[hrec];exact hps s v s' hst),?_⟩
   refine roundIn_of_wpIn trivial ?_;rw[show (rec .ready none).tmps=a.tmps from by rw[hrec],show (rec .ready none).params=ps from by rw[hrec],show (rec .ready none).assign=assign from by rw[hrec],show (rec .ready none).body=body from by rw[hrec]];refine hassign _ v s s' W _ hst ?_
   refine⟨_,run_beginRound h3 (by rw[hrec]),?_⟩
   have hb1:C s (W.putObj (w.heap.size+1) (.loop { rec .ready none with state:=.busy })):=hC s _ _ h1 ((jae.onePut _ _ _).mono (fun b _ h=>.inr (.inl h)));refine Code.wpIn_mono ?_ (hbody (w.heap.size+1) v s s' _ hst hb1 (by rw[World.putObj_size];exact hlt));have fin:∀ (j:Option Code) (W':World),jae (fun b=>b≠w.heap.size/\b≠w.heap.size+1/\b≠w.heap.size+2) (W.putObj (w.heap.size+1) (.loop { rec .ready none with state:=.busy })) W' ->
     (Instr.endRound (w.heap.size+1) j).run P W'=.ok (.bool j.isNone) (W'.putObj (w.heap.size+1) (.loop (rec (if j.isNone then .ready else .done) j))) /\
     Blk (W'.putObj (w.heap.size+1) (.loop (rec (if j.isNone then .ready else .done) j))) (w.heap.size+1) (.loop (rec (if j.isNone then .ready else .done) j)) /\
     Blk (W'.putObj (w.heap.size+1) (.loop (rec (if j.isNone then .ready else .done) j))) w.heap.size (.deferred (some [])):=by
    intro j W' hK;have hl:Blk W' (w.heap.size+1) (.loop { rec .ready none with state:=.busy }):=(h3.put_same _).keeps hK (fun h=>h.2.1 rfl);have hd:Blk W' w.heap.size (.deferred (some [])):=(h4.put_other vO _).keeps hK (fun h=>h.1 rfl)
    refine⟨?_,hl.put_same _,hd.put_other vO _⟩
    rw[run_endRound j hl,hrec]
   intro e a' W' hq;cases e with
   | normal =>
    obtain⟨hK,hc⟩:=hq
    obtain⟨f1,f2,f3⟩:=fin none W' hK
    have k1:jae (fun b=>b≠W1.heap.size) W (W.putObj (w.heap.size+1) (.loop { rec .ready none with state:=.busy })):=(jae.onePut _ _ _).mono (fun b _ h=>by have h:b=w.heap.size+1:=h;rw[hs1];omega);have k2:jae (fun b=>b≠W1.heap.size) (W.putObj (w.heap.size+1) (.loop { rec .ready none with state:=.busy })) W':=hK.mono (fun b _ h=>by rw[hs1];exact h.2.2);have k3:jae (fun b=>b≠W1.heap.size) W' (W'.putObj (w.heap.size+1) (.loop (rec .ready none))):=(jae.onePut _ _ _).mono (fun b _ h=>by have h:b=w.heap.size+1:=h;rw[hs1];omega)
    exact⟨_,_,f1,rfl,(k1.trans k2).trans k3,hC s' _ _ hc ((jae.onePut _ _ _).mono (fun b _ h=>.inr (.inl h))),f2,f3⟩
   | _=>exact hq.elim
section
attribute [local go_sem] Oper.semAt_some
abbrev EntS:=Ent (List UInt8)
theorem Tryz.uMapSE:Tryz.prog.underlying 171=some (.map 9 95):=by kernel_rfl
def jfw(s:List EntS):Array Nat:=(s.map (·.2.2)).toArray
def jwz(es:List EntS)(s:List EntS)(v:Array Value)(s':List EntS):Prop:=∃ x∈jaZ es (jfw s),v=#[str x.1]/\s'=s++[x]
def jn6(es:List EntS)(s:List EntS):Prop:=jaZ es (jfw s)=[]
def jrJ(w:World)(r:Nat):Array Nat:=match w.heap[r]? with | some (.mapIter _ _ s _)=>s | _=>#[]
theorem ji9{w:World}{r:Nat}{m:Option Nat}{a b:Nat}{s:Array Nat}(h:Blk w r (.mapIter m a s b)):jrJ w r=s:=by
 unfold jrJ;rw[show w.heap[r]?=_ from h]
theorem jvx{es:List EntS}{s:List EntS}{x:EntS}(hx:x∈jaZ es (jfw s)):(jaZ es (jfw (s++[x]))).length < (jaZ es (jfw s)).length:=by
 have e:jaZ es (jfw (s++[x]))=(jaZ es (jfw s)).filter (fun y => !(y.2.2 == x.2.2)):=by
  unfold jaZ jfw;rw[List.filter_filter];refine List.filter_congr (fun y _=>?_);simp only[List.contains_toArray,List.map_append,List.map_cons,List.map_nil,List.contains_append]
  by_cases h1:y.2.2=x.2.2 <;> simp[h1]
 rw[e,List.length_filter_lt_length_iff_exists]
 exact⟨x,hx,by simp⟩
def KyS(bx bm ck:Nat)(es:List EntS)(W:World):Prop:=Blk W bx (.cells #[.map (some bm)] 171)/\Blk W bm (.map (Tryz.ES.arr es) ck)
def jyk(r bm ck:Nat)(es:List EntS)(C:List EntS->World->Prop)(wr:World):Prop:=∃ s,C s wr/\Blk wr r (.mapIter (some bm) ck (jfw s) ck)
theorem jvs(bx bm ck:Nat)(es:List EntS)(hnd:(es.map (·.2.2)).Nodup)(hlt:∀ x∈es,x.2.2 < ck) :
  jwy Tryz.prog 162 #[.pointer (some ⟨bx,0,none⟩)] ([]:List EntS) (jwz es) (jn6 es) (KyS bx bm ck es):=by
 intro l C W hC hS hY h0
 obtain⟨hx,hm⟩:=hS _ _ h0
 have c1:=hx.cell (i:=0) (v:=.map (some bm)) vF;have hrg:=jrG Tryz.ES Tryz.uMapSE hm;have HC0:=Hd (show C [] (W.alloc (.mapIter (some bm) ck #[] ck))from hC [] _ _ h0 (((ExtR W).alloc _).mono (fun _ _ h=>h.elim)));have HC:=Hd hC;have HS:=Hd hS;have HY:=Hd hY;have HND:=Hd hnd;have HLT:=Hd hlt;clear hC hS hY h0 hx hm hnd hlt;refine callsIn_of_wp Tryz.func162 rfl trivial ?_ rfl;simp only[Tryz.ntmps162,List.size_toArray,List.length_cons,List.length_nil,Nat.reduceAdd,Nat.reduceSub,Array.replicate_succ,Array.replicate_zero,List.push_toArray,List.append_toArray,List.nil_append,List.cons_append];gi_wp2_with fail
 obtain⟨r,hr⟩:=vE W.heap.size
 have HR:=Hd hr;rw[<-hr];clear hr;gi_loopw [] (fun wr=>jyk r bm ck es C wr) (fun wr=>(jaZ es (jrJ wr r)).length)
 case atStart=>exact⟨[],HC0.o,by rw[HR.o];exact Blk.new W _⟩
 case round =>
  obtain⟨s,hCs,hB⟩:=hrel
  obtain⟨hx,hm⟩:=HS.o _ _ hCs
  rcases jtP Tryz.ES hm hB HLT.o 0 with⟨hl0,hnx⟩ |⟨x,hxl,w2,hnx,hr2,hk2⟩
  ·have HDN:Hid (jn6 es s):=hl0
   have HCs:=Hd hCs;clear hl0 hCs hx hm hB HC HS HY HND HLT HC0 c1 hrg;gi_wp2_with fail
   refine bodyPost_end (results_none rfl _ _ _) rfl ?_
   exact⟨⟨_,rfl⟩,s,HDN.o,HCs.o⟩
  ·have hne:r≠bm:=fun e=>by have:=hm.uniq (e ▸ hB);cases this
   have hm2:=hm.keeps hk2 (fun e=>hne e.symm);have hxm:x∈es:=(List.mem_filter.1 hxl).1;have hen:=jrF Tryz.ES hm2 hxm hr2 HND.o;have hC2:C s w2:=HC.o s _ _ hCs (hk2.mono (fun b _ e=>by rw[<-HR.o];exact e))
   obtain⟨fn,tm,asg,bd,hyr,hrd⟩:=HY.o s #[str x.1] (s++[x]) w2 ⟨x,hxl,rfl,rfl⟩ hC2 (by rw[<-HR.o];exact hr2.lt)
   have hyr':(Instr.yield l #[Tryz.ES.κ x.1]).run Tryz.prog w2=.ok (.round l fn tm asg bd) w2:=hyr;have HXL:=Hd hxl;have HSN:=Hd (ji9 hB);have hbs:(jfw s).push x.2.2=jfw (s++[x]):=by unfold jfw;simp
   rw[hbs]at hr2;have HR2:=Hd hr2;have HRD:=Hd hrd;clear hyr hC2 hCs hx hm hB HC HS HND HLT HC0 c1 hrg hm2 hk2 hxl hxm hr2 hrd hbs hne;gi_wp2_with fail
   refine⟨rfl,HRD.o.mono ?_⟩
   rintro e w5 ⟨rfl,k5,C5⟩;have HB5:=Hd (HR2.o.keeps k5 (fun h=>h HR.o));have HC5:=Hd C5;clear C5 k5 hnx hen hyr';gi_wp2_with fail
   go_roundw
   case rel=>exact⟨_,HC5.o,HB5.o⟩
   case measure =>
    rw[ji9 HB5.o,HSN.o];exact jvx HXL.o
def keyB(x:EntS):vB:=⟨x.1.toArray⟩
theorem jnR(x:EntS):str x.1=.string (keyB x):=rfl
def InvS(es s:List EntS):Prop:=(s.map (·.2.2)).Nodup/\∀ x∈s,x∈es
theorem InvS.step{es s s':List EntS}{v:Array Value}(h:InvS es s)(k:jwz es s v s'):InvS es s':=by
 obtain⟨x,hx,_,rfl⟩:=k
 obtain⟨h1,h2⟩:=List.mem_filter.1 hx
 have h2:x.2.2 ∉ s.map (·.2.2):=by simpa [jfw]using h2
 refine⟨?_,fun z hz=>?_⟩
 ·rw[List.map_append,List.nodup_append]
  exact⟨h.1,by simp,fun a ha b hb e=>by simp at hb;subst hb;subst e;exact h2 ha⟩
 ·rcases List.mem_append.1 hz with hz | hz
  ·exact h.2 z hz
  ·simp at hz;exact hz ▸ h1
theorem InvS.len{es s:List EntS}(h:InvS es s):s.length<=es.length:=by
 have:=List.Nodup.length_le_of_subset h.1 (l₂:=es.map (·.2.2)) (fun k hk=>by
  obtain⟨z,hz,e⟩:=List.mem_map.1 hk;exact List.mem_map.2 ⟨z,h.2 z hz,e⟩)
 simpa using this
theorem InvS.perm{es s:List EntS}(h:InvS es s)(hd:jn6 es s)(hst:(es.map (·.2.2)).Nodup)(hkn:(es.map (·.1)).Nodup):(s.map (·.1)).Perm (es.map (·.1)):=by
 have hsub:∀ x∈es,x∈s:=by
  intro x hx
  by_cases hc:x.2.2∈s.map (·.2.2)
  ·obtain⟨z,hz,e⟩:=List.mem_map.1 hc
   have:=jbD hst (h.2 z hz) hx e
   exact this ▸ hz
  ·have:x∈jaZ es (jfw s):=by
    refine List.mem_filter.2 ⟨hx,?_⟩;simpa [jfw]using hc
   rw[hd]at this;cases this
 have hnd:(s.map (·.1)).Nodup:=by
  have h1:=h.1;have h2:=h.2;clear h hd hsub;induction s with
  | nil=>simp
  | cons z r ih =>
   rw[List.map_cons,List.nodup_cons]at h1 ⊢
   refine⟨fun hm=>?_,ih h1.2 (fun x hx=>h2 x (List.mem_cons_of_mem _ hx))⟩
   obtain⟨y,hy,e⟩:=List.mem_map.1 hm
   have:=jbD hkn (h2 y (List.mem_cons_of_mem _ hy)) (h2 z (List.mem_cons_self ..)) e
   exact h1.1 (List.mem_map.2 ⟨y,hy,by rw[this]⟩)
 refine jh3 hnd hkn fun k=>?_;constructor
 ·intro hk;obtain⟨z,hz,e⟩:=List.mem_map.1 hk;exact List.mem_map.2 ⟨z,h.2 z hz,e⟩
 ·intro hk;obtain⟨z,hz,e⟩:=List.mem_map.1 hk;exact List.mem_map.2 ⟨z,hsub z hz,e⟩
structure AppS(w:World)(es s:List EntS)(W:World):Prop where
 ext:Ext w W
 inv:InvS es s
 var:∃ v,Blk W w.heap.size (.cells #[v] 34)/\W.ownsRow 0 9 1 v s.length ((s.map keyB).map Value.string)/\∀ b,v.ownBlock=some b->w.heap.size+4<=b
theorem AppS.st{w:World}{es s:List EntS}{W W':World}(h:AppS w es s W)(k:jae (fun b=>b=w.heap.size+1\/b=w.heap.size+1+1\/b=w.heap.size+1+2) W W'):AppS w es s W':=by
 obtain⟨v,h1,h2,h3⟩:=h.var
 exact⟨h.ext.trans' k (fun x hx e=>by omega),h.inv,v,h1.keeps k vO,jaW h2 k (fun b hb e=>by have:=h3 b hb;omega),h3⟩
theorem jsj(w:World)(bx bm ck:Nat)(es:List EntS)(hk:KyS bx bm ck es w)(hnd:(es.map (·.2.2)).Nodup)(hlt:∀ x∈es,x.2.2 < ck)(hlen:es.length<=1000000) :
  vQ 206 #[.slice none 0 0,.func (.func 162) #[] #[.pointer (some ⟨bx,0,none⟩)]] w fun e w'=>∃ u s,e=.returned u/\InvS es s/\jn6 es s/\SRow w w' u s.length (s.map keyB):=by
 have HIT:=Hd (jvs bx bm ck es hnd hlt);have HK:=Hd hk;clear hk hnd hlt;refine (callsIn_wide (n:=0)).1 ?_;refine callsIn_of_wp_marks Tryz.func206 rfl trivial ?_ rfl;simp only[Tryz.ntmps206,List.size_toArray,List.length_cons,List.length_nil,Nat.reduceAdd,Nat.reduceSub,Array.replicate_succ,Array.replicate_zero,List.push_toArray,List.append_toArray,List.nil_append,List.cons_append];gi_wp2_with fail
 obtain⟨w1,hw1⟩:=vE (w.alloc (.cells #[.slice none 0 0] 34))
 rw[<-hw1];have hs1:w1.heap.size=w.heap.size+1:=by rw[hw1];simp
 have S0:AppS w es [] w1:=by
  rw[hw1]
  exact⟨(ExtR w).alloc _,⟨by simp,fun x hx=>by cases hx⟩,_,Blk.new w _,World.ownsRow_nil _ _ _ _,fun b hb=>by cases hb⟩
 have HS0:=Hd S0;clear S0 hw1;refine jr3 (gf:=162) (lb:=#[.pointer (some ⟨bx,0,none⟩)]) rfl (vX 162) HIT.o
  (fun s v s' h=>by obtain⟨x,_,rfl,_⟩:=h;rfl) (AppS w es) (fun s W W' h k=>h.st (by rw[hs1]at k;exact k)) (fun s W h=>⟨HK.o.1.keeps h.ext (fun h=>h),HK.o.2.keeps h.ext (fun h=>h)⟩) HS0.o
  (fun v=>{ tmps:=#[.slice none 0 0,.func (.func 162) #[] #[.pointer (some ⟨bx,0,none⟩)],.pointer (some ⟨w.heap.size,0,none⟩),undef,.slice none 0 0,v.getD 0 undef,.func (.func 162) #[] #[.pointer (some ⟨bx,0,none⟩)],v.getD 0 undef,undef,undef,undef,undef,undef],defers:=[] })
  ?hassign ?hbody ?hdone
 case hassign =>
  intro l2 v s s' W K hst hK
  obtain⟨x,_,rfl,_⟩:=hst
  rw[jnR]at hK ⊢;rw[jxm];simp only[List.set_cons_zero,List.set_cons_succ];gi_wp2;exact hK
 case hbody =>
  intro l2 v s s' W hst h hlt;have hinv:=h.inv.step hst
  obtain⟨x,hx,rfl,rfl⟩:=hst
  obtain⟨v,h1,h2,h3⟩:=h.var
  obtain⟨ad,cp,rfl⟩:=jaJ h2
  rw[jnR]
  obtain⟨q,hq⟩:=vE (keyB x)
  rw[<-hq];have hln:s.length<=1000000:=Nat.le_trans h.inv.len hlen;have hV:=h1.cell (i:=0) (v:=.slice ad s.length cp) vF;have hVf:W.frozen? ⟨w.heap.size,0,none⟩=false:=h1.frozen
  obtain⟨n,hn⟩:=vE s.length
  rw[<-hn]at h2 hln hV h1 h3;have hlt:w.heap.size+3 < W.heap.size:=by rw[hs1]at hlt;omega
  have HN:=Hd hn;have HQ:=Hd hq;have HV:=Hd h1;have HO:=Hd h2;have H3:=Hd h3;have HE:=Hd h.ext;have HI:=Hd hinv;rw[show (#[Value.string q]:Array Value).getD 0 undef=.string q from rfl];clear h h1 h2 h3 hinv hx hn hq HS0
  obtain⟨i0,hi,hz0,hz1,hz2⟩:=info_parts Tryz.infoStr
  gi_wp2_with (gi_at_builtin;refine jbV _ rfl (.tmp 8) (.tmp 10) 34 rfl 9 i0 _ 1 16 Tryz.uStrs hi hz0 hz1 hz2 rfl vI (.slice ad n cp) n _ rfl (jbe HO.o ((ExtR W).alloc _)) ⟨W.heap.size,0,none⟩ 1 1 [.string q] rfl rfl (jaS (Blk.new W _)) (by simp[Value.oneCell']) (by unfold maxLen;omega) vO ?_;intro v' w6 r1 r2 r3;obtain⟨ad',cp',rfl⟩:=jaJ r1;have hV6:=(HV.o.alloc _).keeps r2 (fun e=>by have:=H3.o _ e;omega);have q56:w6.cell? ⟨w.heap.size,0,none⟩=some (.slice ad n cp):=hV6.cell (i:=0) vF;have f56:w6.frozen? ⟨w.heap.size,0,none⟩=false:=hV6.frozen)
  have r1':w6.ownsRow 0 9 1 (.slice ad' (n+1) cp') (s++[x]).length (((s++[x]).map keyB).map Value.string):=by
   rw[List.length_append, <-HN.o,List.map_append,List.map_append]
   have:=r1;rw[HQ.o]at this;exact this
  have K6:jae (fun b=>(Value.slice ad n cp).ownBlock=some b) W w6:=((jae.refl _ W).alloc _).trans r2;have hv':∀ b,(Value.slice ad' (n+1) cp').ownBlock=some b->w.heap.size+4<=b:=fun b hb=>by
   rcases r3 with r3 | r3
   ·exact H3.o b (r3 ▸ hb)
   ·have h9:=r3 b hb;rw[World.size_alloc]at h9;omega
  have K7:jae (fun b=>b=w.heap.size) w6 (w6.setCell ⟨w.heap.size,0,none⟩ (.slice ad' (n+1) cp')):=jae.oneSet w6 ⟨w.heap.size,0,none⟩ _
  refine⟨(K6.mono (fun y _ e=>?_)).trans (K7.mono (fun y _ e=>?_)),?_⟩
  ·have:=H3.o y e;rw[hs1];omega
  ·have e:y=_:=e;rw[hs1];omega
  ·exact⟨(HE.o.trans' K6 (fun y hy e=>by have:=H3.o y e;omega)).trans' K7 (fun y hy e=>by have e:y=_:=e;omega),HI.o,
    _,hV6.set_same (i:=0) _,jaW r1' K7 (fun b hb e=>by have:=hv' b hb;omega),hv'⟩
 case hdone =>
  intro s W hdn h hd
  obtain⟨v,h1,h2,h3⟩:=h.var
  obtain⟨ad,cp,rfl⟩:=jaJ h2
  have q5:W.cell? ⟨w.heap.size,0,none⟩=some (.slice ad s.length cp):=h1.cell (i:=0) vF;have H2:=Hd h2;have H3:=Hd h3;have HX:=Hd h.ext;have HI:=Hd h.inv;have HDN:=Hd hdn;have HD:=Hd hd;clear h h1 h2 h3 hd hdn HS0;gi_wp2_with fail
  refine⟨by simp,.inl ⟨_,_,rfl,run_takeDeferred HD.o,?_⟩⟩
  refine⟨_,results_tmp rfl _ _ _,?_⟩
  have hK:=jae.onePut W w1.heap.size (.deferred none)
  exact⟨.slice ad s.length cp,s,rfl,HI.o,HDN.o,⟨_,_,rfl⟩,jaW H2.o hK (fun b hb e=>by have:=H3.o b hb;rw[hs1]at e;omega),HX.o.putObj (.inr vO) _,fun b hb=>by have:=H3.o b hb;omega⟩
end
end Go.Proofs.YtcpnjmcipainpaaGreatDoor
