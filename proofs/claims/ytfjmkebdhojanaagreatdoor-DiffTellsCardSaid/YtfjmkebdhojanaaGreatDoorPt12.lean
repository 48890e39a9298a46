/- Lemmas; each is under no condition but those that it states. -/
import Derived.Test.YtfjmkebdhojanaaGreatDoorPt11
import Derived.RangeFuncCalls
namespace Go.Proofs.YtfjmkebdhojanaaGreatDoor
set_option linter.unusedSimpArgs false
set_option linter.unusedVariables false
set_option maxRecDepth 100000
set_option maxHeartbeats 16000000
section
open Go Go.RowKit
attribute [local go_sem] Oper.semAt_some
theorem Tryz.allocNode:∀ w,(Instr.alloc 103 true (.tuple #[])).run Tryz.prog w=.ok (.pointer (some ⟨w.heap.size,0,none⟩)) (w.alloc (.cells jaH.cells.toArray 103)):=fun w=>by kernel_rfl
theorem jad.one(n:jad):∀ v∈n.cells,v.oneCell'=true:=by
 intro v e;simp only[jad.cells,bM,bK]at e;rcases e with rfl | rfl | rfl |⟨_,_,rfl⟩ <;> rfl
def jfa(r:vB):Prop:=∃ h:vB,h.size=32/\r=jao h
theorem jfa.size{r:vB}(h:jfa r):r.size=33:=by
 obtain⟨h,e,rfl⟩:=h
 unfold jao;rw[if_neg vO,bV,e];rfl
theorem jfa.known{r:vB}(hh:jfa r):r.size<=1000000000/\∃ h q,cutN r=some q/\jfi r q=some h:=by
 have H:=hh.size
 obtain⟨h,o,e⟩:=hh
 obtain⟨q,A,E⟩:=jdT h o
 exact⟨by omega,h,q,by rw[e];exact A,by rw[e];exact E⟩
structure InlP(I:vB->jad->Prop):Prop where
 refs:∀ r m,I r m->m.refs.length=16
 small:∀ r m,I r m->r.size < 32
 pos:∀ r m,I r m->r.size≠0
 list:∀ r m,I r m->∃ xs,r=ja7 xs/\(catB xs).size<=1048576
 nohash:∀ r m,I r m->∃ q,cutN r=some q/\jfi r q=none
 inl:∀ r m,I r m->∀ w,vR 84 #[.string r] w (.tuple #[m.V,.bool true])
section
variable {I:vB->jad->Prop} (HI:InlP I)
def MayP(I:vB->jad->Prop)(r:vB):Prop:=jfa r\/∃ m,I r m
include HI
theorem jBv(w:vW)(r:vB)(hr:MayP I r):vR 150 #[.string r] w (.bool true):=by
 rcases hr with hh |⟨m,hm⟩
 ·obtain⟨hs,h,q,A,E⟩:=hh.known
  have J:=Hd A;have K:=Hd E;clear A E hh;unfold vR vQ;go_in;go_wp2_with fail
  refine vH (je3 w r q vO J.o) fun w1 O=>?_;rw[K.o];unfold optV;simp only;go_wp2_with fail
  go_ret
  exact⟨rfl,O.o⟩
 ·have hs:=HI.small r m hm
  obtain⟨q,A,E⟩:=HI.nohash r m hm
  have HC:=Hd (HI.inl r m hm);have H:=Hd (HI.refs r m hm);have J:=Hd A;have K:=Hd E;clear A E;unfold vR vQ;go_in;go_wp2_with fail
  refine vH (je3 w r q vO J.o) fun w1 O=>?_;rw[K.o];unfold optV;simp only;go_wp2_with fail
  refine vH (HC.o w1) fun w2 Q=>?_;have X:=Hd (O.o.trans Q);unfold jad.V;go_wp2_with (refine jaj Tryz.allocNode rfl rfl ?_;intro W3 hB Z;refine jah (vs:=m.cells) rfl rfl rfl rfl hB (by rw[m.cells_len H.o];rfl) (by rw[m.cells_len H.o];exact Tryz.szNode) m.one ?_;intro W4 a2 a0)
  have a1:Ext w2 W4:=Z.trans' a0 (fun x hx e=>by have e:x=w2.heap.size:=e;omega);go_ret
  exact⟨rfl,X.o.trans a1⟩
theorem jBp(w:vW)(n:jad)(r:vB)(hr:n.refs.length=16)(hp:n.pathOk 1=true)(h0:n.value=⟨#[]⟩)(hb:n.behindN=1)(J:n.refs[0]?=some r)(hm:jfa r\/∃ m,I r m/\m.kind=3):vR 120 #[n.V] w (.bool true):=by
 have a0:n.path.size<=1000000:=by
  simp only[jad.pathOk,cY,decide_eq_true_eq]at hp;omega
 have K:=jfu w n hr;have e2:n.cells[2]?=some (.string ⟨#[]⟩):=by rw[<-h0];rfl
 have e3:n.cells[3]?=some (.string r):=by
  show (n.refs.map Value.string)[0]?=_;rw[bX,J];rfl
 have HP:=Hd hp;have HB:=Hd hb;have E3:=Hd e3;clear hp hb h0 J e3;unfold jad.V at K ⊢;unfold vR vQ;go_in;go_wp2_with (refine jaf 172 (.tmp 1) rfl rfl _ _ rfl K ?_)
 refine vC (jtf _ n hr 1 a0) fun w1 A=>?_;rw[HP.o];have B1:=(Blk.new w (.cells n.cells.toArray 172)).keeps A (fun h=>h);have q2:=B1.cellL e2;have E:=jb3 w1 _ n hr B1;have O:=Hd (((ExtR w).alloc _).trans A);have Q:=Hd B1;unfold jad.V at E;clear K A B1;go_wp2_with (refine jaf 172 (.tmp 1) rfl rfl _ _ rfl E ?_)
 refine vC (joH _ n hr) fun w2 A=>?_;rw[HB.o];have B2:=Q.o.keeps A (fun h=>h);have H:=Hd (O.o.trans A);have q3:=B2.cellL E3.o;have a1:=Hd B2;clear E A q2 B2 Q O;rcases hm with hh |⟨m,hm,hk⟩
 ·obtain⟨hs,h,q,J,X⟩:=hh.known
  have H3:=Hd J;have H4:=Hd X;clear J X hh;go_wp2_with fail
  refine vH (je3 w2 r q hs H3.o) fun w3 A=>?_;rw[H4.o];have HE:=Hd (H.o.trans A);unfold optV;simp only;go_wp2_with fail
  go_ret
  exact⟨rfl,HE.o⟩
 ·have hs:=HI.small r m hm
  obtain⟨q,J,X⟩:=HI.nohash r m hm
  have HC:=Hd (HI.inl r m hm);have Z:=Hd (HI.refs r m hm);have H3:=Hd J;have H4:=Hd X;have HK:=Hd hk;clear J X hk;go_wp2_with fail
  refine vC (je3 w2 r q vO H3.o) fun w3 A=>?_;rw[H4.o];have B3:=a1.o.keeps A (fun h=>h);have HE:=Hd (H.o.trans A);have a2:=B3.cellL E3.o;clear A q3 B3;unfold optV;simp only;go_wp2_with fail
  refine vH (HC.o w3) fun w4 a3=>?_;have H:=Hd (HE.o.trans a3);clear a2;unfold jad.V;go_wp2_with (refine jaj Tryz.allocNode rfl rfl ?_;intro W3 hB a4;refine jah (vs:=m.cells) rfl rfl rfl rfl hB (by rw[m.cells_len Z.o];rfl) (by rw[m.cells_len Z.o];exact Tryz.szNode) m.one ?_;intro W4 a5 a6;have q0:W4.cell? ⟨w4.heap.size,0,none⟩=some (.int .i64 3):=a5.cellL (by show some (Value.int .i64 (m.kind:Int))=_;rw[HK.o];rfl))
  have a7:Ext w4 W4:=a4.trans' a6 (fun x hx e=>by have e:x=w4.heap.size:=e;omega);have a8:=Hd (H.o.trans a7);go_ret
  exact⟨rfl,a8.o⟩
structure BraC(w:World)(gn gr gf gi:Nat)(n:jad)(c:Nat)(k:Nat)(W:World):Prop where
 ext:Ext w W
 res:Blk W gr (.cells #[.bool false] 4)
 node:Blk W gn (.cells n.cells.toArray 172)
 full:Blk W gf (.cells #[.int .i64 ((c+k:Nat):Int)] 3)
 it:Blk W gi (.cells n.cells.toArray 172)
theorem juO(w:vW)(n:jad)(hr:n.refs.length=16)(hp:n.path=⟨#[]⟩)(h8:n.value.size<=80)(hm:∀ r∈n.refs,r.size≠0->MayP I r)(h2:2<=min n.value.size 1+n.refsL.length):vR 121 #[n.V] w (.bool true):=by
 have e1:n.cells[1]?=some (.string ⟨#[]⟩):=by rw[<-hp];rfl
 have e2:n.cells[2]?=some (.string n.value):=rfl;have c1:¬(80:Int) < (n.value.size:Int):=vO
 obtain⟨c,hc⟩:=vE (min n.value.size 1)
 have a0:min (n.value.size:Int) 1=(c:Int):=vO
 rw[<-hc]at h2;have HC:=Hd a0;have H2:=Hd h2;clear hp hc a0 h2;refine (callsIn_wide (n:=0)).1 ?_;refine callsIn_of_wp_marks Tryz.func121 rfl trivial ?_ rfl;simp only[Tryz.ntmps121,dK,bF,cF,Nat.reduceAdd,Nat.reduceSub,dP,dO,fC,dY,cT,dA]
 obtain⟨Z,A⟩:=vE (((w.alloc (.cells n.cells.toArray 172)).alloc (.cells #[.bool false] 4)).alloc (.cells #[.int .i64 (min (n.value.size:Int) 1)] 3))
 have B0:Blk Z w.heap.size (.cells n.cells.toArray 172):=by rw[A];exact ((Blk.new w _).alloc _).alloc _
 have B1:Blk Z (w.heap.size+1) (.cells #[.bool false] 4):=by
  rw[A];have:=(Blk.new (w.alloc (.cells n.cells.toArray 172)) (.cells #[.bool false] 4)).alloc (.cells #[.int .i64 (min (n.value.size:Int) 1)] 3);rwa [bT]at this
 have B2:Blk Z (w.heap.size+1+1) (.cells #[.int .i64 (c:Int)] 3):=by
  rw[A, <-HC.o];have:=Blk.new ((w.alloc (.cells n.cells.toArray 172)).alloc (.cells #[.bool false] 4)) (.cells #[.int .i64 (min (n.value.size:Int) 1)] 3);rwa [bT,bT]at this
 have E0:Ext w Z:=by rw[A];exact (((ExtR w).alloc _).alloc _).alloc _
 have a1:Z.heap.size=w.heap.size+3:=by rw[A];simp
 have O:=jb3 Z _ n hr B0;rw[A]at O;have a2:=Hd A;have a3:=Hd E0;have a4:=Hd B0;have a5:=Hd B1;have a6:=Hd B2;have a7:=Hd a1;clear A E0 B0 B1 B2 a1;unfold jad.V at O ⊢;gi_wp2_with (refine jbx rfl 172 (.tmp 1) rfl _ _ rfl O ?_)
 refine⟨trivial,rfl,CallsIn.mono (callsIn_wide.2 (jpL _ n)) ?_⟩
 rintro e w1 ⟨rfl,E,J⟩;rw[<-a2.o]at E J ⊢;rw[a7.o]at E ⊢;have a8:BraC w w.heap.size (w.heap.size+1) (w.heap.size+1+1) (w.heap.size+3) n c 0 w1:=⟨a3.o.trans J,a5.o.keeps J (fun h=>h),a4.o.keeps J (fun h=>h),a6.o.keeps J (fun h=>h),E⟩;have b2:=E.lt;have a9:=Hd a8;have b3:c<=1:=by have:=HC.o;omega
 clear E J O a8 a2 a3 a4 a5 a6 a7;gi_wp2_with fail
 refine jeD (N:=n.refsL.length) (gf:=122) (lb:=#[.pointer (some ⟨w.heap.size+3,0,none⟩)]) rfl (vX 122) (jld (w.heap.size+3) n hr)
  (fun k=>rfl) (BraC w w.heap.size (w.heap.size+1) (w.heap.size+1+1) (w.heap.size+3) n c) (fun _ _ _=>False) (fun k W W' h e=>⟨h.ext.trans e,h.res.keeps e (fun h=>h),h.node.keeps e (fun h=>h),h.full.keeps e (fun h=>h),h.it.keeps e (fun h=>h)⟩) (fun _ _ _ _ h _=>h) (fun k W h=>h.it)
  (fun k W o h=>⟨h.ext.putObj (.inr vO) _,h.res.put_other vO _,h.node.put_other vO _,h.full.put_other vO _,h.it.put_other vO _⟩)
  (fun k W o h=>⟨h.ext.putObj (.inr vO) _,h.res.put_other vO _,h.node.put_other vO _,h.full.put_other vO _,h.it.put_other vO _⟩) (fun _ _ _ _ h=>h)
  a9.o (fun k=>{ tmps:=#[.agg n.cells.toArray,.pointer (some ⟨w.heap.size,0,none⟩),.pointer (some ⟨w.heap.size+1,0,none⟩),.pointer (some ⟨w.heap.size+1+1,0,none⟩),undef,.string (n.rr k),.pointer (some ⟨w.heap.size,1,none⟩),.string ⟨#[]⟩,.bool false,.bool false,.pointer (some ⟨w.heap.size,2,none⟩),.string n.value,.int .i64 n.value.size,.bool false,.bool false,.pointer (some ⟨w.heap.size,2,none⟩),.string n.value,.int .i64 n.value.size,.int .i64 (min (n.value.size:Int) 1),.agg n.cells.toArray,.func (.func 122) #[] #[.pointer (some ⟨w.heap.size+3,0,none⟩)],.int .i64 (n.ri k:Nat),.string (n.rr k),undef,undef,undef,undef,undef,undef,undef],defers:=[] })
  ?hassign ?hbody ?hdone ?hstop
 case hassign =>
  intro l j W K hK;rw[jwc,jsh];simp only[dL,dG];gi_wp2;exact hK
 case hbody =>
  intro l k W hk h b4;have q:=h.full.cell (i:=0) (v:=.int .i64 ((c+k:Nat):Int)) vF;have f:W.frozen? ⟨w.heap.size+1+1,0,none⟩=false:=h.full.frozen;have X:=jv8 n hr hk;have Q:=hm _ (bI X.2.1) X.2.2;have b1:k < 16:=bQ hk (by
   have:∀ (l:vM) (i:Nat),(jax i l).length<=l.length:=by
    intro l;induction l with
    | nil=>intro i;simp[jax]
    | cons x r ih=>intro i;unfold jax;split <;> simp <;> have:=ih (i+1) <;> omega
   have:=this n.refs 0
   rw[hr]at this;exact this)
  have H:=Hd h;have HM:=Hd Q;clear h X Q;clear q f;gi_wp2_with fail
  refine⟨trivial,rfl,CallsIn.mono (CallsIn.inRound l (callsIn_wide.2 (jBv HI W _ HM.o))) ?_⟩
  rintro e w5 ⟨rfl,J⟩;have q:=(H.o.full.keeps J (fun h=>h)).cell (i:=0) (v:=.int .i64 ((c+k:Nat):Int)) vF;have f:w5.frozen? ⟨w.heap.size+1+1,0,none⟩=false:=(H.o.full.keeps J (fun h=>h)).frozen;have HE:=Hd J;clear J;gi_wp2;rw[show (c:Int)+(k:Int)+1=((c+(k+1):Nat):Int) by omega];have K5:jae (fun b=>b=w.heap.size+1+1) w5 (w5.setCell ⟨w.heap.size+1+1,0,none⟩ (.int .i64 ((c+(k+1):Nat):Int))):=jae.oneSet w5 ⟨w.heap.size+1+1,0,none⟩ _;have K6:jae (fun b=>b=w.heap.size+1+1) W (w5.setCell ⟨w.heap.size+1+1,0,none⟩ (.int .i64 ((c+(k+1):Nat):Int))):=(HE.o.mono (fun _ _ h=>h.elim)).trans K5
  refine⟨K6.mono (fun x hx e=>?_),?_⟩
  ·have e:x=_:=e;show x≠_/\x≠_;omega
  ·exact⟨H.o.ext.trans' K6 (fun x hx e=>by omega),H.o.res.keeps K6 vO,H.o.node.keeps K6 vO,((H.o.full.keeps HE.o (fun h=>h)).set_same (i:=0) _),H.o.it.keeps K6 vO⟩
 case hdone =>
  intro W h hd;have q:=h.full.cell (i:=0) (v:=.int .i64 ((c+n.refsL.length:Nat):Int)) vF;have q2:=h.res.cell (i:=0) (v:=.bool false) vF;have f2:W.frozen? ⟨w.heap.size+1,0,none⟩=false:=h.res.frozen;have c5:(2:Int)<=(c:Int)+(n.refsL.length:Int):=by have:=H2.o;omega
  have H:=Hd h;have HD:=Hd hd;clear h hd;gi_wp2;have B2:=(H.o.res.set_same (i:=0) (.bool true));have BD:=HD.o.set_other (p:=⟨w.heap.size+1,0,none⟩) (by show w1.heap.size≠w.heap.size+1;omega) (.bool true);have hX:Ext w ((W.setCell ⟨w.heap.size+1,0,none⟩ (.bool true)).putObj w1.heap.size (.deferred none)):=(H.o.ext.setCell (.inr (by show w.heap.size<=w.heap.size+1;omega)) _).putObj (.inr vO) _
  obtain⟨W3,b0⟩:=vE (W.setCell ⟨w.heap.size+1,0,none⟩ (.bool true))
  rw[<-b0]at B2 BD hX ⊢;have c2:(W3.putObj w1.heap.size (.deferred none)).cell? ⟨w.heap.size+1,0,none⟩=some (.bool true):=(B2.put_other vO _).cell (i:=0) (by simp)
  refine⟨by simp,.inl ⟨_,_,rfl,run_takeDeferred BD,?_⟩⟩
  exact⟨.bool true,by simp[results,Tryz.results121,go_sem,c2],rfl,hX⟩
 case hstop=>intro c k W _ _ h;exact h.elim
end
end
section
open Go Go.RowKit
theorem jqz{P:Program}{a:Act}{w:vW}{d:Option Tmp}{f:FuncId}{x:Operand}{lb:Array vV}{args:Array Operand}{ats:Array TypeId}{ty:TypeId}{pos:String}{af:Array Edge}{g:Option (Nat × Bool)}{vs:Array vV}(hx:a.eval x=.func (.func f) #[] lb)(eg:∀ args w,(callFunc f args).run P w=.ok (.enter f args) w)(hv:args.map a.eval=vs) :
  (execOp a.eval ⟨d,.call { callee:=.value x,args:=args,argTypes:=ats },ty,pos,af,g⟩).run P w=.ok (.enter f (vs++lb)) w:=by
 subst hv;simp[execOp,resolve,hx,Deferred.ofValue,invoke,cA,Result.andThen,cO,eg]
theorem jiA{P:Program}{a:Act}{w:vW}{d:Option Tmp}{f:FuncId}{x y:Operand}{ats:Array TypeId}{ty:TypeId}{pos:String}{af:Array Edge}{g:Option (Nat × Bool)}{v:vV}(hx:a.eval x=.func (.func f) #[] #[])(eg:∀ args w,(callFunc f args).run P w=.ok (.enter f args) w)(hv:a.eval y=v) :
  (execOp a.eval ⟨d,.call { callee:=.value x,args:=#[y],argTypes:=ats },ty,pos,af,g⟩).run P w=.ok (.enter f #[v]) w:=by
 have:=jqz (P:=P) (w:=w) (d:=d) (ats:=ats) (ty:=ty) (pos:=pos) (af:=af) (g:=g) (args:=#[y]) hx eg rfl
 simpa [hv]using this
theorem Tryz.allocTabV:∀ w,(Instr.alloc 202 true (.tuple #[])).run Tryz.prog w=.ok (.pointer (some ⟨w.heap.size,0,none⟩)) (w.alloc (.cells [Value.nilFunc,.nilFunc,.nilFunc,.nilFunc].toArray 202)):=fun w=>by kernel_rfl
theorem Tryz.szTabV:(Tryz.prog.info? 202).map (·.size)=some 4:=vY
theorem Tryz.allocTabT:∀ w,(Instr.alloc 219 true (.tuple #[])).run Tryz.prog w=.ok (.pointer (some ⟨w.heap.size,0,none⟩)) (w.alloc (.cells [Value.nilFunc,.nilFunc,.nilFunc,.nilFunc].toArray 219)):=fun w=>by kernel_rfl
theorem Tryz.szTabT:(Tryz.prog.info? 219).map (·.size)=some 4:=vY
theorem Tryz.uKind:Tryz.prog.underlying 100=some (.int .i64):=vY
theorem Tryz.aggV(w:vW):(isAgg 201).run Tryz.prog w=.ok false w:=vY
theorem Tryz.aggT(w:vW):(isAgg 218).run Tryz.prog w=.ok false w:=vY
theorem jaE{P:Program}{t:TypeId}(h:∀ w,(isAgg t).run P w=.ok false w){w:vW}{a:Addr}{v:vV}(hc:w.cell? a=some v):(Instr.loadAt t (.pointer (some a))).run P w=.ok v w:=by
 simp[Instr.loadAt,Instr.sureAddr,loadVar,cA,h w,Result.andThen,hc]
def fnV(f:FuncId):vV:=.func (.func f) #[] #[]
theorem jls(w:vW)(n:jad)(hr:n.refs.length=16)(hk:n.kind<=3)(f:FuncId)(hf:[fnV 118,fnV 119,fnV 120,fnV 121][n.kind]?=some (fnV f))
  (eg:∀ args w,(callFunc f args).run Tryz.prog w=.ok (.enter f args) w) (hc:∀ w,vR f #[n.V] w (.bool true)) :
  vR 88 #[n.V] w (.bool true):=by
 have e0:n.cells[0]?=some (.int .i64 (n.kind:Int)):=rfl;have c0:¬(n.kind:Int) < 0:=vO
 have c1:¬(3:Int) < (n.kind:Int):=vO
 have c2:(n.kind:Int) < 4:=vO
 have HF:=Hd hf;have HC:=Hd hc;have HR:=Hd hr;clear hf hc hr;unfold jad.V;unfold vR vQ;go_in;go_wp2_with (refine jaj Tryz.allocTabV rfl rfl ?_;intro W1 H A;refine jah (vs:=[fnV 118,fnV 119,fnV 120,fnV 121]) rfl rfl rfl rfl H rfl Tryz.szTabV (by simp[fnV,Value.oneCell']) ?_;intro Q J E;have q0:Q.cell? ⟨w.heap.size,0,none⟩=some (.int .i64 (n.kind:Int)):=(((Blk.new w (.cells n.cells.toArray 103)).keeps A (fun h=>h)).keeps E (by rw[bT];omega)).cellL e0)
 have qt:Q.cell? ⟨w.heap.size+1,n.kind,none⟩=some (fnV f):=by
  have:=J.cellL HF.o
  rwa [bT]at this
 have K:=((Blk.new w (.cells n.cells.toArray 103)).keeps A (fun h=>h)).keeps E (by rw[bT];omega);have QT:=Hd qt;have Q0:=Hd q0;have X:=Hd K;have HE:=Hd ((((ExtR w).alloc (.cells n.cells.toArray 103)).trans A).trans' E (fun x hx e=>by have e:x=(w.alloc (.cells n.cells.toArray 103)).heap.size:=e;rw[bT]at e;omega));clear H A J E q0 qt K;refine jag [0,1,2,3,4,5,6] Ext ExtR ExtT vY vY vY ?_
 refine vK ?_
 refine qKL ⟨w.heap.size,0,none⟩ _ rfl (fun Z O=>jab Tryz.uKind rfl (jaa (by exact Q0.o) O)) ?_;refine vS ?_
 refine vK ?_
 refine qKL ⟨w.heap.size+1,n.kind,none⟩ _ rfl (fun Z O=>jaE Tryz.aggV (jaa (by exact QT.o) O)) ?_;refine vS ?_;refine qKL ⟨w.heap.size,0,none⟩ _ rfl (fun Z O=>jaq Z _ n HR.o (X.o.keeps ((jai Q).trans O) (fun h=>h))) ?_;refine vS ?_;refine qKC _ f #[n.V] (.bool true) rfl (fun w1=>jiA rfl eg rfl) (fun w1 h1=>HC.o w1) ?_;refine vS ?_
 refine vK ?_
 refine qKE (fun w3 he=>?_);go_wp2_with fail
 go_ret
 exact⟨rfl,HE.o.trans ((jai Q).trans he)⟩
theorem jp1(w:vW)(n:jad)(hr:n.refs.length=16)(hk:n.kind<=3)(S:vB)(f:FuncId)(hf:[fnV 139,fnV 140,fnV 141,fnV 142][n.kind]?=some (fnV f))
  (eg:∀ args w,(callFunc f args).run Tryz.prog w=.ok (.enter f args) w) (hc:∀ w,vR f #[n.V] w (.string S)) :
  vR 114 #[n.V] w (.string S):=by
 have e0:n.cells[0]?=some (.int .i64 (n.kind:Int)):=rfl;have c2:(n.kind:Int) < 4:=vO
 have HF:=Hd hf;have HC:=Hd hc;have HR:=Hd hr;clear hf hc hr;unfold jad.V;unfold vR vQ;go_in;go_wp2_with (refine jaj Tryz.allocTabT rfl rfl ?_;intro W1 H A;refine jah (vs:=[fnV 139,fnV 140,fnV 141,fnV 142]) rfl rfl rfl rfl H rfl Tryz.szTabT (by simp[fnV,Value.oneCell']) ?_;intro Q J E)
 have q0:Q.cell? ⟨w.heap.size,0,none⟩=some (.int .i64 (n.kind:Int)):=(((Blk.new w (.cells n.cells.toArray 172)).keeps A (fun h=>h)).keeps E (by rw[bT];omega)).cellL e0;have qt:Q.cell? ⟨w.heap.size+1,n.kind,none⟩=some (fnV f):=by
  have:=J.cellL HF.o
  rwa [bT]at this
 have K:=((Blk.new w (.cells n.cells.toArray 172)).keeps A (fun h=>h)).keeps E (by rw[bT];omega);have QT:=Hd qt;have Q0:=Hd q0;have X:=Hd K;have HE:=Hd ((((ExtR w).alloc (.cells n.cells.toArray 172)).trans A).trans' E (fun x hx e=>by have e:x=(w.alloc (.cells n.cells.toArray 172)).heap.size:=e;rw[bT]at e;omega));clear H A J E q0 qt K;simp only[Act.put,gH,dL,dG,bT];refine jag [0,1,2,3,4,5,6] Ext ExtR ExtT vY vY vY ?_
 refine vK ?_
 refine qKL ⟨w.heap.size,0,none⟩ _ rfl (fun Z O=>jab Tryz.uKind rfl (jaa (by exact Q0.o) O)) ?_;refine vS ?_
 refine vK ?_
 refine qKL ⟨w.heap.size+1,n.kind,none⟩ _ rfl (fun Z O=>jaE Tryz.aggT (jaa (by exact QT.o) O)) ?_;refine vS ?_;refine qKL ⟨w.heap.size,0,none⟩ _ rfl (fun Z O=>jb3 Z _ n HR.o (X.o.keeps ((jai Q).trans O) (fun h=>h))) ?_;refine vS ?_;refine qKC _ f #[n.V] (.string S) rfl (fun w1=>jiA rfl eg rfl) (fun w1 h1=>HC.o w1) ?_;refine vS ?_
 refine vK ?_
 refine qKE (fun w3 he=>?_);go_wp2_with fail
 go_ret
 exact⟨rfl,HE.o.trans ((jai Q).trans he)⟩
structure jqc(n:jad):Prop where
 refs:n.refs.length=16
 kind:n.kind<=3
 path:n.path.size<=12
 value:n.value.size<=80
 valid:jaB n.path=true
 each:∀ r∈n.refs,r.size<=33
def jaQ(n:jad):vB:=if n.kind=0 then jao ⟨#[]⟩else if n.kind=1 then jmp n else if n.kind=2 then extB n else jec n
theorem jlQ(n:jad)(h:jqc n):∀ x∈jbP n,x.size<=89:=by
 have A:∀ (l:List (Nat × vB)) (m:vM),(∀ x∈l,x.2.size<=89)->(∀ x∈m,x.size<=89)->∀ x∈l.foldl (fun l x=>l.set x.1 x.2) m,x.size<=89:=by
  intro l;induction l with
  | nil=>intro m _ E;exact E
  | cons y r ih =>
   intro m o E;rw[dM];refine ih _ (fun x e=>o x (bD _ e)) (fun x e=>?_);rcases List.mem_or_eq_of_mem_set e with e | rfl
   ·exact E x e
   ·exact o y (bG ..)
 intro x e;unfold jbP at e;rcases List.mem_or_eq_of_mem_set e with e | rfl
 ·refine A _ _ (fun y H=>?_) (fun y H=>?_) x e
  ·have o:=(jft n.refs 0 y (gC H)).2.2.1
   have:=h.each y.2 (bI o)
   omega
  ·rw[gB H]
   have:=jaN ⟨#[]⟩
   have J:(⟨#[]⟩:vB).size=0:=rfl;omega
 ·have:=jaN n.value
  have:=h.value
  omega
theorem jrQ(c:Nat):∀ (l:vM),(∀ x∈l,x.size<=c)->(catB l).size<=c * l.length
 | [],_=>by rw[jcK];omega
 | x :: r,h=>by
  rw[ja4];have o:=h x (bG ..);have A:=jrQ c r (fun y e=>h y (bD _ e));rw[bF,Nat.mul_add];omega
theorem jdg(n:jad)(h:jqc n):(catB (jbP n)).size<=1513:=by
 have:=jrQ 89 _ (jlQ n h)
 have e:(jbP n).length=17:=by unfold jbP;rw[List.length_set,jie]
 rw[e]at this;omega
theorem jtg(w:vW)(n:jad)(h:jqc n):vR 114 #[n.V] w (.string (jaQ n)):=by
 have A:=h.kind;have K:=h.path;have O:=h.value
 by_cases k0:n.kind=0
 ·have e:jaQ n=jao ⟨#[]⟩:=by unfold jaQ;rw[if_pos k0]
  rw[e];exact jp1 w n h.refs A _ 139 (by rw[k0];rfl) (vX 139) (fun w=>jqQ w n)
 ·by_cases k1:n.kind=1
  ·have e:jaQ n=jmp n:=by unfold jaQ;rw[if_neg k0,if_pos k1]
   rw[e];exact jp1 w n h.refs A _ 140 (by rw[k1];rfl) (vX 140) (fun w=>jqJ w n vO vO h.valid)
  ·by_cases k2:n.kind=2
   ·have e:jaQ n=extB n:=by unfold jaQ;rw[if_neg k0,if_neg k1,if_pos k2]
    rw[e]
    obtain⟨r,E,o⟩:∃ r E,n.refs=r :: E:=by
     cases hx:n.refs with
     | nil=>have:=h.refs;rw[hx]at this;cases this
     | cons r E=>exact⟨r,E,rfl⟩
    have H:=h.each r (by rw[o];exact bG ..);exact jp1 w n h.refs A _ 141 (by rw[k2];rfl) (vX 141) (fun w=>jsf w n vO r (by rw[o];rfl) vO h.valid)
   ·have J:n.kind=3:=vO
    have e:jaQ n=jec n:=by unfold jaQ;rw[if_neg k0,if_neg k1,if_neg k2]
    rw[e];exact jp1 w n h.refs A _ 142 (by rw[J];rfl) (vX 142) (fun w=>jlR w n h.refs vO (by have:=jdg n h;omega))
theorem jxI(w:vW)(s:vB)(hs:s.size<=1000000)(leaf:Bool)(x:vB)(hx:jbv s=x)(h2:2<=x.size)(h0:x[0].toNat=if leaf then 3 else 1) :
  vR 166 #[.string s] w (.tuple #[.string (x.extract 1 x.size),.bool leaf,.bool true]):=by
 go_enter Tryz.func166,Tryz.ntmps166;go_wp2_with fail
 refine vH (jpC w s hs) fun w1 e=>?_;rw[hx];clear hx hs;have A:=jbe (s:=x) vO;have H:(0:Int) < (x.size:Int):=vO
 have J:(1:Int)<=(x.size:Int):=vO
 cases leaf with
 | true =>
  have E:(x[0].toNat:Int)=3:=by simp at h0;omega
  clear h0;go_wp2_with fail
  exact bodyPost_ret (v:=.tuple #[.string (x.extract 1 x.size),.bool true,.bool true]) vY rfl ⟨rfl,e.o⟩
 | false =>
  have E:(x[0].toNat:Int)=1:=by simp at h0;omega
  clear h0;go_wp2_with fail
  exact bodyPost_ret (v:=.tuple #[.string (x.extract 1 x.size),.bool false,.bool true]) vY rfl ⟨rfl,e.o⟩
theorem jvl(w:vW)(s:vB)(hs:s.size<=1000000)(leaf:Bool)(x:vB)(hx:jbv s=x)(h2:2<=x.size)(h0:x[0].toNat=if leaf then 2 else 0)(h1:x[1].toNat=0) :
  vR 166 #[.string s] w (.tuple #[.string (x.extract 2 x.size),.bool leaf,.bool true]):=by
 go_enter Tryz.func166,Tryz.ntmps166;go_wp2_with fail
 refine vH (jpC w s hs) fun w1 e=>?_;rw[hx];clear hx hs;have A:=jbe (s:=x) vO;have J:(0:Int) < (x.size:Int):=vO
 have K:(1:Int) < (x.size:Int):=vO
 have O:(2:Int)<=(x.size:Int):=vO
 have E:(x[1].toNat:Int)=0:=vO
 clear h1;cases leaf with
 | true =>
  have H:(x[0].toNat:Int)=2:=by simp at h0;omega
  clear h0;go_wp2_with fail
  exact bodyPost_ret (v:=.tuple #[.string (x.extract 2 x.size),.bool true,.bool true]) vY rfl ⟨rfl,e.o⟩
 | false =>
  have H:(x[0].toNat:Int)=0:=by simp at h0;omega
  clear h0;go_wp2_with fail
  exact bodyPost_ret (v:=.tuple #[.string (x.extract 2 x.size),.bool false,.bool true]) vY rfl ⟨rfl,e.o⟩
end
section
open Go Go.RowKit
def jan(k:Nat):vM:=List.replicate k ⟨#[]⟩
inductive jbS (I:vB->jad->Prop):jad->Prop
 | none:jbS I jaH
 | leaf (p v:vB):(⟨1,p,v,jan 16⟩:jad).pathOk 0=true->0 < v.size->v.size<=80->jbS I ⟨1,p,v,jan 16⟩
 | ext (p r:vB):(⟨2,p,⟨#[]⟩,r :: jan 15⟩:jad).pathOk 1=true->r.size≠0->(jfa r\/∃ m,I r m/\m.kind=3)->jbS I ⟨2,p,⟨#[]⟩,r :: jan 15⟩
 | branch (v:vB) (rs:vM):rs.length=16->v.size<=80->(∀ r∈rs,r.size≠0->MayP I r)->2<=min v.size 1+(jax 0 rs).length->jbS I ⟨3,⟨#[]⟩,v,rs⟩
theorem jbR{n:jad}{k:Nat}(h:n.pathOk k=true):k<=n.path.size/\n.path.size<=12/\jaB n.path=true:=by
 simp only[jad.pathOk,cY,decide_eq_true_eq]at h;exact⟨h.1.1,h.1.2,h.2⟩
theorem jdX:∀ (k i:Nat),jax i (jan k)=[]
 | 0,_=>rfl
 | k+1,i=>by
  unfold jan;rw[fI];unfold jax;rw[if_pos (show (⟨#[]⟩:vB).size=0 from rfl)];exact jdX k (i+1)
section
variable {I:vB->jad->Prop} (HI:InlP I)
include HI
theorem MayP.size{r:vB}(h:MayP I r):r.size<=33:=by
 rcases h with h |⟨m,h⟩
 ·rw[h.size];omega
 ·have:=HI.small r m h;omega
theorem jbS.one{n:jad}(h:jbS I n):jqc n:=by
 have A:(⟨#[]⟩:vB).size=0:=rfl;cases h with
 | none=>exact⟨rfl,by decide,by decide,by decide,rfl,fun r e=>by rw[gB e];decide⟩
 | leaf p v h1 h2 h3 =>
  obtain⟨a,b,c⟩:=jbR h1
  exact⟨by simp[jan],by simp,b,h3,c,fun r e=>by rw[gB e];decide⟩
 | ext p r h1 h2 h3 =>
  obtain⟨a,b,c⟩:=jbR h1
  refine⟨by simp[jan],by simp,b,by show (⟨#[]⟩:vB).size<=80;omega,c,fun x o=>?_⟩
  rcases bM.1 o with rfl | o
  ·exact MayP.size HI (h3.imp id (fun ⟨m,h,_⟩=>⟨m,h⟩))
  ·rw[gB o];decide
 | branch v rs h1 h2 h3 h4 =>
  refine⟨h1,by simp,by show (⟨#[]⟩:vB).size<=12;omega,h2,rfl,fun r e=>?_⟩
  by_cases h0:r.size=0
  ·omega
  ·exact MayP.size HI (h3 r e h0)
theorem jlr(w:vW)(n:jad)(h:jbS I n):vR 88 #[n.V] w (.bool true):=by
 have o:=h.one HI;cases h with
 | none=>exact jls w jaH o.refs o.kind 118 rfl (vX 118) (fun w=>jz6 w)
 | leaf p v h2 h3 h4=>exact jls w _ o.refs o.kind 119 rfl (vX 119) (fun w=>jz2 w _ o.refs h2 h3 h4 (by unfold jad.behindN jad.refsL;rw[jdX];rfl))
 | ext p r h2 h3 h4=>exact jls w _ o.refs o.kind 120 rfl (vX 120) (fun w=>jBp HI w _ r o.refs h2 rfl (by
   have e:jax 0 (r :: jan 15)=[(0,r)]:=by unfold jax;rw[if_neg h3,jdX]
   unfold jad.behindN;have A:jad.refsL ⟨2,p,⟨#[]⟩,r :: jan 15⟩=[(0,r)]:=e;rw[A];show jad.ri _ 0+1=1;unfold jad.ri;rw[A];rfl) rfl h4)
 | branch v rs h2 h3 h4 h5=>exact jls w _ o.refs o.kind 121 rfl (vX 121) (fun w=>juO HI w _ o.refs rfl h3 h4 h5)
theorem jj2(w:vW)(n:jad)(h:jbS I n):vR 78 #[n.V] w (.tuple #[.string (jaQ n),.int .i64 0]):=by
 have J:=h.one HI;have A:=jaq (w.alloc (.cells n.cells.toArray 103)) _ n J.refs (Blk.new w _);have H:=Hd h;have Q:=Hd J;clear h J;unfold jad.V at A ⊢;unfold vR vQ;go_in;go_wp2_with (refine jaf 103 (.tmp 1) rfl rfl _ _ rfl A ?_)
 refine vC (jlr HI _ n H.o) fun w1 E=>?_;have X:=(Blk.new w (.cells n.cells.toArray 103)).keeps E (fun h=>h);have e:=jaq w1 _ n Q.o.refs X;have K:=Hd (((ExtR w).alloc _).trans E);unfold jad.V at e;clear A E X;go_wp2_with (refine jaf 103 (.tmp 1) rfl rfl _ _ rfl e ?_)
 refine vH (jtg w1 n Q.o) fun Z E=>?_;have O:=Hd (K.o.trans E);clear e;go_wp2_with fail
 go_ret2
 exact⟨rfl,O.o⟩
end
theorem jj5:∀ (l:vN),l.length % 2=0->(∀ b∈l,b<=15)->jcw (jcC l)=l
 | [],_,_=>rfl
 | [x],h,_=>by simp at h
 | x :: y :: r,h,hb=>by
  have E:=hb x (bG ..);have H:=hb y (bD _ (bG ..));have A:=jj5 r (by simp at h;omega) (fun b e=>hb b (bD _ (bD _ e)));show jcw ((x <<< 4 ||| y) :: jcC r)=_;unfold jcw at A ⊢;rw[cG,A];have J:x.toNat<=15:=fB.1 E;have K:y.toNat<=15:=fB.1 H
  have:∀ a b:Fin 16,((UInt8.ofNat a.1 <<< 4 ||| UInt8.ofNat b.1) >>> 4=UInt8.ofNat a.1)/\((UInt8.ofNat a.1 <<< 4 ||| UInt8.ofNat b.1) &&& 15=UInt8.ofNat b.1):=by decide
  have o:=this ⟨x.toNat,by omega⟩ ⟨y.toNat,by omega⟩;simp only[iQ]at o;rw[o.1,o.2];rfl
theorem jgK(p:vB)(leaf:Bool)(hv:jaB p=true):jbv (putB p leaf)=⟨(jci p leaf++p.data.toList).toArray⟩:=by
 unfold jbv putB jbu;rw[jj5]
 ·show (jci p leaf++p.data.toList).length % 2=0
  rw[bC,show p.data.toList.length=p.size from rfl];unfold jci oddB
  by_cases h:p.size % 2=1
  ·simp[h];omega
  ·have:(p.size % 2 == 1)=false:=by simpa using h
   rw[this];simp;omega
 ·intro b hb
  have hb:b∈jci p leaf++p.data.toList:=hb;rcases bU.1 hb with hb | hb
  ·unfold jci jed oddB at hb
   rcases bM.1 hb with rfl | hb
   ·cases leaf <;> cases (p.size % 2 == 1) <;> decide
   ·split at hb
    ·cases hb
    ·rw[bY.1 hb];decide
  ·exact of_decide_eq_true (fH.1 hv b hb)
theorem jpa(w:vW)(p:vB)(leaf:Bool)(hs:p.size<=900000)(hv:jaB p=true):vR 166 #[.string (putB p leaf)] w (.tuple #[.string p,.bool leaf,.bool true]):=by
 have o:=jgK p leaf hv;have H:=jbn p leaf;have J:∀ a:vU,(⟨(a :: p.data.toList).toArray⟩:vB).extract 1 (⟨(a :: p.data.toList).toArray⟩:vB).size=p:=fun a=>by
  have:=jiB ⟨#[a]⟩ p
  have A:(⟨#[a]⟩:vB)++p=⟨(a :: p.data.toList).toArray⟩:=by rw[juC (_++p),cZ,fX];rfl
  rw[A]at this;exact this
 have K:∀ a b:vU,(⟨(a :: b :: p.data.toList).toArray⟩:vB).extract 2 (⟨(a :: b :: p.data.toList).toArray⟩:vB).size=p:=fun a b=>by
  have:=jiB ⟨#[a,b]⟩ p
  have A:(⟨#[a,b]⟩:vB)++p=⟨(a :: b :: p.data.toList).toArray⟩:=by rw[juC (_++p),cZ,fX];rfl
  rw[A]at this;exact this
 by_cases ho:p.size % 2=1
 ·have e:oddB p=true:=by unfold oddB;simpa using ho
  have E:jci p leaf=[jed leaf true]:=by unfold jci;rw[e];rfl
  rw[E]at o
  have:=jxI w (putB p leaf) vO leaf ⟨(jed leaf true :: p.data.toList).toArray⟩ o (by show 2<=p.data.toList.length+1;have:p.data.toList.length=p.size:=rfl;omega) (by cases leaf <;> rfl)
  rw[J]at this;exact this
 ·have e:oddB p=false:=by unfold oddB;simpa using ho
  have E:jci p leaf=[jed leaf false,0]:=by unfold jci;rw[e];rfl
  rw[E]at o
  have:=jvl w (putB p leaf) vO leaf ⟨(jed leaf false :: 0 :: p.data.toList).toArray⟩ o (by show 2<=p.data.toList.length+2;omega) (by cases leaf <;> rfl) rfl
  rw[K]at this;exact this
end
section
open Go Go.RowKit
theorem jaF{P:Program}{fn:Func}{t u:Tmp}{ty:TypeId}(h:fn.results=#[.cell t ty,.tmp u]){tmps:Array vV}{a:Addr}(ha:tmps.getD t undef=.pointer (some a)){w:vW}{v x:vV}(hx:tmps.getD u undef=x)(hl:(loadVar ty a).run P w=.ok v w) :
  (results fn tmps).run P w=.ok (.tuple #[v,x]) w:=by
 have e:tmps[t]?.getD undef=.pointer (some a):=by simpa using ha
 have o:tmps[u]?.getD undef=x:=by simpa using hx
 simp[results,h,e,o,asAddr,cA,Result.andThen,hl]
theorem jaw(W:vW)(b:Nat)(n:jad)(hr:n.refs.length=16)(hB:Blk W b (.cells n.cells.toArray 103)):(loadVar 103 ⟨b,0,none⟩).run Tryz.prog W=.ok n.V W:=by
 have:=jaq W b n hr hB
 simpa [Instr.loadAt,Instr.sureAddr,cA,Result.andThen]using this
def jcf(k:Int)(p v:vB)(r:vB):List vV:=[.int .i64 k,.string p,.string v,.string r,.string ⟨#[]⟩,.string ⟨#[]⟩,.string ⟨#[]⟩,.string ⟨#[]⟩,.string ⟨#[]⟩,.string ⟨#[]⟩,.string ⟨#[]⟩,.string ⟨#[]⟩,.string ⟨#[]⟩,.string ⟨#[]⟩,.string ⟨#[]⟩,.string ⟨#[]⟩,.string ⟨#[]⟩,.string ⟨#[]⟩,.string ⟨#[]⟩]
theorem jcg(k:Int)(p v r:vB):∀ x∈jcf k p v r,x.oneCell'=true:=by simp[jcf,Value.oneCell']
theorem jqW(w:vW)(p v:vB)(hp:p.size<=900000)(hv:v.size<=100000)(hok:jaB p=true):vR 145 #[.string (jao (putB p true)),.string (jao v)] w (.tuple #[(⟨1,p,v,jan 16⟩:jad).V,.bool true]):=by
 obtain⟨q,h1,h2⟩:=jey (putB p true) (by have:=jbn p true;omega)
 obtain⟨q',h3,h4⟩:=jey v vO
 have z1:(jao (putB p true)).size<=1000000000:=by have:=jbn p true;have:=jaN (putB p true);omega
 have z2:(jao v).size<=1000000000:=by have:=jaN v;omega
 have H1:=Hd h1;have H2:=Hd h2;have H3:=Hd h3;have H4:=Hd h4;clear h1 h2 h3 h4;unfold vR vQ;go_in;go_wp2_with (refine jaj Tryz.allocNode rfl rfl ?_;intro W1 E H)
 refine vC (jiW _ _ q z1 H1.o) fun w2 A=>?_;rw[H2.o];have J:=E.keeps A (fun h=>h);have K:=Hd (H.trans A);have O:=Hd J;clear E H A J;unfold optV;simp only;go_wp2_with fail
 refine vC (jpa _ p true hp hok) fun w3 A=>?_;have Q:=Hd (K.o.trans A);have X:=Hd (O.o.keeps A (fun h=>h));clear A K O;go_wp2_with fail
 refine vC (jiW _ _ q' z2 H3.o) fun w4 A=>?_;rw[H4.o];have Z:=Hd (Q.o.trans A);have a0:=X.o.keeps A (fun h=>h);clear A Q X;unfold optV;simp only;go_wp2_with (refine jah (vs:=jcf 1 p v ⟨#[]⟩) rfl rfl rfl rfl a0 rfl Tryz.szNode (jcg _ _ _ _) ?_;intro W5 a1 a2)
 refine bodyPost_ret (jaF rfl rfl rfl (jaw W5 _ ⟨1,p,v,jan 16⟩ rfl a1)) rfl ?_
 exact⟨rfl,Z.o.trans' a2 (fun x hx e=>by have e:x=w.heap.size:=e;omega)⟩
theorem jtC(w:vW)(p r:vB)(hp:p.size<=900000)(hok:jaB p=true):vR 145 #[.string (jao (putB p false)),.string r] w (.tuple #[(⟨2,p,⟨#[]⟩,r :: jan 15⟩:jad).V,.bool true]):=by
 obtain⟨q,h1,h2⟩:=jey (putB p false) (by have:=jbn p false;omega)
 have z1:(jao (putB p false)).size<=1000000000:=by have:=jbn p false;have:=jaN (putB p false);omega
 have H1:=Hd h1;have H2:=Hd h2;clear h1 h2;unfold vR vQ;go_in;go_wp2_with (refine jaj Tryz.allocNode rfl rfl ?_;intro W1 K O)
 refine vC (jiW _ _ q z1 H1.o) fun w2 A=>?_;rw[H2.o];have Q:=K.keeps A (fun h=>h);have X:=Hd (O.trans A);have Z:=Hd Q;clear K O A Q;unfold optV;simp only;go_wp2_with fail
 refine vC (jpa _ p false hp hok) fun E A=>?_;have a2:=Hd (X.o.trans A);have H:=Hd (Z.o.keeps A (fun h=>h));clear A X Z;go_wp2_with (first |(refine jaj Tryz.allocNode rfl rfl ?_;intro W5 a3 a0;refine jah (vs:=jcf 2 p ⟨#[]⟩ ⟨#[]⟩) rfl rfl rfl rfl a3 rfl Tryz.szNode (jcg _ _ _ _) ?_;intro W6 J a1;have q3:W6.cell? ⟨E.heap.size,3,none⟩=some (.string ⟨#[]⟩):=J.cell (i:=3) vF;have f3:W6.frozen? ⟨E.heap.size,3,none⟩=false:=J.frozen;have a4:=Hd (J.set_same (i:=3) (.string r))) |(refine jaf 103 (.tmp 10) rfl rfl _ _ rfl (jaq _ _ ⟨2,p,⟨#[]⟩,r :: jan 15⟩ rfl a4.o) ?_;refine jah (vs:=jad.cells ⟨2,p,⟨#[]⟩,r :: jan 15⟩) rfl rfl rfl rfl (((H.o.keeps a0 (fun h=>h)).keeps a1 (by have:=H.o.lt;omega)).set_other (p:=⟨E.heap.size,3,none⟩) (by have:=H.o.lt;show w.heap.size≠E.heap.size;omega) (.string r)) rfl Tryz.szNode (jad.one _) ?_;intro W8 a5 a6))
 refine bodyPost_ret (jaF rfl rfl rfl (jaw W8 _ ⟨2,p,⟨#[]⟩,r :: jan 15⟩ rfl a5)) rfl ?_;have k1:Ext E (W6.setCell ⟨E.heap.size,3,none⟩ (.string r)):=(a0.trans' a1 (fun x hx e=>by have e:x=E.heap.size:=e;omega)).setCell (.inr (bL _)) _
 exact⟨rfl,(a2.o.trans k1).trans' a6 (fun x hx e=>by have e:x=w.heap.size:=e;omega)⟩
def ja3(rs:vM)(v:vB):vM:=rs.map (fun r=>if r.size=0 then jao ⟨#[]⟩else r)++[jao v]
def brN(rs:vM)(k:Nat):jad:=⟨3,⟨#[]⟩,⟨#[]⟩,rs.take k++jan (16 - k)⟩
theorem jrJ{rs:vM}(h:rs.length=16){k:Nat}(hk:k<=16):(brN rs k).refs.length=16:=by simp[brN,jan,h];omega
theorem jrK{rs:vM}(h:rs.length=16){k:Nat}(hk:k < 16)(r:vB)(hr:rs[k]?=some r):(brN rs k).cells.set (3+k) (.string r)=(brN rs (k+1)).cells:=by
 have e:(rs.take k++jan (16 - k)).set k r=rs.take (k+1)++jan (16 - (k+1)):=by
  rw[fK _ _ (by simp[h];omega)]
  have:k - (rs.take k).length=0:=by simp[h];omega
  rw[this,show 16 - k=(16 - (k+1))+1 by omega];unfold jan;rw[fI,dL,bW,hr];simp
 unfold jad.cells brN;simp only;rw[show 3+k=k+1+1+1 by omega,dG,dG,dG, <-e,iB]
theorem juN{rs:vM}(h:rs.length=16){k:Nat}(hk:k < 16)(r:vB)(hr:rs[k]?=some r)(h0:r.size=0):brN rs (k+1)=brN rs k:=by
 have e:r=⟨#[]⟩:=by
  obtain⟨⟨l⟩⟩:=r
  cases l with
  | nil=>rfl
  | cons x y=>exact absurd h0 (iI _)
 unfold brN;rw[bW,hr,e,show 16 - k=(16 - (k+1))+1 by omega];unfold jan;rw[fI];simp
def jyT(w:vW)(g2 g4:Nat)(rs:vM)(i:vV)(wr:vW):Prop:=∃ k:Nat,k<=16/\i=.int .i64 k/\Ext w wr/\Blk wr g2 (.cells jaH.cells.toArray 103)/\Blk wr g4 (.cells (brN rs k).cells.toArray 103)
theorem jmV(w:vW)(a:vV)(rs:vM)(v:vB)(hr:rs.length=16)(hv:v.size<=100000)(hne:∀ r∈rs,r.size≠0->r≠jao ⟨#[]⟩)(ha:RdS w a (ja3 rs v)):vR 146 #[a] w (.tuple #[(⟨3,⟨#[]⟩,v,rs⟩:jad).V,.bool true]):=by
 have Q:(ja3 rs v).length=17:=by simp[ja3,hr]
 rcases ha with⟨_,_,_,h0⟩ |⟨b,o,c,rfl,hb,hc,hcell⟩
 ·rw[h0]at Q;cases Q
 rw[Q]at hc ⊢;have b5:∀ (k:Nat) r,rs[k]?=some r->w.cell? ⟨b,o+k,none⟩=some (.string (if r.size=0 then jao ⟨#[]⟩else r)):=fun k r hk=>hcell k _ (by
  unfold ja3;rw[cS (by rw[cC];exact (bP.1 hk).1),bX,hk];rfl)
 have b6:w.cell? ⟨b,o+16,none⟩=some (.string (jao v)):=hcell 16 _ (by
  unfold ja3;rw[cQ (by rw[cC];omega),cC,hr];rfl)
 obtain⟨q,h1,h2⟩:=jey v vO
 have z1:(jao v).size<=1000000000:=by have:=jaN v;omega
 have c4:=Hd b5;have c5:=Hd b6;have H1:=Hd h1;have H2:=Hd h2;have X:=Hd hr;have c6:=Hd hne;clear b5 b6 h1 h2 Q hcell hr hne;unfold vR vQ;go_in;go_wp2_with (first |(refine jaj Tryz.allocNode rfl rfl ?_;intro W3 b7 a2;refine jah (vs:=jcf 3 ⟨#[]⟩ ⟨#[]⟩ ⟨#[]⟩) rfl rfl rfl rfl b7 rfl Tryz.szNode (jcg _ _ _ _) ?_;intro W4 E a3) |(refine jaj Tryz.allocNode rfl rfl ?_;intro W1 Z a4))
 have h4:Ext w W4:=(a4.trans a2).trans' a3 (fun x hx e=>by have e:x=W1.heap.size:=e;have:=a4.size;omega);have h5:=(Z.keeps a2 (fun h=>h)).keeps a3 (by have:=Z.lt;omega)
 obtain⟨H,b8⟩:∃ g,g=W1.heap.size:=⟨_,rfl⟩
 obtain⟨g2,b9⟩:∃ g,g=w.heap.size:=⟨_,rfl⟩
 have d0:g2 < H:=by have:=Z.lt;omega
 have n2:w.heap.size<=g2:=vO
 rw[<-b8]at E ⊢;rw[<-b9]at h5 ⊢;have a5:=Hd h4;have J:=Hd E;have H5:=Hd h5;clear b8 b9 h4 h5 E a4 Z b7 a2 a3;go_loopw [9] (fun i wr=>jyT w g2 H rs i wr) (fun i _=>16 - (intOf i).toNat)
 case atStart=>exact⟨0,by omega,rfl,a5.o,H5.o,J.o⟩
 case round =>
  obtain⟨k,hk,rfl,hE,c0,E⟩:=hrel
  have HE:=Hd hE;have a6:=Hd c0;have J:=Hd E;clear hE c0 E
  by_cases hlt:k < 16
  ·obtain⟨r,a0⟩:∃ r,rs[k]?=some r:=⟨_,bA (by have:=X.o;omega)⟩
   have K:=jaa (c4.o k r a0) HE.o;have b1:(k:Int) < 17:=vO
   have b3:r∈rs:=bI a0
   obtain⟨em,a7⟩:=vE (jao ⟨#[]⟩)
   rw[<-a7]at K;have a8:=Hd a7;have c1:=Hd a0;clear a7 a0
   by_cases h0:r.size=0
   ·rw[if_pos h0]at K
    have QX:=Hd K;clear K;go_wp2_with fail
    refine jag [0,1,2,3,4,5] Ext ExtR ExtT vY vY vY ?_;iterate 3 refine vK ?_
    refine qKL ⟨b,o+k,none⟩ _ rfl (fun w2 h2=>jab Tryz.uStr rfl (jaa (by exact QX.o) h2)) ?_;refine vS ?_;refine qKC _ 50 #[.string ⟨#[]⟩] (.string em) rfl (fun w1=>jat (vX 50) vY) (fun w1 h1=>by rw[a8.o];exact jea w1 ⟨#[]⟩ vI) ?_;refine vS ?_
    refine vK ?_
    refine qKE (fun w3 he=>?_);have O:=(jai wr).trans he;have a9:=Hd (HE.o.trans O);have b0:=Hd (a6.o.keeps O (fun h=>h));have A:=Hd (J.o.keeps O (fun h=>h));clear he O;go_wp2_with fail
    go_roundw
    case rel=>exact⟨k+1,by omega,by go_num,a9.o,b0.o,by rw[juN X.o hlt r c1.o h0];exact A.o⟩
    case measure=>exact vJ
   ·rw[if_neg h0]at K
    have hq:(r.toList == em.toList)=false:=by
     rw[beq_eq_false_iff_ne,bR,bR];intro e;exact c6.o r b3 h0 (by rw[<-a8.o];exact ByteArray.ext (Array.ext' e))
    have QX:=Hd K;clear K;go_wp2_with fail
    refine jag [0,1,2,3,4,5] Ext ExtR ExtT vY vY vY ?_;iterate 3 refine vK ?_
    refine qKL ⟨b,o+k,none⟩ _ rfl (fun w2 h2=>jab Tryz.uStr rfl (jaa (by exact QX.o) h2)) ?_;refine vS ?_;refine qKC _ 50 #[.string ⟨#[]⟩] (.string em) rfl (fun w1=>jat (vX 50) vY) (fun w1 h1=>by rw[a8.o];exact jea w1 ⟨#[]⟩ vI) ?_;refine vS ?_
    refine vK ?_
    refine qKE (fun w3 he=>?_);have O:=(jai wr).trans he;have a9:=Hd (HE.o.trans O);have b0:=Hd (a6.o.keeps O (fun h=>h));have A:=Hd (J.o.keeps O (fun h=>h));have K:=jaa QX.o O
    obtain⟨old,q4⟩:∃ v,w3.cell? ⟨H,3+k,none⟩=some v:=⟨_,A.o.cellL (bA (by rw[jad.cells_len _ (jrJ X.o hk)];omega))⟩
    have f4:w3.frozen? ⟨H,3+k,none⟩=false:=A.o.frozen;have b2:(k:Int) < 16:=vO
    clear he O;go_wp2_with fail
    go_roundw
    case rel =>
     refine⟨k+1,by omega,by go_num,a9.o.setCell (.inr (by show w.heap.size<=H;omega)) _,b0.o.set_other (p:=⟨H,3+k,none⟩) (by show g2≠H;omega) _,?_⟩
     have:=A.o.set_same (i:=3+k) (.string r)
     rw[show (brN rs k).cells.toArray.setIfInBounds (3+k) (.string r)=((brN rs k).cells.set (3+k) (.string r)).toArray by simp,jrK X.o hlt r c1.o]at this;exact this
    case measure=>exact vJ
  ·have b4:k=16:=vO
   subst b4;have K:=jaa c5.o HE.o;go_wp2_with fail
   refine vC (jiW _ _ q z1 H1.o) fun w4 hE=>?_;rw[H2.o];have a1:=J.o.keeps hE (fun h=>h);have q4:w4.cell? ⟨H,2,none⟩=some (.string ⟨#[]⟩):=a1.cellL vF;have f4:w4.frozen? ⟨H,2,none⟩=false:=a1.frozen;have A:=Hd (a1.set_same (i:=2) (.string v));have c2:=(a6.o.keeps hE (fun h=>h)).set_other (p:=⟨H,2,none⟩) (by show g2≠H;omega) (.string v);have c7:=Hd c2;have a5:=Hd (HE.o.trans hE);have c3:brN rs 16=⟨3,⟨#[]⟩,⟨#[]⟩,rs⟩:=by unfold brN jan;rw[bN (by have:=X.o;omega)];simp
   rw[c3]at A;have ec:(jad.cells ⟨3,⟨#[]⟩,⟨#[]⟩,rs⟩).toArray.setIfInBounds 2 (.string v)=(jad.cells ⟨3,⟨#[]⟩,v,rs⟩).toArray:=by simp[jad.cells]
   rw[ec]at A;clear hE a1 c2 K ec c3;unfold optV;simp only;go_wp2_with (first |(refine jaf 103 (.tmp 4) rfl rfl _ _ rfl (jaq _ _ ⟨3,⟨#[]⟩,v,rs⟩ X.o A.o) ?_) |(refine jah (vs:=jad.cells ⟨3,⟨#[]⟩,v,rs⟩) rfl rfl rfl rfl c7.o (by rw[jad.cells_len ⟨3,⟨#[]⟩,v,rs⟩ X.o];rfl) (by rw[jad.cells_len ⟨3,⟨#[]⟩,v,rs⟩ X.o];exact Tryz.szNode) (jad.one _) ?_;intro W8 c8 c9))
   refine bodyPost_ret (jaF rfl rfl rfl (jaw W8 _ ⟨3,⟨#[]⟩,v,rs⟩ X.o c8)) rfl ?_
   exact⟨rfl,(a5.o.setCell (.inr (by show w.heap.size<=H;omega)) _).trans' c9 (fun x hx e=>by have e:x=g2:=e;omega)⟩
theorem jeP(xs:vM)(hn:(catB xs).size<=1048576):ja7 xs≠jao ⟨#[]⟩:=by
 intro e
 obtain⟨o,A,_⟩:=jfe xs hn
 obtain⟨H,E,_⟩:=jl1 ⟨#[]⟩ vI
 rw[e,E]at A;cases A
theorem jnh{a b:vB}(h:a≠b):(a.toList == b.toList)=false:=by
 rw[beq_eq_false_iff_ne,bR,bR];exact fun e=>h (ByteArray.ext (Array.ext' e))
theorem jiD(s:vB):s.extract s.size s.size=⟨#[]⟩:=by
 apply ByteArray.ext;apply Array.ext';simp
theorem jcS(xs:vM):(ja7 xs).size<=(catB xs).size+9:=by
 unfold ja7;rw[bV];have:=jer 192 (catB xs).size;omega
theorem jqY(w:vW):vR 115 #[.string (jao ⟨#[]⟩)] w (.tuple #[jaH.V,.bool true]):=by
 obtain⟨em,A⟩:=vE (jao ⟨#[]⟩)
 rw[<-A];have J:=Hd A;clear A;unfold vR vQ;go_in;go_wp2_with (refine jaj Tryz.allocNode rfl rfl ?_;intro W1 E H)
 refine vC (jea _ ⟨#[]⟩ vI) fun w2 K=>?_;rw[<-J.o];have O:=E.keeps K (fun h=>h);have Q:=Hd (H.trans K);clear E H K;go_wp2_with (refine jah (vs:=jaH.cells) rfl rfl rfl rfl O rfl Tryz.szNode (jad.one _) ?_;intro W8 X Z)
 refine bodyPost_ret (jaF rfl rfl rfl (jaw W8 _ jaH rfl X)) rfl ?_
 exact⟨rfl,Q.o.trans' Z (fun x hx e=>by have e:x=w.heap.size:=e;omega)⟩
theorem jjk{P:Program}{o:Oper}{a:Act}{w:vW}{K:Act->vW->Prop}{Q:Exit->Act->vW->Prop}{T T2:TypeId}{x y:Operand}{b:Nat}{old vs:List vV}(ho:o.op=.store T x y)(hx:a.eval x=.pointer (some ⟨b,0,none⟩))(hy:a.eval y=.agg vs.toArray)
  (hB:Blk w b (.cells old.toArray T2)) (hl:old.length=vs.length) (hi:(P.info? T).map (·.size)=some vs.length) (h1:∀ v∈vs,v.oneCell'=true)
  (h:∀ W,Blk W b (.cells vs.toArray T2)->jae (fun z=>z=b) w W->K (a.put o.dst undef) W):o.wp P a w K Q:=by
 refine wp_store_mid T x y ho b 0 vs.toArray hx hy (by have:=jlm hB;rw[hl]at this;simpa using this) (by simpa using hi) (all_oneCell_toArray h1) (h _ ?_ (jae.oneSetCells b vs 0 w))
 have:=Blk.setCells vs 0 w old hB vO
 rw[gG vO]at this;simpa using this
theorem jmW(w:vW)(x y:vB)(n:jad)(hr:n.refs.length=16)(hx:jgk x)(hy:jgk y)(hs:x.size+y.size<=1048576)
  (hc:∀ w,vR 145 #[.string x,.string y] w (.tuple #[n.V,.bool true])) :
  vR 115 #[.string (ja7 [x,y])] w (.tuple #[n.V,.bool true]):=by
 have E:(catB [x,y]).size=x.size+y.size:=by rw[ja4,ja4,jcK];omega
 obtain⟨o,A,h2,h3⟩:=jfe [x,y] vO
 have H:=jcS [x,y]
 obtain⟨em,J⟩:=vE (jao ⟨#[]⟩)
 have Z:=jnh (jeP [x,y] vO)
 obtain⟨s,a0⟩:=vE (ja7 [x,y])
 obtain⟨c,O⟩:=vE (catB [x,y])
 rw[<-a0]at A h2 h3 H Z ⊢;rw[<-O]at A h2 h3 H E;rw[<-J]at Z;have HS:=Hd (show s.size<=1000000000 by omega);have H1:=Hd A;have H3:=Hd h3;have b4:=Hd J;have a1:=Hd O;have b5:=Hd E;have H2:=Hd h2;have HR:=Hd hr;have HC:=Hd hc;clear A h2 h3 H a0 O J E hr hc;unfold vR vQ;go_in;go_wp2_with (refine jaj Tryz.allocNode rfl rfl ?_;intro W1 a2 a3)
 refine vC (jea _ ⟨#[]⟩ vI) fun w2 Q=>?_;rw[<-b4.o];have a4:=Hd (a2.keeps Q (fun h=>h));have a5:=Hd (a3.trans Q);clear a2 a3 Q;go_wp2_with fail
 refine vC (jot _ s _ HS.o H1.o) fun w3 Q=>?_;simp only;rw[H3.o,H2.o,jiD];have a6:=Hd (a4.o.keeps Q (fun h=>h));have a7:=Hd (a5.o.trans Q);clear Q a5 a4;go_wp2_with fail
 rw[a1.o];refine (jsA w3 [x,y] (by intro z hz;rcases bM.1 hz with rfl | hz;exact hx;rw[bY.1 hz];exact hy) (by rw[<-a1.o,b5.o];omega) (show 2<=1000000 by decide)).mono ?_;rintro e w4 ⟨v,rfl,hv⟩;have a8:=Hd (a6.o.keeps hv.ext (fun h=>h));have a9:=Hd (a7.o.trans hv.ext);rcases hv.rd with⟨_,_,_,h0⟩ |⟨b,o2,c2,rfl,hb,hc,hcell⟩
 ·cases h0
 have QX:=Hd (hcell 0 x rfl);have QY:=Hd (hcell 1 y rfl);clear hv hcell a7 a6;go_wp2_with fail
 refine jay [0,1,2,3,4,5,6,7,8,9,10] [9] Ext ExtR ExtT vY vY vY ?_;iterate 2 refine vP ?_
 refine qL ⟨b,o2,none⟩ _ rfl (fun w1 A=>jab Tryz.uStr rfl (jaa (by exact QX.o) A)) ?_;refine vS ?_;iterate 2 refine vP ?_
 refine qL ⟨b,o2+1,none⟩ _ rfl (fun w1 A=>jab Tryz.uStr rfl (jaa (by exact QY.o) A)) ?_;refine vS ?_;refine jdb _ 145 #[.string x,.string y] (.tuple #[n.V,.bool true]) rfl vY rfl (fun w1=>jat (vX 145) vY) (fun w1 A=>HC.o w1) ?_;refine vS ?_;iterate 2 refine vP ?_
 refine qH _ rfl (fun w5 X K hK=>?_);have hX:=(jai w4).trans X;refine jjk (vs:=n.cells) rfl rfl rfl (a8.o.keeps hX (fun h=>h)) (by rw[n.cells_len HR.o];rfl) (by rw[n.cells_len HR.o];exact Tryz.szNode) n.one ?_;intro W6 b0 b1;have b2:=Hd b0;have b3:=Hd ((a9.o.trans hX).trans' b1 (fun x hx e=>by have e:x=w.heap.size:=e;omega));clear X hX b0 b1 QX QY a8 a9;refine vS ?_;refine hK _ _ ?_;clear hK K
 refine vP ?_
 refine qE (fun w7 X=>?_);have b6:=Hd (b2.o.keeps X (fun h=>h));have b7:=Hd (b3.o.trans X);clear X b2 b3;go_wp2_with fail
 refine bodyPost_ret (jaF rfl rfl rfl (jaw w7 _ n HR.o b6.o)) rfl ?_
 exact⟨rfl,b7.o⟩
theorem jqX(w:vW)(xs:vM)(n:jad)(hr:n.refs.length=16)(hl:xs.length=17)(hx:∀ x∈xs,jgk x)(hs:(catB xs).size<=1048576)
  (hc:∀ w v,RdS w v xs->vR 146 #[v] w (.tuple #[n.V,.bool true])) :
  vR 115 #[.string (ja7 xs)] w (.tuple #[n.V,.bool true]):=by
 obtain⟨o,h1,h2,h3⟩:=jfe xs hs
 have H:=jcS xs
 obtain⟨em,J⟩:=vE (jao ⟨#[]⟩)
 have Q:=jnh (jeP xs hs)
 obtain⟨s,X⟩:=vE (ja7 xs)
 obtain⟨c,K⟩:=vE (catB xs)
 rw[<-X]at h1 h2 h3 H Q ⊢;rw[<-K]at h1 h2 h3 H hs;rw[<-J]at Q;have HS:=Hd (show s.size<=1000000000 by omega);have H1:=Hd h1;have H3:=Hd h3;have a8:=Hd J;have Z:=Hd K;have a9:=Hd hs;have HL:=Hd hl;have H2:=Hd h2;have HR:=Hd hr;have HC:=Hd hc;clear h1 h2 h3 H X K J hs hr hc hl;go_enter Tryz.func115,Tryz.ntmps115;go_wp2_with (refine jaj Tryz.allocNode rfl rfl ?_;intro W1 a0 a1)
 refine vC (jea _ ⟨#[]⟩ vI) fun w2 A=>?_;rw[<-a8.o];have a2:=Hd (a0.keeps A (fun h=>h));have a3:=Hd (a1.trans A);clear a0 a1 A;go_wp2_with fail
 refine vC (jot _ s _ HS.o H1.o) fun w3 A=>?_;simp only;rw[H3.o,H2.o,jiD];have a4:=Hd (a2.o.keeps A (fun h=>h));have a5:=Hd (a3.o.trans A);clear A a3 a2;go_wp2_with fail
 rw[Z.o];refine (jsA w3 xs hx (by rw[<-Z.o];have:=a9.o;omega) (by have:=HL.o;omega)).mono ?_;rintro e w4 ⟨v,rfl,hv⟩;have a6:=Hd (a4.o.keeps hv.ext (fun h=>h));have a7:=Hd (a5.o.trans hv.ext);have O:=hv.rd;rcases hv.sl with⟨ad,cp,rfl⟩;rw[HL.o]at O ⊢;have E:=HC.o w4 _ O;have b0:=Hd E;clear hv a5 a4 O E;go_wp2_with fail
 refine b0.o.mono ?_;rintro e w5 ⟨rfl,A⟩;have b1:=Hd (a7.o.trans A);have b2:=a6.o.keeps A (fun h=>h);clear A a7 a6;unfold jad.V;go_wp2_with (refine jah (vs:=n.cells) rfl rfl rfl rfl b2 (by rw[n.cells_len HR.o];rfl) (by rw[n.cells_len HR.o];exact Tryz.szNode) n.one ?_;intro W8 b3 b4)
 refine bodyPost_ret (jaF rfl rfl rfl (jaw W8 _ n HR.o b3)) rfl ?_
 exact⟨rfl,b1.o.trans' b4 (fun x hx e=>by have e:x=w.heap.size:=e;omega)⟩
end
section
open Go Go.RowKit
theorem jo4:∀ (l:vM) (i:Nat) (m:vM) (j:Nat),i+l.length<=m.length ->
  ((jax i l).foldl (fun l x=>l.set x.1 x.2) m)[j]?=if i<=j/\j < i+l.length/\(l.getD (j - i) ⟨#[]⟩).size≠0 then some (l.getD (j - i) ⟨#[]⟩)else m[j]?
 | [],i,m,j,_=>by
  rw[if_neg (fun h=>by have O:=h.1;have o:=h.2.1;rw[cF]at o;omega)];rfl
 | r :: l,i,m,j,h=>by
  unfold jax;simp only[bF]at h ⊢;have H:∀ (E:vM),E.length=m.length->(∀ k,k≠i->E[k]?=m[k]?)->((jax (i+1) l).foldl (fun l x=>l.set x.1 x.2) E)[j]?=if i<=j/\j < i+(l.length+1)/\((r :: l).getD (j - i) ⟨#[]⟩).size≠0/\j≠i then some ((r :: l).getD (j - i) ⟨#[]⟩)else E[j]?:=by
   intro E K J;rw[jo4 l (i+1) E j vO]
   by_cases hj:i+1<=j
   ·have e:(r :: l).getD (j - i) ⟨#[]⟩=l.getD (j - (i+1)) ⟨#[]⟩:=by
     rw[show j - i=(j - (i+1))+1 by omega,List.getD_cons_succ]
    rw[e]
    by_cases o:j < i+1+l.length/\(l.getD (j - (i+1)) ⟨#[]⟩).size≠0
    ·rw[if_pos ⟨hj,o.1,o.2⟩,if_pos ⟨by omega,by omega,o.2,by omega⟩]
    ·rw[if_neg (fun A=>o A.2),if_neg (fun A=>o ⟨by omega,A.2.2.1⟩)]
   ·rw[if_neg (fun A=>hj A.1),if_neg (fun A=>hj vO)]
  split
  ·rename_i h0
   rw[H m rfl (fun _ _=>rfl)]
   by_cases hj:j=i
   ·subst hj
    rw[if_neg (fun A=>A.2.2.2 rfl),if_neg (fun A=>A.2.2 (by rw[iW];exact h0))]
   ·by_cases o:i<=j/\j < i+(l.length+1)/\((r :: l).getD (j - i) ⟨#[]⟩).size≠0
    ·rw[if_pos ⟨o.1,o.2.1,o.2.2,hj⟩,if_pos o]
    ·rw[if_neg (fun A=>o ⟨A.1,A.2.1,A.2.2.1⟩),if_neg o]
  ·rename_i h0
   rw[dM,H (m.set i r) (by simp) (fun k J=>List.getElem?_set_ne (Ne.symm J))]
   by_cases hj:j=i
   ·subst hj
    rw[if_neg (fun A=>A.2.2.2 rfl),if_pos ⟨bL _,by omega,by rw[iW];exact h0⟩,iW];rw[List.getElem?_set_self vO];rfl
   ·rw[List.getElem?_set_ne (Ne.symm hj)]
    by_cases o:i<=j/\j < i+(l.length+1)/\((r :: l).getD (j - i) ⟨#[]⟩).size≠0
    ·rw[if_pos ⟨o.1,o.2.1,o.2.2,hj⟩,if_pos o]
    ·rw[if_neg (fun A=>o ⟨A.1,A.2.1,A.2.2.1⟩),if_neg o]
theorem jdD(n:jad)(hr:n.refs.length=16):jbP n=ja3 n.refs n.value:=by
 apply List.ext_getElem?;intro j;unfold jbP jeb ja3;rw[bN (bL _)];unfold jad.refsL;have A:((jax 0 n.refs).foldl (fun l x=>l.set x.1 x.2) (List.replicate 17 (jao ⟨#[]⟩))).length=17:=by
  have:=jie n n.refsL.length
  unfold jeb at this;rw[bN (bL _)]at this;exact this
 by_cases h16:j=16
 ·subst h16
  rw[List.getElem?_set_self (by rw[A];omega),cQ (by rw[cC,hr];omega),cC,hr];rfl
 ·rw[List.getElem?_set_ne vO,jo4 n.refs 0 _ j (by rw[hr,List.length_replicate];omega),hr]
  by_cases hj:j < 16
  ·have o:j < n.refs.length:=vO
   rw[cS (by rw[cC];exact o),bX,bA o];have e:n.refs.getD (j - 0) ⟨#[]⟩=n.refs[j]:=by rw[bH,Nat.sub_zero,bA o];rfl
   rw[e]
   by_cases h0:n.refs[j].size=0
   ·rw[if_neg (fun E=>E.2.2 h0),iV,if_pos vO,gQ,if_pos h0]
   ·rw[if_pos ⟨by omega,by omega,h0⟩,gQ,if_neg h0]
  ·rw[if_neg (fun E=>hj vO),iV,if_neg vO,jC (by simp[hr];omega)]
section
variable {I:vB->jad->Prop} (HI:InlP I)
include HI
theorem MayP.item{r:vB}(h:MayP I r):jgk r:=by
 rcases h with⟨h,h1,rfl⟩ |⟨m,hm⟩
 ·exact jc4 h vO
 ·obtain⟨xs,rfl,e⟩:=HI.list r m hm
  exact jn3 xs e
theorem MayP.ne{r:vB}(h:MayP I r):r≠jao ⟨#[]⟩:=by
 rcases h with h |⟨m,hm⟩
 ·intro e
  have:=h.size
  rw[e]at this;exact absurd this vI
 ·obtain⟨xs,rfl,o⟩:=HI.list r m hm
  exact jeP xs o
theorem jyg(w:vW)(n:jad)(h:jbS I n):vR 115 #[.string (jaQ n)] w (.tuple #[n.V,.bool true]):=by
 have H:=h.one HI;have J:=jdg n H;cases h with
 | none=>exact jqY w
 | leaf p v h2 h3 h4 =>
  obtain⟨a,b,c⟩:=jbR h2
  have Q:=jbn p true;have X:=jaN (putB p true);have Z:=jaN v;simp only at b;exact jmW w (jao (putB p true)) (jao v) _ H.refs (jc4 _ vO) (jc4 _ vO) vO (fun w=>jqW w p v vO vO c)
 | ext p r h2 h3 h4 =>
  obtain⟨a,b,c⟩:=jbR h2
  have Q:=jbn p false;have X:=jaN (putB p false);simp only at b;have O:MayP I r:=h4.imp id (fun ⟨m,h,_⟩=>⟨m,h⟩);have Z:=O.size HI;exact jmW w (jao (putB p false)) r _ H.refs (jc4 _ vO) (O.item HI) vO (fun w=>jtC w p r vO c)
 | branch v rs h2 h3 h4 h5 =>
  have e:jbP ⟨3,⟨#[]⟩,v,rs⟩=ja3 rs v:=jdD _ h2;have o:∀ x∈ja3 rs v,jgk x:=by
   intro x A;unfold ja3 at A;rcases bU.1 A with A | A
   ·obtain⟨r,K,rfl⟩:=bK.1 A
    by_cases E:r.size=0
    ·rw[if_pos E];exact jc4 _ vI
    ·rw[if_neg E];exact (h4 r K E).item HI
   ·rw[bY.1 A];exact jc4 _ vO
  show vQ _ #[.string (ja7 (jbP ⟨3,⟨#[]⟩,v,rs⟩))] w _;rw[e]at J ⊢;exact jqX w (ja3 rs v) _ h2 (by simp[ja3,h2]) o vO (fun w a ha=>jmV w a rs v h2 vO (fun r K E=>(h4 r K E).ne HI) ha)
end
end
section
open Go Go.RowKit
theorem jhs(n:jad)(h:jqc n):(jaQ n).size<=2000:=by
 unfold jaQ;have E:=h.path;have H:=h.value;split
 ·exact bJ (jaN _) vI
 ·split
  ·have o:=jbn n.path true
   have A:=jaN (putB n.path true);have J:=jaN n.value;have e:=jcS [jao (putB n.path true),jao n.value];rw[ja4,ja4,jcK]at e;unfold jmp;omega
  ·split
   ·have o:=jbn n.path false
    have A:=jaN (putB n.path false);have e:=jcS [jao (putB n.path false),n.refs.getD 0 ⟨#[]⟩];rw[ja4,ja4,jcK]at e;have K:(n.refs.getD 0 ⟨#[]⟩).size<=33:=h.each _ (by
     rw[bH,bA (by rw[h.refs];omega)];exact dD _)
    unfold extB;omega
   ·have z:=jdg n h
    have e:=jcS (jbP n);unfold jec;omega
theorem jj0(n:jad)(h:jqc n)(hk:n.kind≠0):∃ xs,jaQ n=ja7 xs/\(catB xs).size<=1048576:=by
 have A:=h.path;have E:=h.value;unfold jaQ;rw[if_neg hk];split
 ·have e:=jbn n.path true
  have o:=jaN (putB n.path true);have H:=jaN n.value
  exact⟨_,rfl,by rw[ja4,ja4,jcK];omega⟩
 ·split
  ·have e:=jbn n.path false
   have o:=jaN (putB n.path false);have J:(n.refs.getD 0 ⟨#[]⟩).size<=33:=h.each _ (by
    rw[bH,bA (by rw[h.refs];omega)];exact dD _)
   exact⟨_,rfl,by rw[ja4,ja4,jcK];omega⟩
  ·exact⟨_,rfl,by have:=jdg n h;omega⟩
section
variable {I:vB->jad->Prop} (HI:InlP I)
include HI
theorem jjT(w:vW)(n:jad)(h:jbS I n):vR 81 #[.string (jaQ n)] w (.tuple #[n.V,.int .i64 0]):=by
 have h1:=h.one HI
 obtain⟨s,hs⟩:=vE (jaQ n)
 rw[<-hs];have HS:=Hd hs;have H:=Hd h;have K:=Hd h1;have HL:=Hd (n.cells_len h1.refs);clear h h1 hs;unfold vR vQ;go_in;go_wp2_with (refine jaj Tryz.allocNode rfl rfl ?_;intro W1 O Q)
 rw[HS.o];refine vC (jyg HI W1 n H.o) fun w2 A=>?_;rw[<-HS.o];have a4:=Hd (O.keeps A (fun h=>h));have a5:=Hd (Q.trans A);clear O Q A;unfold jad.V;go_wp2_with (first |(refine jaj Tryz.allocNode rfl rfl ?_;intro W3 X Z;refine jah (vs:=n.cells) rfl rfl rfl rfl X (by rw[HL.o];rfl) (by rw[HL.o];exact Tryz.szNode) n.one ?_;intro W4 E a1) |(refine jaf 103 (.tmp 4) rfl rfl _ _ rfl (jaq _ _ n K.o.refs E) ?_))
 have a2:Ext w2 W4:=Z.trans' a1 (fun x hx e=>by have e:x=w2.heap.size:=e;omega);refine vC (jlr HI W4 n H.o) fun w5 A=>?_;have J:=E.keeps A (fun h=>h);have a6:=Hd J;have HX:=Hd (a2.trans A);clear X Z E a1 a2 A;go_wp2_with (refine jaf 103 (.tmp 4) rfl rfl _ _ rfl (jaq _ _ n K.o.refs J) ?_)
 refine vC (jtg w5 n K.o) fun w6 A=>?_;rw[<-HS.o];have a7:=a6.o.keeps A (fun h=>h);have a3:=HX.o.trans A;have a0:=a4.o.keeps a3 (fun h=>h);clear J A;go_wp2_with (first |(refine jaf 103 (.tmp 4) rfl rfl _ _ rfl (jaq _ _ n K.o.refs a7) ?_) |(refine jah (vs:=n.cells) rfl rfl rfl rfl a0 (by rw[HL.o];rfl) (by rw[HL.o];exact Tryz.szNode) n.one ?_;intro W8 a8 a9))
 refine bodyPost_ret (jaF rfl rfl rfl (jaw W8 _ n K.o.refs a8)) rfl ?_
 exact⟨rfl,(a5.o.trans a3).trans' a9 (fun x hx e=>by have e:x=w.heap.size:=e;omega)⟩
theorem jsy(w:vW)(n:jad)(h:jbS I n)(hk:n.kind≠0)(hsm:(jaQ n).size < 32):vR 84 #[.string (jaQ n)] w (.tuple #[n.V,.bool true]):=by
 have h1:=h.one HI
 obtain⟨s,hs⟩:=vE (jaQ n)
 rw[<-hs]at hsm ⊢;have c1:¬(32:Int)<=(s.size:Int):=vO
 have c2:((n.kind:Int) == 0)=false:=by simp;omega
 have c3:¬(n.kind:Int)=0:=vO
 have HS:=Hd hs;have H:=Hd h;have H1:=Hd h1;have Z:=Hd (n.cells_len h1.refs);clear h h1 hs hk;unfold vR vQ;go_in;go_wp2_with (refine jaj Tryz.allocNode rfl rfl ?_;intro W1 A E)
 rw[HS.o];refine vC (jjT HI W1 n H.o) fun w2 hE=>?_;rw[<-HS.o];have J:=A.keeps hE (fun h=>h);have a0:=Hd (E.trans hE);clear A E hE;unfold jad.V;go_wp2_with (first |(refine jaj Tryz.allocNode rfl rfl ?_;intro W3 a1 K;refine jah (vs:=n.cells) rfl rfl rfl rfl a1 (by rw[Z.o];rfl) (by rw[Z.o];exact Tryz.szNode) n.one ?_;intro W4 O Q;have q0:W4.cell? ⟨w2.heap.size,0,none⟩=some (.int .i64 (n.kind:Int)):=O.cellL vF;have X:=(J.keeps K (fun h=>h)).keeps Q (by have:=J.lt;omega)) |(refine jaf 103 (.tmp 4) rfl rfl _ _ rfl (jaq _ _ n H1.o.refs O) ?_) |(refine jah (vs:=n.cells) rfl rfl rfl rfl X (by rw[Z.o];rfl) (by rw[Z.o];exact Tryz.szNode) n.one ?_;intro W8 a2 a3))
 refine bodyPost_ret (jaF rfl rfl rfl (jaw W8 _ n H1.o.refs a2)) rfl ?_;have a4:Ext w2 W4:=K.trans' Q (fun x hx e=>by have e:x=w2.heap.size:=e;omega)
 exact⟨rfl,(a0.o.trans a4).trans' a3 (fun x hx e=>by have e:x=w.heap.size:=e;omega)⟩
end
def InlD:Nat->vB->jad->Prop
 | 0,_,_=>False
 | d+1,r,m=>jbS (InlD d) m/\r=jaQ m/\r.size < 32/\m.kind≠0
theorem inlP:∀ d,InlP (InlD d)
 | 0=>⟨fun _ _ h=>h.elim,fun _ _ h=>h.elim,fun _ _ h=>h.elim,fun _ _ h=>h.elim,fun _ _ h=>h.elim,fun _ _ h=>h.elim⟩
 | d+1=>by
  have E:=inlP d;have H:∀ r m,InlD (d+1) r m->∃ xs,r=ja7 xs/\(catB xs).size<=1048576:=fun r m ⟨J,K,O,Q⟩=>by
   obtain⟨xs,e,A⟩:=jj0 m (J.one E) Q
   exact⟨xs,K.trans e,A⟩
  refine⟨fun r m h=>(h.1.one E).refs,fun r m h=>h.2.2.1,fun r m h=>?_,H,fun r m h=>?_,fun r m h w=>?_⟩
  ·obtain⟨xs,e,A⟩:=H r m h
   obtain⟨o,X,_⟩:=jfe xs A
   rw[e]
   have:=(jkC X).1
   omega
  ·obtain⟨xs,e,A⟩:=H r m h
   rw[e];exact jmi xs A
  ·obtain⟨J,K,O,Q⟩:=h
   rw[K]at O ⊢;exact jsy E w m J Q O
end
