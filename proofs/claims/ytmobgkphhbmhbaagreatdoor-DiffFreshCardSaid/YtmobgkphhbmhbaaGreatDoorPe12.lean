/- Lemmas; each is under no condition but those that it states. -/
import Derived.Test.YtmobgkphhbmhbaaGreatDoorPe11
import Derived.RangeFuncCalls
namespace Go.Proofs.YtmobgkphhbmhbaaGreatDoor
set_option linter.unusedSimpArgs false
set_option linter.unusedVariables false
set_option maxRecDepth 100000
set_option maxHeartbeats 16000000
section
open Go Go.RowKit
attribute [local go_sem] Oper.semAt_some
theorem Tryz.allocNode:∀ w,(Instr.alloc 132 true (.tuple #[])).run Tryz.prog w=.ok (.pointer (some ⟨w.heap.size,0,none⟩)) (w.alloc (.cells jaV.cells.toArray 132)):=fun w=>by kernel_rfl
theorem jae.one(n:jae):∀ v∈n.cells,v.oneCell'=true:=by
 intro v e;simp only[jae.cells,bK,bC]at e;rcases e with rfl | rfl | rfl |⟨_,_,rfl⟩ <;> rfl
def jfH(r:vB):Prop:=∃ h:vB,h.size=32/\r=jaC h
theorem jfH.size{r:vB}(h:jfH r):r.size=33:=by
 obtain⟨h,e,rfl⟩:=h
 unfold jaC;rw[if_neg vO,cO,e];rfl
theorem jfH.known{r:vB}(hh:jfH r):r.size<=1000000000/\∃ h q,cutN r=some q/\jeX r q=some h:=by
 have H:=hh.size
 obtain⟨h,o,e⟩:=hh
 obtain⟨q,z,E⟩:=jdI h o
 exact⟨by omega,h,q,by rw[e];exact z,by rw[e];exact E⟩
structure InlP(I:vB->jae->Prop):Prop where
 refs:∀ r m,I r m->m.refs.length=16
 small:∀ r m,I r m->r.size < 32
 pos:∀ r m,I r m->r.size≠0
 list:∀ r m,I r m->∃ xs,r=jbY xs/\(catB xs).size<=1048576
 nohash:∀ r m,I r m->∃ q,cutN r=some q/\jeX r q=none
 inl:∀ r m,I r m->∀ w,vR 88 #[.string r] w (.tuple #[m.V,.bool true])
section
variable {I:vB->jae->Prop} (HI:InlP I)
def MayP(I:vB->jae->Prop)(r:vB):Prop:=jfH r\/∃ m,I r m
include HI
theorem jzq(w:vW)(r:vB)(hr:MayP I r):vR 184 #[.string r] w (.bool true):=by
 rcases hr with hh |⟨m,hm⟩
 ·obtain⟨hs,h,q,z,E⟩:=hh.known
  have J:=Hd z;have K:=Hd E;clear z E hh;go_enter Tryz.func184,Tryz.ntmps184;go_wp2_with fail
  refine vH (jeM w r q vO J.o) fun w1 O=>?_;rw[K.o];unfold optV;simp only;go_wp2_with fail
  go_ret
  exact⟨rfl,O.o⟩
 ·have hs:=HI.small r m hm
  obtain⟨q,z,E⟩:=HI.nohash r m hm
  have HC:=Hd (HI.inl r m hm);have H:=Hd (HI.refs r m hm);have J:=Hd z;have K:=Hd E;clear z E;go_enter Tryz.func184,Tryz.ntmps184;go_wp2_with fail
  refine vH (jeM w r q vO J.o) fun w1 O=>?_;rw[K.o];unfold optV;simp only;go_wp2_with fail
  refine vH (HC.o w1) fun w2 Q=>?_;have X:=Hd (O.o.trans Q);unfold jae.V;go_wp2_with (refine jal Tryz.allocNode rfl rfl ?_;intro W3 hB Z;refine jah (vs:=m.cells) rfl rfl rfl rfl hB (by rw[m.cells_len H.o];rfl) (by rw[m.cells_len H.o];exact Tryz.szNode) m.one ?_;intro W4 a2 a0)
  have a1:Ext w2 W4:=Z.trans' a0 (fun x hx e=>by have e:x=w2.heap.size:=e;omega);go_ret
  exact⟨rfl,X.o.trans a1⟩
theorem jzk(w:vW)(n:jae)(r:vB)(hr:n.refs.length=16)(hp:n.pathOk 1=true)(h0:n.value=⟨#[]⟩)(hb:n.behindN=1)(J:n.refs[0]?=some r)(hm:jfH r\/∃ m,I r m/\m.kind=3):vR 157 #[n.V] w (.bool true):=by
 have a0:n.path.size<=1000000:=by
  simp only[jae.pathOk,cQ,decide_eq_true_eq]at hp;omega
 have K:=je9 w n hr;have e2:n.cells[2]?=some (.string ⟨#[]⟩):=by rw[<-h0];rfl
 have e3:n.cells[3]?=some (.string r):=by
  show (n.refs.map Value.string)[0]?=_;rw[cA,J];rfl
 have HP:=Hd hp;have HB:=Hd hb;have E3:=Hd e3;clear hp hb h0 J e3;unfold jae.V at K ⊢;go_enter Tryz.func157,Tryz.ntmps157;go_wp2_with (refine jaf 181 (.tmp 1) rfl rfl _ _ rfl K ?_)
 refine vC (jr5 _ n hr 1 a0) fun w1 z=>?_;rw[HP.o];have B1:=(Blk.new w (.cells n.cells.toArray 181)).keeps z (fun h=>h);have q2:=B1.cellL e2;have E:=jbU w1 _ n hr B1;have O:=Hd (((ExtR w).alloc _).trans z);have Q:=Hd B1;unfold jae.V at E;clear K z B1;go_wp2_with (refine jaf 181 (.tmp 1) rfl rfl _ _ rfl E ?_)
 refine vC (jns _ n hr) fun w2 z=>?_;rw[HB.o];have B2:=Q.o.keeps z (fun h=>h);have H:=Hd (O.o.trans z);have q3:=B2.cellL E3.o;have a1:=Hd B2;clear E z q2 B2 Q O;rcases hm with hh |⟨m,hm,hk⟩
 ·obtain⟨hs,h,q,J,X⟩:=hh.known
  have H3:=Hd J;have H4:=Hd X;clear J X hh;go_wp2_with fail
  refine vH (jeM w2 r q hs H3.o) fun w3 z=>?_;rw[H4.o];have HE:=Hd (H.o.trans z);unfold optV;simp only;go_wp2_with fail
  go_ret
  exact⟨rfl,HE.o⟩
 ·have hs:=HI.small r m hm
  obtain⟨q,J,X⟩:=HI.nohash r m hm
  have HC:=Hd (HI.inl r m hm);have Z:=Hd (HI.refs r m hm);have H3:=Hd J;have H4:=Hd X;have HK:=Hd hk;clear J X hk;go_wp2_with fail
  refine vC (jeM w2 r q vO H3.o) fun w3 z=>?_;rw[H4.o];have B3:=a1.o.keeps z (fun h=>h);have HE:=Hd (H.o.trans z);have a2:=B3.cellL E3.o;clear z q3 B3;unfold optV;simp only;go_wp2_with fail
  refine vH (HC.o w3) fun w4 a3=>?_;have H:=Hd (HE.o.trans a3);clear a2;unfold jae.V;go_wp2_with (refine jal Tryz.allocNode rfl rfl ?_;intro W3 hB a4;refine jah (vs:=m.cells) rfl rfl rfl rfl hB (by rw[m.cells_len Z.o];rfl) (by rw[m.cells_len Z.o];exact Tryz.szNode) m.one ?_;intro W4 a5 a6;have q0:W4.cell? ⟨w4.heap.size,0,none⟩=some (.int .i64 3):=a5.cellL (by show some (Value.int .i64 (m.kind:Int))=_;rw[HK.o];rfl))
  have a7:Ext w4 W4:=a4.trans' a6 (fun x hx e=>by have e:x=w4.heap.size:=e;omega);have a8:=Hd (H.o.trans a7);go_ret
  exact⟨rfl,a8.o⟩
structure BraC(w:World)(gn gr gf gi:Nat)(n:jae)(c:Nat)(k:Nat)(W:World):Prop where
 ext:Ext w W
 res:Blk W gr (.cells #[.bool false] 4)
 node:Blk W gn (.cells n.cells.toArray 181)
 full:Blk W gf (.cells #[.int .i64 ((c+k:Nat):Int)] 3)
 it:Blk W gi (.cells n.cells.toArray 181)
theorem jtp(w:vW)(n:jae)(hr:n.refs.length=16)(hp:n.path=⟨#[]⟩)(h8:n.value.size<=80)(hm:∀ r∈n.refs,r.size≠0->MayP I r)(h2:2<=min n.value.size 1+n.refsL.length):vR 158 #[n.V] w (.bool true):=by
 have e1:n.cells[1]?=some (.string ⟨#[]⟩):=by rw[<-hp];rfl
 have e2:n.cells[2]?=some (.string n.value):=rfl;have c1:¬(80:Int) < (n.value.size:Int):=vO
 obtain⟨c,hc⟩:=vE (min n.value.size 1)
 have a0:min (n.value.size:Int) 1=(c:Int):=vO
 rw[<-hc]at h2;have HC:=Hd a0;have H2:=Hd h2;clear hp hc a0 h2;refine (callsIn_wide (n:=0)).1 ?_;refine callsIn_of_wp_marks Tryz.func158 rfl trivial ?_ rfl;simp only[Tryz.ntmps158,dE,bQ,dM,Nat.reduceAdd,Nat.reduceSub,dH,dG,dR,dL,cP,cX]
 obtain⟨Z,z⟩:=vE (((w.alloc (.cells n.cells.toArray 181)).alloc (.cells #[.bool false] 4)).alloc (.cells #[.int .i64 (min (n.value.size:Int) 1)] 3))
 have B0:Blk Z w.heap.size (.cells n.cells.toArray 181):=by rw[z];exact ((Blk.new w _).alloc _).alloc _
 have B1:Blk Z (w.heap.size+1) (.cells #[.bool false] 4):=by
  rw[z];have:=(Blk.new (w.alloc (.cells n.cells.toArray 181)) (.cells #[.bool false] 4)).alloc (.cells #[.int .i64 (min (n.value.size:Int) 1)] 3);rwa [bN]at this
 have B2:Blk Z (w.heap.size+1+1) (.cells #[.int .i64 (c:Int)] 3):=by
  rw[z, <-HC.o];have:=Blk.new ((w.alloc (.cells n.cells.toArray 181)).alloc (.cells #[.bool false] 4)) (.cells #[.int .i64 (min (n.value.size:Int) 1)] 3);rwa [bN,bN]at this
 have E0:Ext w Z:=by rw[z];exact (((ExtR w).alloc _).alloc _).alloc _
 have a1:Z.heap.size=w.heap.size+3:=by rw[z];simp
 have O:=jbU Z _ n hr B0;rw[z]at O;have a2:=Hd z;have a3:=Hd E0;have a4:=Hd B0;have a5:=Hd B1;have a6:=Hd B2;have a7:=Hd a1;clear z E0 B0 B1 B2 a1;unfold jae.V at O ⊢;gi_wp2_with (refine jbn rfl 181 (.tmp 1) rfl _ _ rfl O ?_)
 refine⟨trivial,rfl,CallsIn.mono (callsIn_wide.2 (jow _ n)) ?_⟩
 rintro e w1 ⟨rfl,E,J⟩;rw[<-a2.o]at E J ⊢;rw[a7.o]at E ⊢;have a8:BraC w w.heap.size (w.heap.size+1) (w.heap.size+1+1) (w.heap.size+3) n c 0 w1:=⟨a3.o.trans J,a5.o.keeps J (fun h=>h),a4.o.keeps J (fun h=>h),a6.o.keeps J (fun h=>h),E⟩;have b2:=E.lt;have a9:=Hd a8;have b3:c<=1:=by have:=HC.o;omega
 clear E J O a8 a2 a3 a4 a5 a6 a7;gi_wp2_with fail
 refine jen (N:=n.refsL.length) (gf:=163) (lb:=#[.pointer (some ⟨w.heap.size+3,0,none⟩)]) rfl (vX 163) (jkt (w.heap.size+3) n hr)
  (fun k=>rfl) (BraC w w.heap.size (w.heap.size+1) (w.heap.size+1+1) (w.heap.size+3) n c) (fun _ _ _=>False) (fun k W W' h e=>⟨h.ext.trans e,h.res.keeps e (fun h=>h),h.node.keeps e (fun h=>h),h.full.keeps e (fun h=>h),h.it.keeps e (fun h=>h)⟩) (fun _ _ _ _ h _=>h) (fun k W h=>h.it)
  (fun k W o h=>⟨h.ext.putObj (.inr vO) _,h.res.put_other vO _,h.node.put_other vO _,h.full.put_other vO _,h.it.put_other vO _⟩)
  (fun k W o h=>⟨h.ext.putObj (.inr vO) _,h.res.put_other vO _,h.node.put_other vO _,h.full.put_other vO _,h.it.put_other vO _⟩) (fun _ _ _ _ h=>h)
  a9.o (fun k=>{ tmps:=#[.agg n.cells.toArray,.pointer (some ⟨w.heap.size,0,none⟩),.pointer (some ⟨w.heap.size+1,0,none⟩),.pointer (some ⟨w.heap.size+1+1,0,none⟩),undef,.string (n.rr k),.pointer (some ⟨w.heap.size,1,none⟩),.string ⟨#[]⟩,.bool false,.bool false,.pointer (some ⟨w.heap.size,2,none⟩),.string n.value,.int .i64 n.value.size,.bool false,.bool false,.pointer (some ⟨w.heap.size,2,none⟩),.string n.value,.int .i64 n.value.size,.int .i64 (min (n.value.size:Int) 1),.agg n.cells.toArray,.func (.func 163) #[] #[.pointer (some ⟨w.heap.size+3,0,none⟩)],.int .i64 (n.ri k:Nat),.string (n.rr k),undef,undef,undef,undef,undef,undef,undef],defers:=[] })
  ?hassign ?hbody ?hdone ?hstop
 case hassign =>
  intro l j W K hK;rw[juH,jq4];simp only[dI,dA];gi_wp2;exact hK
 case hbody =>
  intro l k W hk h b4;have q:=h.full.cell (i:=0) (v:=.int .i64 ((c+k:Nat):Int)) vF;have f:W.frozen? ⟨w.heap.size+1+1,0,none⟩=false:=h.full.frozen;have X:=juD n hr hk;have Q:=hm _ (bI X.2.1) X.2.2;have b1:k < 16:=bP hk (by
   have:∀ (l:vM) (i:Nat),(jaE i l).length<=l.length:=by
    intro l;induction l with
    | nil=>intro i;simp[jaE]
    | cons x r ih=>intro i;unfold jaE;split <;> simp <;> have:=ih (i+1) <;> omega
   have:=this n.refs 0
   rw[hr]at this;exact this)
  have H:=Hd h;have HM:=Hd Q;clear h X Q;clear q f;gi_wp2_with fail
  refine⟨trivial,rfl,CallsIn.mono (CallsIn.inRound l (callsIn_wide.2 (jzq HI W _ HM.o))) ?_⟩
  rintro e w5 ⟨rfl,J⟩;have q:=(H.o.full.keeps J (fun h=>h)).cell (i:=0) (v:=.int .i64 ((c+k:Nat):Int)) vF;have f:w5.frozen? ⟨w.heap.size+1+1,0,none⟩=false:=(H.o.full.keeps J (fun h=>h)).frozen;have HE:=Hd J;clear J;gi_wp2;rw[show (c:Int)+(k:Int)+1=((c+(k+1):Nat):Int) by omega];have K5:jad (fun b=>b=w.heap.size+1+1) w5 (w5.setCell ⟨w.heap.size+1+1,0,none⟩ (.int .i64 ((c+(k+1):Nat):Int))):=jad.oneSet w5 ⟨w.heap.size+1+1,0,none⟩ _;have K6:jad (fun b=>b=w.heap.size+1+1) W (w5.setCell ⟨w.heap.size+1+1,0,none⟩ (.int .i64 ((c+(k+1):Nat):Int))):=(HE.o.mono (fun _ _ h=>h.elim)).trans K5
  refine⟨K6.mono (fun x hx e=>?_),?_⟩
  ·have e:x=_:=e;show x≠_/\x≠_;omega
  ·exact⟨H.o.ext.trans' K6 (fun x hx e=>by omega),H.o.res.keeps K6 vO,H.o.node.keeps K6 vO,((H.o.full.keeps HE.o (fun h=>h)).set_same (i:=0) _),H.o.it.keeps K6 vO⟩
 case hdone =>
  intro W h hd;have q:=h.full.cell (i:=0) (v:=.int .i64 ((c+n.refsL.length:Nat):Int)) vF;have q2:=h.res.cell (i:=0) (v:=.bool false) vF;have f2:W.frozen? ⟨w.heap.size+1,0,none⟩=false:=h.res.frozen;have c5:(2:Int)<=(c:Int)+(n.refsL.length:Int):=by have:=H2.o;omega
  have H:=Hd h;have HD:=Hd hd;clear h hd;gi_wp2;have B2:=(H.o.res.set_same (i:=0) (.bool true));have BD:=HD.o.set_other (p:=⟨w.heap.size+1,0,none⟩) (by show w1.heap.size≠w.heap.size+1;omega) (.bool true);have hX:Ext w ((W.setCell ⟨w.heap.size+1,0,none⟩ (.bool true)).putObj w1.heap.size (.deferred none)):=(H.o.ext.setCell (.inr (by show w.heap.size<=w.heap.size+1;omega)) _).putObj (.inr vO) _
  obtain⟨W3,b0⟩:=vE (W.setCell ⟨w.heap.size+1,0,none⟩ (.bool true))
  rw[<-b0]at B2 BD hX ⊢;have c2:(W3.putObj w1.heap.size (.deferred none)).cell? ⟨w.heap.size+1,0,none⟩=some (.bool true):=(B2.put_other vO _).cell (i:=0) (by simp)
  refine⟨by simp,.inl ⟨_,_,rfl,run_takeDeferred BD,?_⟩⟩
  exact⟨.bool true,by simp[results,Tryz.results158,go_sem,c2],rfl,hX⟩
 case hstop=>intro c k W _ _ h;exact h.elim
end
end
section
open Go Go.RowKit
theorem jpl{P:Program}{a:Act}{w:vW}{d:Option Tmp}{f:FuncId}{x:Operand}{lb:Array vV}{args:Array Operand}{ats:Array TypeId}{ty:TypeId}{pos:String}{af:Array Edge}{g:Option (Nat × Bool)}{vs:Array vV}(hx:a.eval x=.func (.func f) #[] lb)(eg:∀ args w,(callFunc f args).run P w=.ok (.enter f args) w)(hv:args.map a.eval=vs) :
  (execOp a.eval ⟨d,.call { callee:=.value x,args:=args,argTypes:=ats },ty,pos,af,g⟩).run P w=.ok (.enter f (vs++lb)) w:=by
 subst hv;simp[execOp,resolve,hx,Deferred.ofValue,invoke,bT,Result.andThen,cJ,eg]
theorem jia{P:Program}{a:Act}{w:vW}{d:Option Tmp}{f:FuncId}{x y:Operand}{ats:Array TypeId}{ty:TypeId}{pos:String}{af:Array Edge}{g:Option (Nat × Bool)}{v:vV}(hx:a.eval x=.func (.func f) #[] #[])(eg:∀ args w,(callFunc f args).run P w=.ok (.enter f args) w)(hv:a.eval y=v) :
  (execOp a.eval ⟨d,.call { callee:=.value x,args:=#[y],argTypes:=ats },ty,pos,af,g⟩).run P w=.ok (.enter f #[v]) w:=by
 have:=jpl (P:=P) (w:=w) (d:=d) (ats:=ats) (ty:=ty) (pos:=pos) (af:=af) (g:=g) (args:=#[y]) hx eg rfl
 simpa [hv]using this
theorem Tryz.allocTabV:∀ w,(Instr.alloc 226 true (.tuple #[])).run Tryz.prog w=.ok (.pointer (some ⟨w.heap.size,0,none⟩)) (w.alloc (.cells [Value.nilFunc,.nilFunc,.nilFunc,.nilFunc].toArray 226)):=fun w=>by kernel_rfl
theorem Tryz.szTabV:(Tryz.prog.info? 226).map (·.size)=some 4:=vY
theorem Tryz.allocTabT:∀ w,(Instr.alloc 228 true (.tuple #[])).run Tryz.prog w=.ok (.pointer (some ⟨w.heap.size,0,none⟩)) (w.alloc (.cells [Value.nilFunc,.nilFunc,.nilFunc,.nilFunc].toArray 228)):=fun w=>by kernel_rfl
theorem Tryz.szTabT:(Tryz.prog.info? 228).map (·.size)=some 4:=vY
theorem Tryz.uKind:Tryz.prog.underlying 129=some (.int .i64):=vY
theorem Tryz.aggV(w:vW):(isAgg 225).run Tryz.prog w=.ok false w:=vY
theorem Tryz.aggT(w:vW):(isAgg 227).run Tryz.prog w=.ok false w:=vY
theorem jas{P:Program}{t:TypeId}(h:∀ w,(isAgg t).run P w=.ok false w){w:vW}{a:Addr}{v:vV}(hc:w.cell? a=some v):(Instr.loadAt t (.pointer (some a))).run P w=.ok v w:=by
 simp[Instr.loadAt,Instr.sureAddr,loadVar,bT,h w,Result.andThen,hc]
def fnV(f:FuncId):vV:=.func (.func f) #[] #[]
theorem jkF(w:vW)(n:jae)(hr:n.refs.length=16)(hk:n.kind<=3)(f:FuncId)(hf:[fnV 155,fnV 156,fnV 157,fnV 158][n.kind]?=some (fnV f))
  (eg:∀ args w,(callFunc f args).run Tryz.prog w=.ok (.enter f args) w) (hc:∀ w,vR f #[n.V] w (.bool true)) :
  vR 120 #[n.V] w (.bool true):=by
 have e0:n.cells[0]?=some (.int .i64 (n.kind:Int)):=rfl;have c0:¬(n.kind:Int) < 0:=vO
 have c1:¬(3:Int) < (n.kind:Int):=vO
 have c2:(n.kind:Int) < 4:=vO
 have HF:=Hd hf;have HC:=Hd hc;have HR:=Hd hr;clear hf hc hr;unfold jae.V;go_enter Tryz.func120,Tryz.ntmps120;go_wp2_with (refine jal Tryz.allocTabV rfl rfl ?_;intro W1 E q;refine jah (vs:=[fnV 155,fnV 156,fnV 157,fnV 158]) rfl rfl rfl rfl E rfl Tryz.szTabV (by simp[fnV,Value.oneCell']) ?_;intro O H z;have Z:O.cell? ⟨w.heap.size,0,none⟩=some (.int .i64 (n.kind:Int)):=(((Blk.new w (.cells n.cells.toArray 132)).keeps q (fun h=>h)).keeps z (by rw[bN];omega)).cellL e0)
 have qt:O.cell? ⟨w.heap.size+1,n.kind,none⟩=some (fnV f):=by
  have:=H.cellL HF.o
  rwa [bN]at this
 have J:=((Blk.new w (.cells n.cells.toArray 132)).keeps q (fun h=>h)).keeps z (by rw[bN];omega);have QT:=Hd qt;have Q0:=Hd Z;have Q:=Hd J;have HE:=Hd ((((ExtR w).alloc (.cells n.cells.toArray 132)).trans q).trans' z (fun x hx e=>by have e:x=(w.alloc (.cells n.cells.toArray 132)).heap.size:=e;rw[bN]at e;omega));clear E q H z Z qt J;refine jai [0,1,2,3,4,5,6] Ext ExtR ExtT vY vY vY ?_
 refine vK ?_
 refine qKL ⟨w.heap.size,0,none⟩ _ rfl (fun X K=>jac Tryz.uKind rfl (jaa (by exact Q0.o) K)) ?_;refine vS ?_
 refine vK ?_
 refine qKL ⟨w.heap.size+1,n.kind,none⟩ _ rfl (fun X K=>jas Tryz.aggV (jaa (by exact QT.o) K)) ?_;refine vS ?_;refine qKL ⟨w.heap.size,0,none⟩ _ rfl (fun X K=>jax X _ n HR.o (Q.o.keeps ((jaj O).trans K) (fun h=>h))) ?_;refine vS ?_;refine qKC _ f #[n.V] (.bool true) rfl (fun w1=>jia rfl eg rfl) (fun w1 h1=>HC.o w1) ?_;refine vS ?_
 refine vK ?_
 refine qKE (fun w3 he=>?_);go_wp2_with fail
 go_ret
 exact⟨rfl,HE.o.trans ((jaj O).trans he)⟩
theorem joK(w:vW)(n:jae)(hr:n.refs.length=16)(hk:n.kind<=3)(S:vB)(f:FuncId)(hf:[fnV 159,fnV 160,fnV 161,fnV 162][n.kind]?=some (fnV f))
  (eg:∀ args w,(callFunc f args).run Tryz.prog w=.ok (.enter f args) w) (hc:∀ w,vR f #[n.V] w (.string S)) :
  vR 121 #[n.V] w (.string S):=by
 have e0:n.cells[0]?=some (.int .i64 (n.kind:Int)):=rfl;have c2:(n.kind:Int) < 4:=vO
 have HF:=Hd hf;have HC:=Hd hc;have HR:=Hd hr;clear hf hc hr;unfold jae.V;go_enter Tryz.func121,Tryz.ntmps121;go_wp2_with (refine jal Tryz.allocTabT rfl rfl ?_;intro W1 E q;refine jah (vs:=[fnV 159,fnV 160,fnV 161,fnV 162]) rfl rfl rfl rfl E rfl Tryz.szTabT (by simp[fnV,Value.oneCell']) ?_;intro O H z)
 have Z:O.cell? ⟨w.heap.size,0,none⟩=some (.int .i64 (n.kind:Int)):=(((Blk.new w (.cells n.cells.toArray 181)).keeps q (fun h=>h)).keeps z (by rw[bN];omega)).cellL e0;have qt:O.cell? ⟨w.heap.size+1,n.kind,none⟩=some (fnV f):=by
  have:=H.cellL HF.o
  rwa [bN]at this
 have J:=((Blk.new w (.cells n.cells.toArray 181)).keeps q (fun h=>h)).keeps z (by rw[bN];omega);have QT:=Hd qt;have Q0:=Hd Z;have Q:=Hd J;have HE:=Hd ((((ExtR w).alloc (.cells n.cells.toArray 181)).trans q).trans' z (fun x hx e=>by have e:x=(w.alloc (.cells n.cells.toArray 181)).heap.size:=e;rw[bN]at e;omega));clear E q H z Z qt J;simp only[Act.put,gN,dI,dA,bN];refine jai [0,1,2,3,4,5,6] Ext ExtR ExtT vY vY vY ?_
 refine vK ?_
 refine qKL ⟨w.heap.size,0,none⟩ _ rfl (fun X K=>jac Tryz.uKind rfl (jaa (by exact Q0.o) K)) ?_;refine vS ?_
 refine vK ?_
 refine qKL ⟨w.heap.size+1,n.kind,none⟩ _ rfl (fun X K=>jas Tryz.aggT (jaa (by exact QT.o) K)) ?_;refine vS ?_;refine qKL ⟨w.heap.size,0,none⟩ _ rfl (fun X K=>jbU X _ n HR.o (Q.o.keeps ((jaj O).trans K) (fun h=>h))) ?_;refine vS ?_;refine qKC _ f #[n.V] (.string S) rfl (fun w1=>jia rfl eg rfl) (fun w1 h1=>HC.o w1) ?_;refine vS ?_
 refine vK ?_
 refine qKE (fun w3 he=>?_);go_wp2_with fail
 go_ret
 exact⟨rfl,HE.o.trans ((jaj O).trans he)⟩
structure joZ(n:jae):Prop where
 refs:n.refs.length=16
 kind:n.kind<=3
 path:n.path.size<=12
 value:n.value.size<=80
 valid:jaM n.path=true
 each:∀ r∈n.refs,r.size<=33
def jaS(n:jae):vB:=if n.kind=0 then jaC ⟨#[]⟩else if n.kind=1 then jlw n else if n.kind=2 then extB n else jeQ n
theorem jkX(n:jae)(h:joZ n):∀ x∈jbM n,x.size<=89:=by
 have q:∀ (l:List (Nat × vB)) (m:vM),(∀ x∈l,x.2.size<=89)->(∀ x∈m,x.size<=89)->∀ x∈l.foldl (fun l x=>l.set x.1 x.2) m,x.size<=89:=by
  intro l;induction l with
  | nil=>intro m _ z;exact z
  | cons y r ih =>
   intro m o z;rw[dZ];refine ih _ (fun x e=>o x (bD _ e)) (fun x e=>?_);rcases List.mem_or_eq_of_mem_set e with e | rfl
   ·exact z x e
   ·exact o y (bF ..)
 intro x e;unfold jbM at e;rcases List.mem_or_eq_of_mem_set e with e | rfl
 ·refine q _ _ (fun y E=>?_) (fun y E=>?_) x e
  ·have o:=(je8 n.refs 0 y (jA E)).2.2.1
   have:=h.each y.2 (bI o)
   omega
  ·rw[fV E]
   have:=ja1 ⟨#[]⟩
   have H:(⟨#[]⟩:vB).size=0:=rfl;omega
 ·have:=ja1 n.value
  have:=h.value
  omega
theorem jqC(c:Nat):∀ (l:vM),(∀ x∈l,x.size<=c)->(catB l).size<=c * l.length
 | [],_=>by rw[jdP];omega
 | x :: r,h=>by
  rw[jby];have o:=h x (bF ..);have q:=jqC c r (fun y e=>h y (bD _ e));rw[bQ,Nat.mul_add];omega
theorem jdO(n:jae)(h:joZ n):(catB (jbM n)).size<=1513:=by
 have:=jqC 89 _ (jkX n h)
 have e:(jbM n).length=17:=by unfold jbM;rw[List.length_set,jhO]
 rw[e]at this;omega
theorem jr6(w:vW)(n:jae)(h:joZ n):vR 121 #[n.V] w (.string (jaS n)):=by
 have q:=h.kind;have J:=h.path;have K:=h.value
 by_cases k0:n.kind=0
 ·have e:jaS n=jaC ⟨#[]⟩:=by unfold jaS;rw[if_pos k0]
  rw[e];exact joK w n h.refs q _ 159 (by rw[k0];rfl) (vX 159) (fun w=>jpG w n)
 ·by_cases k1:n.kind=1
  ·have e:jaS n=jlw n:=by unfold jaS;rw[if_neg k0,if_pos k1]
   rw[e];exact joK w n h.refs q _ 160 (by rw[k1];rfl) (vX 160) (fun w=>jpw w n vO vO h.valid)
  ·by_cases k2:n.kind=2
   ·have e:jaS n=extB n:=by unfold jaS;rw[if_neg k0,if_neg k1,if_pos k2]
    rw[e]
    obtain⟨r,z,o⟩:∃ r z,n.refs=r :: z:=by
     cases hx:n.refs with
     | nil=>have:=h.refs;rw[hx]at this;cases this
     | cons r z=>exact⟨r,z,rfl⟩
    have E:=h.each r (by rw[o];exact bF ..);exact joK w n h.refs q _ 161 (by rw[k2];rfl) (vX 161) (fun w=>jq2 w n vO r (by rw[o];rfl) vO h.valid)
   ·have H:n.kind=3:=vO
    have e:jaS n=jeQ n:=by unfold jaS;rw[if_neg k0,if_neg k1,if_neg k2]
    rw[e];exact joK w n h.refs q _ 162 (by rw[H];rfl) (vX 162) (fun w=>jkY w n h.refs vO (by have:=jdO n h;omega))
theorem jwb(w:vW)(s:vB)(hs:s.size<=1000000)(leaf:Bool)(x:vB)(hx:jbA s=x)(h2:2<=x.size)(h0:x[0].toNat=if leaf then 3 else 1) :
  vR 181 #[.string s] w (.tuple #[.string (x.extract 1 x.size),.bool leaf,.bool true]):=by
 go_enter Tryz.func181,Tryz.ntmps181;go_wp2_with fail
 refine vH (joq w s hs) fun w1 e=>?_;rw[hx];clear hx hs;have q:=jbe (s:=x) vO;have E:(0:Int) < (x.size:Int):=vO
 have H:(1:Int)<=(x.size:Int):=vO
 cases leaf with
 | true =>
  have z:(x[0].toNat:Int)=3:=by simp at h0;omega
  clear h0;go_wp2_with fail
  exact bodyPost_ret (v:=.tuple #[.string (x.extract 1 x.size),.bool true,.bool true]) vY rfl ⟨rfl,e.o⟩
 | false =>
  have z:(x[0].toNat:Int)=1:=by simp at h0;omega
  clear h0;go_wp2_with fail
  exact bodyPost_ret (v:=.tuple #[.string (x.extract 1 x.size),.bool false,.bool true]) vY rfl ⟨rfl,e.o⟩
theorem jtV(w:vW)(s:vB)(hs:s.size<=1000000)(leaf:Bool)(x:vB)(hx:jbA s=x)(h2:2<=x.size)(h0:x[0].toNat=if leaf then 2 else 0)(h1:x[1].toNat=0) :
  vR 181 #[.string s] w (.tuple #[.string (x.extract 2 x.size),.bool leaf,.bool true]):=by
 go_enter Tryz.func181,Tryz.ntmps181;go_wp2_with fail
 refine vH (joq w s hs) fun w1 e=>?_;rw[hx];clear hx hs;have q:=jbe (s:=x) vO;have H:(0:Int) < (x.size:Int):=vO
 have J:(1:Int) < (x.size:Int):=vO
 have K:(2:Int)<=(x.size:Int):=vO
 have z:(x[1].toNat:Int)=0:=vO
 clear h1;cases leaf with
 | true =>
  have E:(x[0].toNat:Int)=2:=by simp at h0;omega
  clear h0;go_wp2_with fail
  exact bodyPost_ret (v:=.tuple #[.string (x.extract 2 x.size),.bool true,.bool true]) vY rfl ⟨rfl,e.o⟩
 | false =>
  have E:(x[0].toNat:Int)=0:=by simp at h0;omega
  clear h0;go_wp2_with fail
  exact bodyPost_ret (v:=.tuple #[.string (x.extract 2 x.size),.bool false,.bool true]) vY rfl ⟨rfl,e.o⟩
end
section
open Go Go.RowKit
def jav(k:Nat):vM:=List.replicate k ⟨#[]⟩
inductive jcg (I:vB->jae->Prop):jae->Prop
 | none:jcg I jaV
 | leaf (p v:vB):(⟨1,p,v,jav 16⟩:jae).pathOk 0=true->0 < v.size->v.size<=80->jcg I ⟨1,p,v,jav 16⟩
 | ext (p r:vB):(⟨2,p,⟨#[]⟩,r :: jav 15⟩:jae).pathOk 1=true->r.size≠0->(jfH r\/∃ m,I r m/\m.kind=3)->jcg I ⟨2,p,⟨#[]⟩,r :: jav 15⟩
 | branch (v:vB) (rs:vM):rs.length=16->v.size<=80->(∀ r∈rs,r.size≠0->MayP I r)->2<=min v.size 1+(jaE 0 rs).length->jcg I ⟨3,⟨#[]⟩,v,rs⟩
theorem jeC{n:jae}{k:Nat}(h:n.pathOk k=true):k<=n.path.size/\n.path.size<=12/\jaM n.path=true:=by
 simp only[jae.pathOk,cQ,decide_eq_true_eq]at h;exact⟨h.1.1,h.1.2,h.2⟩
theorem jf0:∀ (k i:Nat),jaE i (jav k)=[]
 | 0,_=>rfl
 | k+1,i=>by
  unfold jav;rw[fG];unfold jaE;rw[if_pos (show (⟨#[]⟩:vB).size=0 from rfl)];exact jf0 k (i+1)
section
variable {I:vB->jae->Prop} (HI:InlP I)
include HI
theorem MayP.size{r:vB}(h:MayP I r):r.size<=33:=by
 rcases h with h |⟨m,h⟩
 ·rw[h.size];omega
 ·have:=HI.small r m h;omega
theorem jcg.one{n:jae}(h:jcg I n):joZ n:=by
 have q:(⟨#[]⟩:vB).size=0:=rfl;cases h with
 | none=>exact⟨rfl,by decide,by decide,by decide,rfl,fun r e=>by rw[fV e];decide⟩
 | leaf p v h1 h2 h3 =>
  obtain⟨a,b,c⟩:=jeC h1
  exact⟨by simp[jav],by simp,b,h3,c,fun r e=>by rw[fV e];decide⟩
 | ext p r h1 h2 h3 =>
  obtain⟨a,b,c⟩:=jeC h1
  refine⟨by simp[jav],by simp,b,by show (⟨#[]⟩:vB).size<=80;omega,c,fun x o=>?_⟩
  rcases bK.1 o with rfl | o
  ·exact MayP.size HI (h3.imp id (fun ⟨m,h,_⟩=>⟨m,h⟩))
  ·rw[fV o];decide
 | branch v rs h1 h2 h3 h4 =>
  refine⟨h1,by simp,by show (⟨#[]⟩:vB).size<=12;omega,h2,rfl,fun r e=>?_⟩
  by_cases h0:r.size=0
  ·omega
  ·exact MayP.size HI (h3 r e h0)
theorem jkE(w:vW)(n:jae)(h:jcg I n):vR 120 #[n.V] w (.bool true):=by
 have o:=h.one HI;cases h with
 | none=>exact jkF w jaV o.refs o.kind 155 rfl (vX 155) (fun w=>jym w)
 | leaf p v h2 h3 h4=>exact jkF w _ o.refs o.kind 156 rfl (vX 156) (fun w=>jyi w _ o.refs h2 h3 h4 (by unfold jae.behindN jae.refsL;rw[jf0];rfl))
 | ext p r h2 h3 h4=>exact jkF w _ o.refs o.kind 157 rfl (vX 157) (fun w=>jzk HI w _ r o.refs h2 rfl (by
   have e:jaE 0 (r :: jav 15)=[(0,r)]:=by unfold jaE;rw[if_neg h3,jf0]
   unfold jae.behindN;have q:jae.refsL ⟨2,p,⟨#[]⟩,r :: jav 15⟩=[(0,r)]:=e;rw[q];show jae.ri _ 0+1=1;unfold jae.ri;rw[q];rfl) rfl h4)
 | branch v rs h2 h3 h4 h5=>exact jkF w _ o.refs o.kind 158 rfl (vX 158) (fun w=>jtp HI w _ o.refs rfl h3 h4 h5)
theorem jjq(w:vW)(n:jae)(h:jcg I n):vR 90 #[n.V] w (.tuple #[.string (jaS n),.int .i64 0]):=by
 have E:=h.one HI;have q:=jax (w.alloc (.cells n.cells.toArray 132)) _ n E.refs (Blk.new w _);have H:=Hd h;have O:=Hd E;clear h E;unfold jae.V at q ⊢;go_enter Tryz.func90,Tryz.ntmps90;go_wp2_with (refine jaf 132 (.tmp 1) rfl rfl _ _ rfl q ?_)
 refine vC (jkE HI _ n H.o) fun w1 z=>?_;have Q:=(Blk.new w (.cells n.cells.toArray 132)).keeps z (fun h=>h);have e:=jax w1 _ n O.o.refs Q;have J:=Hd (((ExtR w).alloc _).trans z);unfold jae.V at e;clear q z Q;go_wp2_with (refine jaf 132 (.tmp 1) rfl rfl _ _ rfl e ?_)
 refine vH (jr6 w1 n O.o) fun X z=>?_;have K:=Hd (J.o.trans z);clear e;go_wp2_with fail
 go_ret2
 exact⟨rfl,K.o⟩
end
theorem jjs:∀ (l:vN),l.length % 2=0->(∀ b∈l,b<=15)->jcN (jcM l)=l
 | [],_,_=>rfl
 | [x],h,_=>by simp at h
 | x :: y :: r,h,hb=>by
  have z:=hb x (bF ..);have E:=hb y (bD _ (bF ..));have q:=jjs r (by simp at h;omega) (fun b e=>hb b (bD _ (bD _ e)));show jcN ((x <<< 4 ||| y) :: jcM r)=_;unfold jcN at q ⊢;rw[cE,q];have H:x.toNat<=15:=fT.1 z;have J:y.toNat<=15:=fT.1 E
  have:∀ a b:Fin 16,((UInt8.ofNat a.1 <<< 4 ||| UInt8.ofNat b.1) >>> 4=UInt8.ofNat a.1)/\((UInt8.ofNat a.1 <<< 4 ||| UInt8.ofNat b.1) &&& 15=UInt8.ofNat b.1):=by decide
  have o:=this ⟨x.toNat,by omega⟩ ⟨y.toNat,by omega⟩;simp only[iJ]at o;rw[o.1,o.2];rfl
theorem juq(p:vB)(leaf:Bool)(hv:jaM p=true):jbA (putB p leaf)=⟨(jdT p leaf++p.data.toList).toArray⟩:=by
 unfold jbA putB jbz;rw[jjs]
 ·show (jdT p leaf++p.data.toList).length % 2=0
  rw[bG,show p.data.toList.length=p.size from rfl];unfold jdT oddB
  by_cases h:p.size % 2=1
  ·simp[h];omega
  ·have:(p.size % 2 == 1)=false:=by simpa using h
   rw[this];simp;omega
 ·intro b hb
  have hb:b∈jdT p leaf++p.data.toList:=hb;rcases bO.1 hb with hb | hb
  ·unfold jdT jlf oddB at hb
   rcases bK.1 hb with rfl | hb
   ·cases leaf <;> cases (p.size % 2 == 1) <;> decide
   ·split at hb
    ·cases hb
    ·rw[bS.1 hb];decide
  ·exact of_decide_eq_true (dU.1 hv b hb)
theorem jnW(w:vW)(p:vB)(leaf:Bool)(hs:p.size<=900000)(hv:jaM p=true):vR 181 #[.string (putB p leaf)] w (.tuple #[.string p,.bool leaf,.bool true]):=by
 have o:=juq p leaf hv;have E:=jbR p leaf;have H:∀ a:vU,(⟨(a :: p.data.toList).toArray⟩:vB).extract 1 (⟨(a :: p.data.toList).toArray⟩:vB).size=p:=fun a=>by
  have:=jib ⟨#[a]⟩ p
  have q:(⟨#[a]⟩:vB)++p=⟨(a :: p.data.toList).toArray⟩:=by rw[jtf (_++p),dJ,fR];rfl
  rw[q]at this;exact this
 have J:∀ a b:vU,(⟨(a :: b :: p.data.toList).toArray⟩:vB).extract 2 (⟨(a :: b :: p.data.toList).toArray⟩:vB).size=p:=fun a b=>by
  have:=jib ⟨#[a,b]⟩ p
  have q:(⟨#[a,b]⟩:vB)++p=⟨(a :: b :: p.data.toList).toArray⟩:=by rw[jtf (_++p),dJ,fR];rfl
  rw[q]at this;exact this
 by_cases ho:p.size % 2=1
 ·have e:oddB p=true:=by unfold oddB;simpa using ho
  have z:jdT p leaf=[jlf leaf true]:=by unfold jdT;rw[e];rfl
  rw[z]at o
  have:=jwb w (putB p leaf) vO leaf ⟨(jlf leaf true :: p.data.toList).toArray⟩ o (by show 2<=p.data.toList.length+1;have:p.data.toList.length=p.size:=rfl;omega) (by cases leaf <;> rfl)
  rw[H]at this;exact this
 ·have e:oddB p=false:=by unfold oddB;simpa using ho
  have z:jdT p leaf=[jlf leaf false,0]:=by unfold jdT;rw[e];rfl
  rw[z]at o
  have:=jtV w (putB p leaf) vO leaf ⟨(jlf leaf false :: 0 :: p.data.toList).toArray⟩ o (by show 2<=p.data.toList.length+2;omega) (by cases leaf <;> rfl) rfl
  rw[J]at this;exact this
end
section
open Go Go.RowKit
theorem jaP{P:Program}{fn:Func}{t u:Tmp}{ty:TypeId}(h:fn.results=#[.cell t ty,.tmp u]){tmps:Array vV}{a:Addr}(ha:tmps.getD t undef=.pointer (some a)){w:vW}{v x:vV}(hx:tmps.getD u undef=x)(hl:(loadVar ty a).run P w=.ok v w) :
  (results fn tmps).run P w=.ok (.tuple #[v,x]) w:=by
 have e:tmps[t]?.getD undef=.pointer (some a):=by simpa using ha
 have o:tmps[u]?.getD undef=x:=by simpa using hx
 simp[results,h,e,o,asAddr,bT,Result.andThen,hl]
theorem jaH(W:vW)(b:Nat)(n:jae)(hr:n.refs.length=16)(hB:Blk W b (.cells n.cells.toArray 132)):(loadVar 132 ⟨b,0,none⟩).run Tryz.prog W=.ok n.V W:=by
 have:=jax W b n hr hB
 simpa [Instr.loadAt,Instr.sureAddr,bT,Result.andThen]using this
def jb5(k:Int)(p v:vB)(r:vB):List vV:=[.int .i64 k,.string p,.string v,.string r,.string ⟨#[]⟩,.string ⟨#[]⟩,.string ⟨#[]⟩,.string ⟨#[]⟩,.string ⟨#[]⟩,.string ⟨#[]⟩,.string ⟨#[]⟩,.string ⟨#[]⟩,.string ⟨#[]⟩,.string ⟨#[]⟩,.string ⟨#[]⟩,.string ⟨#[]⟩,.string ⟨#[]⟩,.string ⟨#[]⟩,.string ⟨#[]⟩]
theorem jb6(k:Int)(p v r:vB):∀ x∈jb5 k p v r,x.oneCell'=true:=by simp[jb5,Value.oneCell']
theorem jpL(w:vW)(p v:vB)(hp:p.size<=900000)(hv:v.size<=100000)(hok:jaM p=true):vR 153 #[.string (jaC (putB p true)),.string (jaC v)] w (.tuple #[(⟨1,p,v,jav 16⟩:jae).V,.bool true]):=by
 obtain⟨q,h1,h2⟩:=jej (putB p true) (by have:=jbR p true;omega)
 obtain⟨q',h3,h4⟩:=jej v vO
 have z1:(jaC (putB p true)).size<=1000000000:=by have:=jbR p true;have:=ja1 (putB p true);omega
 have z2:(jaC v).size<=1000000000:=by have:=ja1 v;omega
 have H1:=Hd h1;have H2:=Hd h2;have H3:=Hd h3;have H4:=Hd h4;clear h1 h2 h3 h4;go_enter Tryz.func153,Tryz.ntmps153;go_wp2_with (refine jal Tryz.allocNode rfl rfl ?_;intro W1 E H)
 refine vC (jiu _ _ q z1 H1.o) fun w2 z=>?_;rw[H2.o];have J:=E.keeps z (fun h=>h);have K:=Hd (H.trans z);have O:=Hd J;clear E H z J;unfold optV;simp only;go_wp2_with fail
 refine vC (jnW _ p true hp hok) fun w3 z=>?_;have Q:=Hd (K.o.trans z);have X:=Hd (O.o.keeps z (fun h=>h));clear z K O;go_wp2_with fail
 refine vC (jiu _ _ q' z2 H3.o) fun w4 z=>?_;rw[H4.o];have Z:=Hd (Q.o.trans z);have a0:=X.o.keeps z (fun h=>h);clear z Q X;unfold optV;simp only;go_wp2_with (refine jah (vs:=jb5 1 p v ⟨#[]⟩) rfl rfl rfl rfl a0 rfl Tryz.szNode (jb6 _ _ _ _) ?_;intro W5 a1 a2)
 refine bodyPost_ret (jaP rfl rfl rfl (jaH W5 _ ⟨1,p,v,jav 16⟩ rfl a1)) rfl ?_
 exact⟨rfl,Z.o.trans' a2 (fun x hx e=>by have e:x=w.heap.size:=e;omega)⟩
theorem jsn(w:vW)(p r:vB)(hp:p.size<=900000)(hok:jaM p=true):vR 153 #[.string (jaC (putB p false)),.string r] w (.tuple #[(⟨2,p,⟨#[]⟩,r :: jav 15⟩:jae).V,.bool true]):=by
 obtain⟨q,h1,h2⟩:=jej (putB p false) (by have:=jbR p false;omega)
 have z1:(jaC (putB p false)).size<=1000000000:=by have:=jbR p false;have:=ja1 (putB p false);omega
 have H1:=Hd h1;have H2:=Hd h2;clear h1 h2;go_enter Tryz.func153,Tryz.ntmps153;go_wp2_with (refine jal Tryz.allocNode rfl rfl ?_;intro W1 K O)
 refine vC (jiu _ _ q z1 H1.o) fun w2 z=>?_;rw[H2.o];have Q:=K.keeps z (fun h=>h);have X:=Hd (O.trans z);have Z:=Hd Q;clear K O z Q;unfold optV;simp only;go_wp2_with fail
 refine vC (jnW _ p false hp hok) fun E z=>?_;have a2:=Hd (X.o.trans z);have H:=Hd (Z.o.keeps z (fun h=>h));clear z X Z;go_wp2_with (first |(refine jal Tryz.allocNode rfl rfl ?_;intro W5 a3 a0;refine jah (vs:=jb5 2 p ⟨#[]⟩ ⟨#[]⟩) rfl rfl rfl rfl a3 rfl Tryz.szNode (jb6 _ _ _ _) ?_;intro W6 J a1;have q3:W6.cell? ⟨E.heap.size,3,none⟩=some (.string ⟨#[]⟩):=J.cell (i:=3) vF;have f3:W6.frozen? ⟨E.heap.size,3,none⟩=false:=J.frozen;have a4:=Hd (J.set_same (i:=3) (.string r))) |(refine jaf 132 (.tmp 10) rfl rfl _ _ rfl (jax _ _ ⟨2,p,⟨#[]⟩,r :: jav 15⟩ rfl a4.o) ?_;refine jah (vs:=jae.cells ⟨2,p,⟨#[]⟩,r :: jav 15⟩) rfl rfl rfl rfl (((H.o.keeps a0 (fun h=>h)).keeps a1 (by have:=H.o.lt;omega)).set_other (p:=⟨E.heap.size,3,none⟩) (by have:=H.o.lt;show w.heap.size≠E.heap.size;omega) (.string r)) rfl Tryz.szNode (jae.one _) ?_;intro W8 a5 a6))
 refine bodyPost_ret (jaP rfl rfl rfl (jaH W8 _ ⟨2,p,⟨#[]⟩,r :: jav 15⟩ rfl a5)) rfl ?_;have k1:Ext E (W6.setCell ⟨E.heap.size,3,none⟩ (.string r)):=(a0.trans' a1 (fun x hx e=>by have e:x=E.heap.size:=e;omega)).setCell (.inr (bM _)) _
 exact⟨rfl,(a2.o.trans k1).trans' a6 (fun x hx e=>by have e:x=w.heap.size:=e;omega)⟩
def jbG(rs:vM)(v:vB):vM:=rs.map (fun r=>if r.size=0 then jaC ⟨#[]⟩else r)++[jaC v]
def brN(rs:vM)(k:Nat):jae:=⟨3,⟨#[]⟩,⟨#[]⟩,rs.take k++jav (16 - k)⟩
theorem jqu{rs:vM}(h:rs.length=16){k:Nat}(hk:k<=16):(brN rs k).refs.length=16:=by simp[brN,jav,h];omega
theorem jqv{rs:vM}(h:rs.length=16){k:Nat}(hk:k < 16)(r:vB)(hr:rs[k]?=some r):(brN rs k).cells.set (3+k) (.string r)=(brN rs (k+1)).cells:=by
 have e:(rs.take k++jav (16 - k)).set k r=rs.take (k+1)++jav (16 - (k+1)):=by
  rw[fI _ _ (by simp[h];omega)]
  have:k - (rs.take k).length=0:=by simp[h];omega
  rw[this,show 16 - k=(16 - (k+1))+1 by omega];unfold jav;rw[fG,dI,cB,hr];simp
 unfold jae.cells brN;simp only;rw[show 3+k=k+1+1+1 by omega,dA,dA,dA, <-e,iR]
theorem jto{rs:vM}(h:rs.length=16){k:Nat}(hk:k < 16)(r:vB)(hr:rs[k]?=some r)(h0:r.size=0):brN rs (k+1)=brN rs k:=by
 have e:r=⟨#[]⟩:=by
  obtain⟨⟨l⟩⟩:=r
  cases l with
  | nil=>rfl
  | cons x y=>exact absurd h0 (iB _)
 unfold brN;rw[cB,hr,e,show 16 - k=(16 - (k+1))+1 by omega];unfold jav;rw[fG];simp
def jxc(w:vW)(g2 g4:Nat)(rs:vM)(i:vV)(wr:vW):Prop:=∃ k:Nat,k<=16/\i=.int .i64 k/\Ext w wr/\Blk wr g2 (.cells jaV.cells.toArray 132)/\Blk wr g4 (.cells (brN rs k).cells.toArray 132)
theorem jl1(w:vW)(a:vV)(rs:vM)(v:vB)(hr:rs.length=16)(hv:v.size<=100000)(hne:∀ r∈rs,r.size≠0->r≠jaC ⟨#[]⟩)(ha:RdS w a (jbG rs v)):vR 154 #[a] w (.tuple #[(⟨3,⟨#[]⟩,v,rs⟩:jae).V,.bool true]):=by
 have Q:(jbG rs v).length=17:=by simp[jbG,hr]
 rcases ha with⟨_,_,_,h0⟩ |⟨b,o,c,rfl,hb,hc,hcell⟩
 ·rw[h0]at Q;cases Q
 rw[Q]at hc ⊢;have b5:∀ (k:Nat) r,rs[k]?=some r->w.cell? ⟨b,o+k,none⟩=some (.string (if r.size=0 then jaC ⟨#[]⟩else r)):=fun k r hk=>hcell k _ (by
  unfold jbG;rw[cW (by rw[bZ];exact (bU.1 hk).1),cA,hk];rfl)
 have b6:w.cell? ⟨b,o+16,none⟩=some (.string (jaC v)):=hcell 16 _ (by
  unfold jbG;rw[cV (by rw[bZ];omega),bZ,hr];rfl)
 obtain⟨q,h1,h2⟩:=jej v vO
 have z1:(jaC v).size<=1000000000:=by have:=ja1 v;omega
 have c4:=Hd b5;have c5:=Hd b6;have H1:=Hd h1;have H2:=Hd h2;have X:=Hd hr;have c6:=Hd hne;clear b5 b6 h1 h2 Q hcell hr hne;go_enter Tryz.func154,Tryz.ntmps154;go_wp2_with (first |(refine jal Tryz.allocNode rfl rfl ?_;intro W3 b7 a2;refine jah (vs:=jb5 3 ⟨#[]⟩ ⟨#[]⟩ ⟨#[]⟩) rfl rfl rfl rfl b7 rfl Tryz.szNode (jb6 _ _ _ _) ?_;intro W4 E a3) |(refine jal Tryz.allocNode rfl rfl ?_;intro W1 Z a4))
 have h4:Ext w W4:=(a4.trans a2).trans' a3 (fun x hx e=>by have e:x=W1.heap.size:=e;have:=a4.size;omega);have h5:=(Z.keeps a2 (fun h=>h)).keeps a3 (by have:=Z.lt;omega)
 obtain⟨H,b8⟩:∃ g,g=W1.heap.size:=⟨_,rfl⟩
 obtain⟨g2,b9⟩:∃ g,g=w.heap.size:=⟨_,rfl⟩
 have d0:g2 < H:=by have:=Z.lt;omega
 have n2:w.heap.size<=g2:=vO
 rw[<-b8]at E ⊢;rw[<-b9]at h5 ⊢;have a5:=Hd h4;have J:=Hd E;have H5:=Hd h5;clear b8 b9 h4 h5 E a4 Z b7 a2 a3;go_loopw [9] (fun i wr=>jxc w g2 H rs i wr) (fun i _=>16 - (intOf i).toNat)
 case atStart=>exact⟨0,by omega,rfl,a5.o,H5.o,J.o⟩
 case round =>
  obtain⟨k,hk,rfl,hE,c0,E⟩:=hrel
  have HE:=Hd hE;have a6:=Hd c0;have J:=Hd E;clear hE c0 E
  by_cases hlt:k < 16
  ·obtain⟨r,a0⟩:∃ r,rs[k]?=some r:=⟨_,bA (by have:=X.o;omega)⟩
   have K:=jaa (c4.o k r a0) HE.o;have b1:(k:Int) < 17:=vO
   have b3:r∈rs:=bI a0
   obtain⟨em,a7⟩:=vE (jaC ⟨#[]⟩)
   rw[<-a7]at K;have a8:=Hd a7;have c1:=Hd a0;clear a7 a0
   by_cases h0:r.size=0
   ·rw[if_pos h0]at K
    have QX:=Hd K;clear K;go_wp2_with fail
    refine jai [0,1,2,3,4,5] Ext ExtR ExtT vY vY vY ?_;iterate 3 refine vK ?_
    refine qKL ⟨b,o+k,none⟩ _ rfl (fun w2 h2=>jac Tryz.uStr rfl (jaa (by exact QX.o) h2)) ?_;refine vS ?_;refine qKC _ 97 #[.string ⟨#[]⟩] (.string em) rfl (fun w1=>jaB (vX 97) vY) (fun w1 h1=>by rw[a8.o];exact jdY w1 ⟨#[]⟩ vI) ?_;refine vS ?_
    refine vK ?_
    refine qKE (fun w3 he=>?_);have O:=(jaj wr).trans he;have a9:=Hd (HE.o.trans O);have b0:=Hd (a6.o.keeps O (fun h=>h));have z:=Hd (J.o.keeps O (fun h=>h));clear he O;go_wp2_with fail
    go_roundw
    case rel=>exact⟨k+1,by omega,by go_num,a9.o,b0.o,by rw[jto X.o hlt r c1.o h0];exact z.o⟩
    case measure=>exact vJ
   ·rw[if_neg h0]at K
    have hq:(r.toList == em.toList)=false:=by
     rw[beq_eq_false_iff_ne,bW,bW];intro e;exact c6.o r b3 h0 (by rw[<-a8.o];exact ByteArray.ext (Array.ext' e))
    have QX:=Hd K;clear K;go_wp2_with fail
    refine jai [0,1,2,3,4,5] Ext ExtR ExtT vY vY vY ?_;iterate 3 refine vK ?_
    refine qKL ⟨b,o+k,none⟩ _ rfl (fun w2 h2=>jac Tryz.uStr rfl (jaa (by exact QX.o) h2)) ?_;refine vS ?_;refine qKC _ 97 #[.string ⟨#[]⟩] (.string em) rfl (fun w1=>jaB (vX 97) vY) (fun w1 h1=>by rw[a8.o];exact jdY w1 ⟨#[]⟩ vI) ?_;refine vS ?_
    refine vK ?_
    refine qKE (fun w3 he=>?_);have O:=(jaj wr).trans he;have a9:=Hd (HE.o.trans O);have b0:=Hd (a6.o.keeps O (fun h=>h));have z:=Hd (J.o.keeps O (fun h=>h));have K:=jaa QX.o O
    obtain⟨old,q4⟩:∃ v,w3.cell? ⟨H,3+k,none⟩=some v:=⟨_,z.o.cellL (bA (by rw[jae.cells_len _ (jqu X.o hk)];omega))⟩
    have f4:w3.frozen? ⟨H,3+k,none⟩=false:=z.o.frozen;have b2:(k:Int) < 16:=vO
    clear he O;go_wp2_with fail
    go_roundw
    case rel =>
     refine⟨k+1,by omega,by go_num,a9.o.setCell (.inr (by show w.heap.size<=H;omega)) _,b0.o.set_other (p:=⟨H,3+k,none⟩) (by show g2≠H;omega) _,?_⟩
     have:=z.o.set_same (i:=3+k) (.string r)
     rw[show (brN rs k).cells.toArray.setIfInBounds (3+k) (.string r)=((brN rs k).cells.set (3+k) (.string r)).toArray by simp,jqv X.o hlt r c1.o]at this;exact this
    case measure=>exact vJ
  ·have b4:k=16:=vO
   subst b4;have K:=jaa c5.o HE.o;go_wp2_with fail
   refine vC (jiu _ _ q z1 H1.o) fun w4 hE=>?_;rw[H2.o];have a1:=J.o.keeps hE (fun h=>h);have q4:w4.cell? ⟨H,2,none⟩=some (.string ⟨#[]⟩):=a1.cellL vF;have f4:w4.frozen? ⟨H,2,none⟩=false:=a1.frozen;have z:=Hd (a1.set_same (i:=2) (.string v));have c2:=(a6.o.keeps hE (fun h=>h)).set_other (p:=⟨H,2,none⟩) (by show g2≠H;omega) (.string v);have c7:=Hd c2;have a5:=Hd (HE.o.trans hE);have c3:brN rs 16=⟨3,⟨#[]⟩,⟨#[]⟩,rs⟩:=by unfold brN jav;rw[cD (by have:=X.o;omega)];simp
   rw[c3]at z;have ec:(jae.cells ⟨3,⟨#[]⟩,⟨#[]⟩,rs⟩).toArray.setIfInBounds 2 (.string v)=(jae.cells ⟨3,⟨#[]⟩,v,rs⟩).toArray:=by simp[jae.cells]
   rw[ec]at z;clear hE a1 c2 K ec c3;unfold optV;simp only;go_wp2_with (first |(refine jaf 132 (.tmp 4) rfl rfl _ _ rfl (jax _ _ ⟨3,⟨#[]⟩,v,rs⟩ X.o z.o) ?_) |(refine jah (vs:=jae.cells ⟨3,⟨#[]⟩,v,rs⟩) rfl rfl rfl rfl c7.o (by rw[jae.cells_len ⟨3,⟨#[]⟩,v,rs⟩ X.o];rfl) (by rw[jae.cells_len ⟨3,⟨#[]⟩,v,rs⟩ X.o];exact Tryz.szNode) (jae.one _) ?_;intro W8 c8 c9))
   refine bodyPost_ret (jaP rfl rfl rfl (jaH W8 _ ⟨3,⟨#[]⟩,v,rs⟩ X.o c8)) rfl ?_
   exact⟨rfl,(a5.o.setCell (.inr (by show w.heap.size<=H;omega)) _).trans' c9 (fun x hx e=>by have e:x=g2:=e;omega)⟩
theorem jez(xs:vM)(hn:(catB xs).size<=1048576):jbY xs≠jaC ⟨#[]⟩:=by
 intro e
 obtain⟨o,q,_⟩:=jeT xs hn
 obtain⟨E,z,_⟩:=jk7 ⟨#[]⟩ vI
 rw[e,z]at q;cases q
theorem jmc{a b:vB}(h:a≠b):(a.toList == b.toList)=false:=by
 rw[beq_eq_false_iff_ne,bW,bW];exact fun e=>h (ByteArray.ext (Array.ext' e))
theorem jid(s:vB):s.extract s.size s.size=⟨#[]⟩:=by
 apply ByteArray.ext;apply Array.ext';simp
theorem jec(xs:vM):(jbY xs).size<=(catB xs).size+9:=by
 unfold jbY;rw[cO];have:=jea 192 (catB xs).size;omega
theorem jpN(w:vW):vR 119 #[.string (jaC ⟨#[]⟩)] w (.tuple #[jaV.V,.bool true]):=by
 obtain⟨Z,q⟩:=vE (jaC ⟨#[]⟩)
 rw[<-q];have H:=Hd q;clear q;go_enter Tryz.func119,Tryz.ntmps119;go_wp2_with (refine jal Tryz.allocNode rfl rfl ?_;intro W1 z E)
 refine vC (jdY _ ⟨#[]⟩ vI) fun w2 J=>?_;rw[<-H.o];have K:=z.keeps J (fun h=>h);have O:=Hd (E.trans J);clear z E J;go_wp2_with (refine jah (vs:=jaV.cells) rfl rfl rfl rfl K rfl Tryz.szNode (jae.one _) ?_;intro W8 Q X)
 refine bodyPost_ret (jaP rfl rfl rfl (jaH W8 _ jaV rfl Q)) rfl ?_
 exact⟨rfl,O.o.trans' X (fun x hx e=>by have e:x=w.heap.size:=e;omega)⟩
theorem jkJ{P:Program}{o:Oper}{a:Act}{w:vW}{K:Act->vW->Prop}{Q:Exit->Act->vW->Prop}{T T2:TypeId}{x y:Operand}{b:Nat}{old vs:List vV}(ho:o.op=.store T x y)(hx:a.eval x=.pointer (some ⟨b,0,none⟩))(hy:a.eval y=.agg vs.toArray)
  (hB:Blk w b (.cells old.toArray T2)) (hl:old.length=vs.length) (hi:(P.info? T).map (·.size)=some vs.length) (h1:∀ v∈vs,v.oneCell'=true)
  (h:∀ W,Blk W b (.cells vs.toArray T2)->jad (fun z=>z=b) w W->K (a.put o.dst undef) W):o.wp P a w K Q:=by
 refine wp_store_mid T x y ho b 0 vs.toArray hx hy (by have:=jkA hB;rw[hl]at this;simpa using this) (by simpa using hi) (all_oneCell_toArray h1) (h _ ?_ (jad.oneSetCells b vs 0 w))
 have:=Blk.setCells vs 0 w old hB vO
 rw[iS vO]at this;simpa using this
theorem jl2(w:vW)(x y:vB)(n:jae)(hr:n.refs.length=16)(hx:jf9 x)(hy:jf9 y)(hs:x.size+y.size<=1048576)
  (hc:∀ w,vR 153 #[.string x,.string y] w (.tuple #[n.V,.bool true])) :
  vR 119 #[.string (jbY [x,y])] w (.tuple #[n.V,.bool true]):=by
 have E:(catB [x,y]).size=x.size+y.size:=by rw[jby,jby,jdP];omega
 obtain⟨o,q,h2,h3⟩:=jeT [x,y] vO
 have H:=jec [x,y]
 obtain⟨em,J⟩:=vE (jaC ⟨#[]⟩)
 have Z:=jmc (jez [x,y] vO)
 obtain⟨s,a0⟩:=vE (jbY [x,y])
 obtain⟨c,O⟩:=vE (catB [x,y])
 rw[<-a0]at q h2 h3 H Z ⊢;rw[<-O]at q h2 h3 H E;rw[<-J]at Z;have HS:=Hd (show s.size<=1000000000 by omega);have H1:=Hd q;have H3:=Hd h3;have b4:=Hd J;have a1:=Hd O;have b5:=Hd E;have H2:=Hd h2;have HR:=Hd hr;have HC:=Hd hc;clear q h2 h3 H a0 O J E hr hc;go_enter Tryz.func119,Tryz.ntmps119;go_wp2_with (refine jal Tryz.allocNode rfl rfl ?_;intro W1 a2 a3)
 refine vC (jdY _ ⟨#[]⟩ vI) fun w2 Q=>?_;rw[<-b4.o];have a4:=Hd (a2.keeps Q (fun h=>h));have a5:=Hd (a3.trans Q);clear a2 a3 Q;go_wp2_with fail
 refine vC (jng _ s _ HS.o H1.o) fun w3 Q=>?_;simp only;rw[H3.o,H2.o,jid];have a6:=Hd (a4.o.keeps Q (fun h=>h));have a7:=Hd (a5.o.trans Q);clear Q a5 a4;go_wp2_with fail
 rw[a1.o];refine (jrq w3 [x,y] (by intro z hz;rcases bK.1 hz with rfl | hz;exact hx;rw[bS.1 hz];exact hy) (by rw[<-a1.o,b5.o];omega) (show 2<=1000000 by decide)).mono ?_;rintro e w4 ⟨v,rfl,hv⟩;have a8:=Hd (a6.o.keeps hv.ext (fun h=>h));have a9:=Hd (a7.o.trans hv.ext);rcases hv.rd with⟨_,_,_,h0⟩ |⟨b,o2,c2,rfl,hb,hc,hcell⟩
 ·cases h0
 have QX:=Hd (hcell 0 x rfl);have QY:=Hd (hcell 1 y rfl);clear hv hcell a7 a6;go_wp2_with fail
 refine jar [0,1,2,3,4,5,6,7,8,9,10] [9] Ext ExtR ExtT vY vY vY ?_;iterate 2 refine vP ?_
 refine qL ⟨b,o2,none⟩ _ rfl (fun w1 q=>jac Tryz.uStr rfl (jaa (by exact QX.o) q)) ?_;refine vS ?_;iterate 2 refine vP ?_
 refine qL ⟨b,o2+1,none⟩ _ rfl (fun w1 q=>jac Tryz.uStr rfl (jaa (by exact QY.o) q)) ?_;refine vS ?_;refine jc5 _ 153 #[.string x,.string y] (.tuple #[n.V,.bool true]) rfl vY rfl (fun w1=>jaB (vX 153) vY) (fun w1 q=>HC.o w1) ?_;refine vS ?_;iterate 2 refine vP ?_
 refine qH _ rfl (fun w5 X K hK=>?_);have hX:=(jaj w4).trans X;refine jkJ (vs:=n.cells) rfl rfl rfl (a8.o.keeps hX (fun h=>h)) (by rw[n.cells_len HR.o];rfl) (by rw[n.cells_len HR.o];exact Tryz.szNode) n.one ?_;intro W6 b0 b1;have b2:=Hd b0;have b3:=Hd ((a9.o.trans hX).trans' b1 (fun x hx e=>by have e:x=w.heap.size:=e;omega));clear X hX b0 b1 QX QY a8 a9;refine vS ?_;refine hK _ _ ?_;clear hK K
 refine vP ?_
 refine qE (fun w7 X=>?_);have b6:=Hd (b2.o.keeps X (fun h=>h));have b7:=Hd (b3.o.trans X);clear X b2 b3;go_wp2_with fail
 refine bodyPost_ret (jaP rfl rfl rfl (jaH w7 _ n HR.o b6.o)) rfl ?_
 exact⟨rfl,b7.o⟩
theorem jpM(w:vW)(xs:vM)(n:jae)(hr:n.refs.length=16)(hl:xs.length=17)(hx:∀ x∈xs,jf9 x)(hs:(catB xs).size<=1048576)
  (hc:∀ w v,RdS w v xs->vR 154 #[v] w (.tuple #[n.V,.bool true])) :
  vR 119 #[.string (jbY xs)] w (.tuple #[n.V,.bool true]):=by
 obtain⟨o,h1,h2,h3⟩:=jeT xs hs
 have E:=jec xs
 obtain⟨em,H⟩:=vE (jaC ⟨#[]⟩)
 have O:=jmc (jez xs hs)
 obtain⟨s,Q⟩:=vE (jbY xs)
 obtain⟨c,J⟩:=vE (catB xs)
 rw[<-Q]at h1 h2 h3 E O ⊢;rw[<-J]at h1 h2 h3 E hs;rw[<-H]at O;have HS:=Hd (show s.size<=1000000000 by omega);have H1:=Hd h1;have H3:=Hd h3;have a7:=Hd H;have X:=Hd J;have a8:=Hd hs;have HL:=Hd hl;have H2:=Hd h2;have HR:=Hd hr;have HC:=Hd hc;clear h1 h2 h3 E Q J H hs hr hc hl;go_enter Tryz.func119,Tryz.ntmps119;go_wp2_with (refine jal Tryz.allocNode rfl rfl ?_;intro W1 Z a0)
 refine vC (jdY _ ⟨#[]⟩ vI) fun w2 q=>?_;rw[<-a7.o];have a1:=Hd (Z.keeps q (fun h=>h));have a2:=Hd (a0.trans q);clear Z a0 q;go_wp2_with fail
 refine vC (jng _ s _ HS.o H1.o) fun w3 q=>?_;simp only;rw[H3.o,H2.o,jid];have a3:=Hd (a1.o.keeps q (fun h=>h));have a4:=Hd (a2.o.trans q);clear q a2 a1;go_wp2_with fail
 rw[X.o];refine (jrq w3 xs hx (by rw[<-X.o];have:=a8.o;omega) (by have:=HL.o;omega)).mono ?_;rintro e w4 ⟨v,rfl,hv⟩;have a5:=Hd (a3.o.keeps hv.ext (fun h=>h));have a6:=Hd (a4.o.trans hv.ext);have K:=hv.rd;rcases hv.sl with⟨ad,cp,rfl⟩;rw[HL.o]at K ⊢;have z:=HC.o w4 _ K;have a9:=Hd z;clear hv a4 a3 K z;go_wp2_with fail
 refine a9.o.mono ?_;rintro e w5 ⟨rfl,q⟩;have b0:=Hd (a6.o.trans q);have b1:=a5.o.keeps q (fun h=>h);clear q a6 a5;unfold jae.V;go_wp2_with (refine jah (vs:=n.cells) rfl rfl rfl rfl b1 (by rw[n.cells_len HR.o];rfl) (by rw[n.cells_len HR.o];exact Tryz.szNode) n.one ?_;intro W8 b2 b3)
 refine bodyPost_ret (jaP rfl rfl rfl (jaH W8 _ n HR.o b2)) rfl ?_
 exact⟨rfl,b0.o.trans' b3 (fun x hx e=>by have e:x=w.heap.size:=e;omega)⟩
end
section
open Go Go.RowKit
theorem jnQ:∀ (l:vM) (i:Nat) (m:vM) (j:Nat),i+l.length<=m.length ->
  ((jaE i l).foldl (fun l x=>l.set x.1 x.2) m)[j]?=if i<=j/\j < i+l.length/\(l.getD (j - i) ⟨#[]⟩).size≠0 then some (l.getD (j - i) ⟨#[]⟩)else m[j]?
 | [],i,m,j,_=>by
  rw[if_neg (fun h=>by have K:=h.1;have o:=h.2.1;rw[dM]at o;omega)];rfl
 | r :: l,i,m,j,h=>by
  unfold jaE;simp only[bQ]at h ⊢;have E:∀ (z:vM),z.length=m.length->(∀ k,k≠i->z[k]?=m[k]?)->((jaE (i+1) l).foldl (fun l x=>l.set x.1 x.2) z)[j]?=if i<=j/\j < i+(l.length+1)/\((r :: l).getD (j - i) ⟨#[]⟩).size≠0/\j≠i then some ((r :: l).getD (j - i) ⟨#[]⟩)else z[j]?:=by
   intro z J H;rw[jnQ l (i+1) z j vO]
   by_cases hj:i+1<=j
   ·have e:(r :: l).getD (j - i) ⟨#[]⟩=l.getD (j - (i+1)) ⟨#[]⟩:=by
     rw[show j - i=(j - (i+1))+1 by omega,List.getD_cons_succ]
    rw[e]
    by_cases o:j < i+1+l.length/\(l.getD (j - (i+1)) ⟨#[]⟩).size≠0
    ·rw[if_pos ⟨hj,o.1,o.2⟩,if_pos ⟨by omega,by omega,o.2,by omega⟩]
    ·rw[if_neg (fun q=>o q.2),if_neg (fun q=>o ⟨by omega,q.2.2.1⟩)]
   ·rw[if_neg (fun q=>hj q.1),if_neg (fun q=>hj vO)]
  split
  ·rename_i h0
   rw[E m rfl (fun _ _=>rfl)]
   by_cases hj:j=i
   ·subst hj
    rw[if_neg (fun q=>q.2.2.2 rfl),if_neg (fun q=>q.2.2 (by rw[Nat.sub_self];exact h0))]
   ·by_cases o:i<=j/\j < i+(l.length+1)/\((r :: l).getD (j - i) ⟨#[]⟩).size≠0
    ·rw[if_pos ⟨o.1,o.2.1,o.2.2,hj⟩,if_pos o]
    ·rw[if_neg (fun q=>o ⟨q.1,q.2.1,q.2.2.1⟩),if_neg o]
  ·rename_i h0
   rw[dZ,E (m.set i r) (by simp) (fun k H=>List.getElem?_set_ne (Ne.symm H))]
   by_cases hj:j=i
   ·subst hj
    rw[if_neg (fun q=>q.2.2.2 rfl),if_pos ⟨bM _,by omega,by rw[Nat.sub_self];exact h0⟩,Nat.sub_self];rw[List.getElem?_set_self vO];rfl
   ·rw[List.getElem?_set_ne (Ne.symm hj)]
    by_cases o:i<=j/\j < i+(l.length+1)/\((r :: l).getD (j - i) ⟨#[]⟩).size≠0
    ·rw[if_pos ⟨o.1,o.2.1,o.2.2,hj⟩,if_pos o]
    ·rw[if_neg (fun q=>o ⟨q.1,q.2.1,q.2.2.1⟩),if_neg o]
theorem jfj(n:jae)(hr:n.refs.length=16):jbM n=jbG n.refs n.value:=by
 apply List.ext_getElem?;intro j;unfold jbM jdZ jbG;rw[cD (bM _)];unfold jae.refsL;have q:((jaE 0 n.refs).foldl (fun l x=>l.set x.1 x.2) (List.replicate 17 (jaC ⟨#[]⟩))).length=17:=by
  have:=jhO n n.refsL.length
  unfold jdZ at this;rw[cD (bM _)]at this;exact this
 by_cases h16:j=16
 ·subst h16
  rw[List.getElem?_set_self (by rw[q];omega),cV (by rw[bZ,hr];omega),bZ,hr];rfl
 ·rw[List.getElem?_set_ne vO,jnQ n.refs 0 _ j (by rw[hr,List.length_replicate];omega),hr]
  by_cases hj:j < 16
  ·have o:j < n.refs.length:=vO
   rw[cW (by rw[bZ];exact o),cA,bA o];have e:n.refs.getD (j - 0) ⟨#[]⟩=n.refs[j]:=by rw[bH,Nat.sub_zero,bA o];rfl
   rw[e]
   by_cases h0:n.refs[j].size=0
   ·rw[if_neg (fun z=>z.2.2 h0),List.getElem?_replicate,if_pos vO,gB,if_pos h0]
   ·rw[if_pos ⟨by omega,by omega,h0⟩,gB,if_neg h0]
  ·rw[if_neg (fun z=>hj vO),List.getElem?_replicate,if_neg vO,iY (by simp[hr];omega)]
section
variable {I:vB->jae->Prop} (HI:InlP I)
include HI
theorem MayP.item{r:vB}(h:MayP I r):jf9 r:=by
 rcases h with⟨h,h1,rfl⟩ |⟨m,hm⟩
 ·exact jcW h vO
 ·obtain⟨xs,rfl,e⟩:=HI.list r m hm
  exact jmT xs e
theorem MayP.ne{r:vB}(h:MayP I r):r≠jaC ⟨#[]⟩:=by
 rcases h with h |⟨m,hm⟩
 ·intro e
  have:=h.size
  rw[e]at this;exact absurd this vI
 ·obtain⟨xs,rfl,o⟩:=HI.list r m hm
  exact jez xs o
theorem jwF(w:vW)(n:jae)(h:jcg I n):vR 119 #[.string (jaS n)] w (.tuple #[n.V,.bool true]):=by
 have E:=h.one HI;have H:=jdO n E;cases h with
 | none=>exact jpN w
 | leaf p v h2 h3 h4 =>
  obtain⟨a,b,c⟩:=jeC h2
  have O:=jbR p true;have Q:=ja1 (putB p true);have X:=ja1 v;simp only at b;exact jl2 w (jaC (putB p true)) (jaC v) _ E.refs (jcW _ vO) (jcW _ vO) vO (fun w=>jpL w p v vO vO c)
 | ext p r h2 h3 h4 =>
  obtain⟨a,b,c⟩:=jeC h2
  have O:=jbR p false;have Q:=ja1 (putB p false);simp only at b;have K:MayP I r:=h4.imp id (fun ⟨m,h,_⟩=>⟨m,h⟩);have X:=K.size HI;exact jl2 w (jaC (putB p false)) r _ E.refs (jcW _ vO) (K.item HI) vO (fun w=>jsn w p r vO c)
 | branch v rs h2 h3 h4 h5 =>
  have e:jbM ⟨3,⟨#[]⟩,v,rs⟩=jbG rs v:=jfj _ h2;have o:∀ x∈jbG rs v,jf9 x:=by
   intro x q;unfold jbG at q;rcases bO.1 q with q | q
   ·obtain⟨r,J,rfl⟩:=bC.1 q
    by_cases z:r.size=0
    ·rw[if_pos z];exact jcW _ vI
    ·rw[if_neg z];exact (h4 r J z).item HI
   ·rw[bS.1 q];exact jcW _ vO
  show vQ _ #[.string (jbY (jbM ⟨3,⟨#[]⟩,v,rs⟩))] w _;rw[e]at H ⊢;exact jpM w (jbG rs v) _ h2 (by simp[jbG,h2]) o vO (fun w a Z=>jl1 w a rs v h2 vO (fun r J z=>(h4 r J z).ne HI) Z)
end
end
section
open Go Go.RowKit
theorem jpE(n:jae)(h:joZ n):(jaS n).size<=2000:=by
 unfold jaS;have E:=h.path;have H:=h.value;split
 ·exact bL (ja1 _) vI
 ·split
  ·have o:=jbR n.path true
   have q:=ja1 (putB n.path true);have J:=ja1 n.value;have e:=jec [jaC (putB n.path true),jaC n.value];rw[jby,jby,jdP]at e;unfold jlw;omega
  ·split
   ·have o:=jbR n.path false
    have q:=ja1 (putB n.path false);have e:=jec [jaC (putB n.path false),n.refs.getD 0 ⟨#[]⟩];rw[jby,jby,jdP]at e;have K:(n.refs.getD 0 ⟨#[]⟩).size<=33:=h.each _ (by
     rw[bH,bA (by rw[h.refs];omega)];exact fC _)
    unfold extB;omega
   ·have z:=jdO n h
    have e:=jec (jbM n);unfold jeQ;omega
theorem jjp(n:jae)(h:joZ n)(hk:n.kind≠0):∃ xs,jaS n=jbY xs/\(catB xs).size<=1048576:=by
 have q:=h.path;have z:=h.value;unfold jaS;rw[if_neg hk];split
 ·have e:=jbR n.path true
  have o:=ja1 (putB n.path true);have E:=ja1 n.value
  exact⟨_,rfl,by rw[jby,jby,jdP];omega⟩
 ·split
  ·have e:=jbR n.path false
   have o:=ja1 (putB n.path false);have H:(n.refs.getD 0 ⟨#[]⟩).size<=33:=h.each _ (by
    rw[bH,bA (by rw[h.refs];omega)];exact fC _)
   exact⟨_,rfl,by rw[jby,jby,jdP];omega⟩
  ·exact⟨_,rfl,by have:=jdO n h;omega⟩
section
variable {I:vB->jae->Prop} (HI:InlP I)
include HI
theorem jjh(w:vW)(n:jae)(h:jcg I n):vR 79 #[.string (jaS n)] w (.tuple #[n.V,.int .i64 0]):=by
 have h1:=h.one HI
 obtain⟨s,hs⟩:=vE (jaS n)
 rw[<-hs];have HS:=Hd hs;have H:=Hd h;have J:=Hd h1;have HL:=Hd (n.cells_len h1.refs);clear h h1 hs;go_enter Tryz.func79,Tryz.ntmps79;go_wp2_with (refine jal Tryz.allocNode rfl rfl ?_;intro W1 K O)
 rw[HS.o];refine vC (jwF HI W1 n H.o) fun w2 q=>?_;rw[<-HS.o];have a3:=Hd (K.keeps q (fun h=>h));have a4:=Hd (O.trans q);clear K O q;unfold jae.V;go_wp2_with (first |(refine jal Tryz.allocNode rfl rfl ?_;intro W3 Q X;refine jah (vs:=n.cells) rfl rfl rfl rfl Q (by rw[HL.o];rfl) (by rw[HL.o];exact Tryz.szNode) n.one ?_;intro W4 z Z) |(refine jaf 132 (.tmp 4) rfl rfl _ _ rfl (jax _ _ n J.o.refs z) ?_))
 have a1:Ext w2 W4:=X.trans' Z (fun x hx e=>by have e:x=w2.heap.size:=e;omega);refine vC (jkE HI W4 n H.o) fun w5 q=>?_;have E:=z.keeps q (fun h=>h);have a5:=Hd E;have HX:=Hd (a1.trans q);clear Q X z Z a1 q;go_wp2_with (refine jaf 132 (.tmp 4) rfl rfl _ _ rfl (jax _ _ n J.o.refs E) ?_)
 refine vC (jr6 w5 n J.o) fun w6 q=>?_;rw[<-HS.o];have a6:=a5.o.keeps q (fun h=>h);have a2:=HX.o.trans q;have a0:=a3.o.keeps a2 (fun h=>h);clear E q;go_wp2_with (first |(refine jaf 132 (.tmp 4) rfl rfl _ _ rfl (jax _ _ n J.o.refs a6) ?_) |(refine jah (vs:=n.cells) rfl rfl rfl rfl a0 (by rw[HL.o];rfl) (by rw[HL.o];exact Tryz.szNode) n.one ?_;intro W8 a7 a8))
 refine bodyPost_ret (jaP rfl rfl rfl (jaH W8 _ n J.o.refs a7)) rfl ?_
 exact⟨rfl,(a4.o.trans a2).trans' a8 (fun x hx e=>by have e:x=w.heap.size:=e;omega)⟩
theorem jro(w:vW)(n:jae)(h:jcg I n)(hk:n.kind≠0)(hsm:(jaS n).size < 32):vR 88 #[.string (jaS n)] w (.tuple #[n.V,.bool true]):=by
 have Z:=h.one HI
 obtain⟨s,hs⟩:=vE (jaS n)
 rw[<-hs]at hsm ⊢;have c1:¬(32:Int)<=(s.size:Int):=vO
 have c2:((n.kind:Int) == 0)=false:=by simp;omega
 have c3:¬(n.kind:Int)=0:=vO
 have HS:=Hd hs;have H:=Hd h;have H1:=Hd Z;have X:=Hd (n.cells_len Z.refs);clear h Z hs hk;go_enter Tryz.func88,Tryz.ntmps88;go_wp2_with (refine jal Tryz.allocNode rfl rfl ?_;intro W1 q z)
 rw[HS.o];refine vC (jjh HI W1 n H.o) fun w2 hE=>?_;rw[<-HS.o];have E:=q.keeps hE (fun h=>h);have a0:=Hd (z.trans hE);clear q z hE;unfold jae.V;go_wp2_with (first |(refine jal Tryz.allocNode rfl rfl ?_;intro W3 a1 J;refine jah (vs:=n.cells) rfl rfl rfl rfl a1 (by rw[X.o];rfl) (by rw[X.o];exact Tryz.szNode) n.one ?_;intro W4 K O;have q0:W4.cell? ⟨w2.heap.size,0,none⟩=some (.int .i64 (n.kind:Int)):=K.cellL vF;have Q:=(E.keeps J (fun h=>h)).keeps O (by have:=E.lt;omega)) |(refine jaf 132 (.tmp 4) rfl rfl _ _ rfl (jax _ _ n H1.o.refs K) ?_) |(refine jah (vs:=n.cells) rfl rfl rfl rfl Q (by rw[X.o];rfl) (by rw[X.o];exact Tryz.szNode) n.one ?_;intro W8 a2 a3))
 refine bodyPost_ret (jaP rfl rfl rfl (jaH W8 _ n H1.o.refs a2)) rfl ?_;have a4:Ext w2 W4:=J.trans' O (fun x hx e=>by have e:x=w2.heap.size:=e;omega)
 exact⟨rfl,(a0.o.trans a4).trans' a3 (fun x hx e=>by have e:x=w.heap.size:=e;omega)⟩
end
def InlD:Nat->vB->jae->Prop
 | 0,_,_=>False
 | d+1,r,m=>jcg (InlD d) m/\r=jaS m/\r.size < 32/\m.kind≠0
theorem inlP:∀ d,InlP (InlD d)
 | 0=>⟨fun _ _ h=>h.elim,fun _ _ h=>h.elim,fun _ _ h=>h.elim,fun _ _ h=>h.elim,fun _ _ h=>h.elim,fun _ _ h=>h.elim⟩
 | d+1=>by
  have z:=inlP d;have E:∀ r m,InlD (d+1) r m->∃ xs,r=jbY xs/\(catB xs).size<=1048576:=fun r m ⟨H,J,K,O⟩=>by
   obtain⟨xs,e,q⟩:=jjp m (H.one z) O
   exact⟨xs,J.trans e,q⟩
  refine⟨fun r m h=>(h.1.one z).refs,fun r m h=>h.2.2.1,fun r m h=>?_,E,fun r m h=>?_,fun r m h w=>?_⟩
  ·obtain⟨xs,e,q⟩:=E r m h
   obtain⟨o,Q,_⟩:=jeT xs q
   rw[e]
   have:=(jjV Q).1
   omega
  ·obtain⟨xs,e,q⟩:=E r m h
   rw[e];exact jlp xs q
  ·obtain⟨H,J,K,O⟩:=h
   rw[J]at K ⊢;exact jro z w m H O K
end
end Go.Proofs.YtmobgkphhbmhbaaGreatDoor
