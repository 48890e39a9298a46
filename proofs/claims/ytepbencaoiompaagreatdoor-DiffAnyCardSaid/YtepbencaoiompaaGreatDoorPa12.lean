/- Lemmas; each is under no condition but those that it states. -/
import Derived.Test.YtepbencaoiompaaGreatDoorPa11
import Derived.RangeFuncCalls
namespace Go.Proofs.YtepbencaoiompaaGreatDoor
set_option linter.unusedSimpArgs false
set_option linter.unusedVariables false
set_option maxRecDepth 100000
set_option maxHeartbeats 16000000
section
open Go Go.RowKit
attribute [local go_sem] Oper.semAt_some
theorem Tryz.allocNode:∀ w,(Instr.alloc 99 true (.tuple #[])).run Tryz.prog w=.ok (.pointer (some ⟨w.heap.size,0,none⟩)) (w.alloc (.cells jak.cells.toArray 99)):=fun w=>by kernel_rfl
theorem jad.one(n:jad):∀ v∈n.cells,v.oneCell'=true:=by
 intro v e;simp only[jad.cells,bM,bI]at e;rcases e with rfl | rfl | rfl |⟨_,_,rfl⟩ <;> rfl
def jf2(r:vB):Prop:=∃ h:vB,h.size=32/\r=jaz h
theorem jf2.size{r:vB}(h:jf2 r):r.size=33:=by
 obtain⟨h,e,rfl⟩:=h
 unfold jaz;rw[if_neg vO,cC,e];rfl
theorem jf2.known{r:vB}(hh:jf2 r):r.size<=1000000000/\∃ h q,cutN r=some q/\jfm r q=some h:=by
 have E:=hh.size
 obtain⟨h,o,e⟩:=hh
 obtain⟨q,z,A⟩:=jdr h o
 exact⟨by omega,h,q,by rw[e];exact z,by rw[e];exact A⟩
structure InlP(I:vB->jad->Prop):Prop where
 refs:∀ r m,I r m->m.refs.length=16
 small:∀ r m,I r m->r.size < 32
 pos:∀ r m,I r m->r.size≠0
 list:∀ r m,I r m->∃ xs,r=jcm xs/\(catB xs).size<=1048576
 nohash:∀ r m,I r m->∃ q,cutN r=some q/\jfm r q=none
 inl:∀ r m,I r m->∀ w,vR 52 #[.string r] w (.tuple #[m.V,.bool true])
section
variable {I:vB->jad->Prop} (HI:InlP I)
def MayP(I:vB->jad->Prop)(r:vB):Prop:=jf2 r\/∃ m,I r m
include HI
theorem jAF(w:vW)(r:vB)(hr:MayP I r):vR 138 #[.string r] w (.bool true):=by
 rcases hr with hh |⟨m,hm⟩
 ·obtain⟨hs,h,q,z,A⟩:=hh.known
  have H:=Hd z;have J:=Hd A;clear z A hh;go_enter Tryz.func138,Tryz.ntmps138;go_wp2_with fail
  refine vH (jdE w r q vO H.o) fun w1 K=>?_;rw[J.o];unfold optV;simp only;go_wp2_with fail
  go_ret
  exact⟨rfl,K.o⟩
 ·have hs:=HI.small r m hm
  obtain⟨q,z,A⟩:=HI.nohash r m hm
  have HC:=Hd (HI.inl r m hm);have E:=Hd (HI.refs r m hm);have H:=Hd z;have J:=Hd A;clear z A;go_enter Tryz.func138,Tryz.ntmps138;go_wp2_with fail
  refine vH (jdE w r q vO H.o) fun w1 K=>?_;rw[J.o];unfold optV;simp only;go_wp2_with fail
  refine vH (HC.o w1) fun w2 O=>?_;have Q:=Hd (K.o.trans O);unfold jad.V;go_wp2_with (refine jah Tryz.allocNode rfl rfl ?_;intro W3 hB X;refine jae (vs:=m.cells) rfl rfl rfl rfl hB (by rw[m.cells_len E.o];rfl) (by rw[m.cells_len E.o];exact Tryz.szNode) m.one ?_;intro W4 a1 Z)
  have a0:Ext w2 W4:=X.trans' Z (fun x hx e=>by have e:x=w2.heap.size:=e;omega);go_ret
  exact⟨rfl,Q.o.trans a0⟩
theorem jBQ(w:vW)(n:jad)(r:vB)(hr:n.refs.length=16)(hp:n.pathOk 1=true)(h0:n.value=⟨#[]⟩)(hb:n.behindN=1)(H:n.refs[0]?=some r)(hm:jf2 r\/∃ m,I r m/\m.kind=3):vR 111 #[n.V] w (.bool true):=by
 have a0:n.path.size<=1000000:=by
  simp only[jad.pathOk,cI,decide_eq_true_eq]at hp;omega
 have J:=jb4 w n hr;have e2:n.cells[2]?=some (.string ⟨#[]⟩):=by rw[<-h0];rfl
 have e3:n.cells[3]?=some (.string r):=by
  show (n.refs.map Value.string)[0]?=_;rw[cA,H];rfl
 have HP:=Hd hp;have HB:=Hd hb;have E3:=Hd e3;clear hp hb h0 H e3;unfold jad.V at J ⊢;go_enter Tryz.func111,Tryz.ntmps111;go_wp2_with (refine jaf 147 (.tmp 1) rfl rfl _ _ rfl J ?_)
 refine vC (jfs _ n hr 1 a0) fun w1 z=>?_;rw[HP.o];have Z:=(Blk.new w (.cells n.cells.toArray 147)).keeps z (fun h=>h);have q2:=Z.cellL e2;have A:=jbx w1 _ n hr Z;have K:=Hd (((ExtR w).alloc _).trans z);have O:=Hd Z;unfold jad.V at A;clear J z Z;go_wp2_with (refine jaf 147 (.tmp 1) rfl rfl _ _ rfl A ?_)
 refine vC (jhZ _ n hr) fun w2 z=>?_;rw[HB.o];have B2:=O.o.keeps z (fun h=>h);have E:=Hd (K.o.trans z);have q3:=B2.cellL E3.o;have a1:=Hd B2;clear A z q2 B2 O K;rcases hm with hh |⟨m,hm,hk⟩
 ·obtain⟨hs,h,q,H,Q⟩:=hh.known
  have H3:=Hd H;have H4:=Hd Q;clear H Q hh;go_wp2_with fail
  refine vH (jdE w2 r q hs H3.o) fun w3 z=>?_;rw[H4.o];have HE:=Hd (E.o.trans z);unfold optV;simp only;go_wp2_with fail
  go_ret
  exact⟨rfl,HE.o⟩
 ·have hs:=HI.small r m hm
  obtain⟨q,H,Q⟩:=HI.nohash r m hm
  have HC:=Hd (HI.inl r m hm);have X:=Hd (HI.refs r m hm);have H3:=Hd H;have H4:=Hd Q;have HK:=Hd hk;clear H Q hk;go_wp2_with fail
  refine vC (jdE w2 r q vO H3.o) fun w3 z=>?_;rw[H4.o];have B3:=a1.o.keeps z (fun h=>h);have HE:=Hd (E.o.trans z);have a2:=B3.cellL E3.o;clear z q3 B3;unfold optV;simp only;go_wp2_with fail
  refine vH (HC.o w3) fun w4 a3=>?_;have E:=Hd (HE.o.trans a3);clear a2;unfold jad.V;go_wp2_with (refine jah Tryz.allocNode rfl rfl ?_;intro W3 hB a4;refine jae (vs:=m.cells) rfl rfl rfl rfl hB (by rw[m.cells_len X.o];rfl) (by rw[m.cells_len X.o];exact Tryz.szNode) m.one ?_;intro W4 a5 a6;have q0:W4.cell? ⟨w4.heap.size,0,none⟩=some (.int .i64 3):=a5.cellL (by show some (Value.int .i64 (m.kind:Int))=_;rw[HK.o];rfl))
  have a7:Ext w4 W4:=a4.trans' a6 (fun x hx e=>by have e:x=w4.heap.size:=e;omega);have a8:=Hd (E.o.trans a7);go_ret
  exact⟨rfl,a8.o⟩
structure BraC(w:World)(gn gr gf gi:Nat)(n:jad)(c:Nat)(k:Nat)(W:World):Prop where
 ext:Ext w W
 res:Blk W gr (.cells #[.bool false] 4)
 node:Blk W gn (.cells n.cells.toArray 147)
 full:Blk W gf (.cells #[.int .i64 ((c+k:Nat):Int)] 3)
 it:Blk W gi (.cells n.cells.toArray 147)
theorem jvc(w:vW)(n:jad)(hr:n.refs.length=16)(hp:n.path=⟨#[]⟩)(h8:n.value.size<=80)(hm:∀ r∈n.refs,r.size≠0->MayP I r)(h2:2<=min n.value.size 1+n.refsL.length):vR 112 #[n.V] w (.bool true):=by
 have e1:n.cells[1]?=some (.string ⟨#[]⟩):=by rw[<-hp];rfl
 have e2:n.cells[2]?=some (.string n.value):=rfl;have c1:¬(80:Int) < (n.value.size:Int):=vO
 obtain⟨c,hc⟩:=vE (min n.value.size 1)
 have Z:min (n.value.size:Int) 1=(c:Int):=vO
 rw[<-hc]at h2;have HC:=Hd Z;have H2:=Hd h2;clear hp hc Z h2;refine (callsIn_wide (n:=0)).1 ?_;refine callsIn_of_wp_marks Tryz.func112 rfl trivial ?_ rfl;simp only[Tryz.ntmps112,cT,bO,dG,Nat.reduceAdd,Nat.reduceSub,cY,cX,dI,dC,cM,cQ]
 obtain⟨X,z⟩:=vE (((w.alloc (.cells n.cells.toArray 147)).alloc (.cells #[.bool false] 4)).alloc (.cells #[.int .i64 (min (n.value.size:Int) 1)] 3))
 have B0:Blk X w.heap.size (.cells n.cells.toArray 147):=by rw[z];exact ((Blk.new w _).alloc _).alloc _
 have B1:Blk X (w.heap.size+1) (.cells #[.bool false] 4):=by
  rw[z];have:=(Blk.new (w.alloc (.cells n.cells.toArray 147)) (.cells #[.bool false] 4)).alloc (.cells #[.int .i64 (min (n.value.size:Int) 1)] 3);rwa [bK]at this
 have B2:Blk X (w.heap.size+1+1) (.cells #[.int .i64 (c:Int)] 3):=by
  rw[z, <-HC.o];have:=Blk.new ((w.alloc (.cells n.cells.toArray 147)).alloc (.cells #[.bool false] 4)) (.cells #[.int .i64 (min (n.value.size:Int) 1)] 3);rwa [bK,bK]at this
 have E0:Ext w X:=by rw[z];exact (((ExtR w).alloc _).alloc _).alloc _
 have a0:X.heap.size=w.heap.size+3:=by rw[z];simp
 have J:=jbx X _ n hr B0;rw[z]at J;have a1:=Hd z;have a2:=Hd E0;have a3:=Hd B0;have a4:=Hd B1;have a5:=Hd B2;have a6:=Hd a0;clear z E0 B0 B1 B2 a0;unfold jad.V at J ⊢;gi_wp2_with (refine jbg rfl 147 (.tmp 1) rfl _ _ rfl J ?_)
 refine⟨trivial,rfl,CallsIn.mono (callsIn_wide.2 (jnf _ n)) ?_⟩
 rintro e w1 ⟨rfl,A,E⟩;rw[<-a1.o]at A E ⊢;rw[a6.o]at A ⊢;have a7:BraC w w.heap.size (w.heap.size+1) (w.heap.size+1+1) (w.heap.size+3) n c 0 w1:=⟨a2.o.trans E,a4.o.keeps E (fun h=>h),a3.o.keeps E (fun h=>h),a5.o.keeps E (fun h=>h),A⟩;have b1:=A.lt;have a8:=Hd a7;have b2:c<=1:=by have:=HC.o;omega
 clear A E J a7 a1 a2 a3 a4 a5 a6;gi_wp2_with fail
 refine jd9 (N:=n.refsL.length) (gf:=117) (lb:=#[.pointer (some ⟨w.heap.size+3,0,none⟩)]) rfl (vX 117) (ji6 (w.heap.size+3) n hr)
  (fun k=>rfl) (BraC w w.heap.size (w.heap.size+1) (w.heap.size+1+1) (w.heap.size+3) n c) (fun _ _ _=>False) (fun k W W' h e=>⟨h.ext.trans e,h.res.keeps e (fun h=>h),h.node.keeps e (fun h=>h),h.full.keeps e (fun h=>h),h.it.keeps e (fun h=>h)⟩) (fun _ _ _ _ h _=>h) (fun k W h=>h.it)
  (fun k W o h=>⟨h.ext.putObj (.inr vO) _,h.res.put_other vO _,h.node.put_other vO _,h.full.put_other vO _,h.it.put_other vO _⟩)
  (fun k W o h=>⟨h.ext.putObj (.inr vO) _,h.res.put_other vO _,h.node.put_other vO _,h.full.put_other vO _,h.it.put_other vO _⟩) (fun _ _ _ _ h=>h)
  a8.o (fun k=>{ tmps:=#[.agg n.cells.toArray,.pointer (some ⟨w.heap.size,0,none⟩),.pointer (some ⟨w.heap.size+1,0,none⟩),.pointer (some ⟨w.heap.size+1+1,0,none⟩),undef,.string (n.rr k),.pointer (some ⟨w.heap.size,1,none⟩),.string ⟨#[]⟩,.bool false,.bool false,.pointer (some ⟨w.heap.size,2,none⟩),.string n.value,.int .i64 n.value.size,.bool false,.bool false,.pointer (some ⟨w.heap.size,2,none⟩),.string n.value,.int .i64 n.value.size,.int .i64 (min (n.value.size:Int) 1),.agg n.cells.toArray,.func (.func 117) #[] #[.pointer (some ⟨w.heap.size+3,0,none⟩)],.int .i64 (n.ri k:Nat),.string (n.rr k),undef,undef,undef,undef,undef,undef,undef],defers:=[] })
  ?hassign ?hbody ?hdone ?hstop
 case hassign =>
  intro l j W K hK;rw[jub,jn1];simp only[dJ,dB];gi_wp2;exact hK
 case hbody =>
  intro l k W hk h b3;have q:=h.full.cell (i:=0) (v:=.int .i64 ((c+k:Nat):Int)) vF;have f:W.frozen? ⟨w.heap.size+1+1,0,none⟩=false:=h.full.frozen;have Q:=jt4 n hr hk;have O:=hm _ (bJ Q.2.1) Q.2.2;have b0:k < 16:=bR hk (by
   have:∀ (l:vM) (i:Nat),(jaA i l).length<=l.length:=by
    intro l;induction l with
    | nil=>intro i;simp[jaA]
    | cons x r ih=>intro i;unfold jaA;split <;> simp <;> have:=ih (i+1) <;> omega
   have:=this n.refs 0
   rw[hr]at this;exact this)
  have H:=Hd h;have HM:=Hd O;clear h Q O;clear q f;gi_wp2_with fail
  refine⟨trivial,rfl,CallsIn.mono (CallsIn.inRound l (callsIn_wide.2 (jAF HI W _ HM.o))) ?_⟩
  rintro e w5 ⟨rfl,E⟩;have q:=(H.o.full.keeps E (fun h=>h)).cell (i:=0) (v:=.int .i64 ((c+k:Nat):Int)) vF;have f:w5.frozen? ⟨w.heap.size+1+1,0,none⟩=false:=(H.o.full.keeps E (fun h=>h)).frozen;have HE:=Hd E;clear E;gi_wp2;rw[show (c:Int)+(k:Int)+1=((c+(k+1):Nat):Int) by omega];have K5:jag (fun b=>b=w.heap.size+1+1) w5 (w5.setCell ⟨w.heap.size+1+1,0,none⟩ (.int .i64 ((c+(k+1):Nat):Int))):=jag.oneSet w5 ⟨w.heap.size+1+1,0,none⟩ _;have K6:jag (fun b=>b=w.heap.size+1+1) W (w5.setCell ⟨w.heap.size+1+1,0,none⟩ (.int .i64 ((c+(k+1):Nat):Int))):=(HE.o.mono (fun _ _ h=>h.elim)).trans K5
  refine⟨K6.mono (fun x hx e=>?_),?_⟩
  ·have e:x=_:=e;show x≠_/\x≠_;omega
  ·exact⟨H.o.ext.trans' K6 (fun x hx e=>by omega),H.o.res.keeps K6 vO,H.o.node.keeps K6 vO,((H.o.full.keeps HE.o (fun h=>h)).set_same (i:=0) _),H.o.it.keeps K6 vO⟩
 case hdone =>
  intro W h hd;have q:=h.full.cell (i:=0) (v:=.int .i64 ((c+n.refsL.length:Nat):Int)) vF;have q2:=h.res.cell (i:=0) (v:=.bool false) vF;have f2:W.frozen? ⟨w.heap.size+1,0,none⟩=false:=h.res.frozen;have c5:(2:Int)<=(c:Int)+(n.refsL.length:Int):=by have:=H2.o;omega
  have H:=Hd h;have HD:=Hd hd;clear h hd;gi_wp2;have B2:=(H.o.res.set_same (i:=0) (.bool true));have BD:=HD.o.set_other (p:=⟨w.heap.size+1,0,none⟩) (by show w1.heap.size≠w.heap.size+1;omega) (.bool true);have hX:Ext w ((W.setCell ⟨w.heap.size+1,0,none⟩ (.bool true)).putObj w1.heap.size (.deferred none)):=(H.o.ext.setCell (.inr (by show w.heap.size<=w.heap.size+1;omega)) _).putObj (.inr vO) _
  obtain⟨W3,a9⟩:=vE (W.setCell ⟨w.heap.size+1,0,none⟩ (.bool true))
  rw[<-a9]at B2 BD hX ⊢;have c2:(W3.putObj w1.heap.size (.deferred none)).cell? ⟨w.heap.size+1,0,none⟩=some (.bool true):=(B2.put_other vO _).cell (i:=0) (by simp)
  refine⟨by simp,.inl ⟨_,_,rfl,run_takeDeferred BD,?_⟩⟩
  exact⟨.bool true,by simp[results,Tryz.results112,go_sem,c2],rfl,hX⟩
 case hstop=>intro c k W _ _ h;exact h.elim
end
end
section
open Go Go.RowKit
theorem jqO{P:Program}{a:Act}{w:vW}{d:Option Tmp}{f:FuncId}{x:Operand}{lb:Array vV}{args:Array Operand}{ats:Array TypeId}{ty:TypeId}{pos:String}{af:Array Edge}{g:Option (Nat × Bool)}{vs:Array vV}(hx:a.eval x=.func (.func f) #[] lb)(eg:∀ args w,(callFunc f args).run P w=.ok (.enter f args) w)(hv:args.map a.eval=vs) :
  (execOp a.eval ⟨d,.call { callee:=.value x,args:=args,argTypes:=ats },ty,pos,af,g⟩).run P w=.ok (.enter f (vs++lb)) w:=by
 subst hv;simp[execOp,resolve,hx,Deferred.ofValue,invoke,bS,Result.andThen,cJ,eg]
theorem jgf{P:Program}{a:Act}{w:vW}{d:Option Tmp}{f:FuncId}{x y:Operand}{ats:Array TypeId}{ty:TypeId}{pos:String}{af:Array Edge}{g:Option (Nat × Bool)}{v:vV}(hx:a.eval x=.func (.func f) #[] #[])(eg:∀ args w,(callFunc f args).run P w=.ok (.enter f args) w)(hv:a.eval y=v) :
  (execOp a.eval ⟨d,.call { callee:=.value x,args:=#[y],argTypes:=ats },ty,pos,af,g⟩).run P w=.ok (.enter f #[v]) w:=by
 have:=jqO (P:=P) (w:=w) (d:=d) (ats:=ats) (ty:=ty) (pos:=pos) (af:=af) (g:=g) (args:=#[y]) hx eg rfl
 simpa [hv]using this
theorem Tryz.allocTabV:∀ w,(Instr.alloc 195 true (.tuple #[])).run Tryz.prog w=.ok (.pointer (some ⟨w.heap.size,0,none⟩)) (w.alloc (.cells [Value.nilFunc,.nilFunc,.nilFunc,.nilFunc].toArray 195)):=fun w=>by kernel_rfl
theorem Tryz.szTabV:(Tryz.prog.info? 195).map (·.size)=some 4:=vY
theorem Tryz.allocTabT:∀ w,(Instr.alloc 197 true (.tuple #[])).run Tryz.prog w=.ok (.pointer (some ⟨w.heap.size,0,none⟩)) (w.alloc (.cells [Value.nilFunc,.nilFunc,.nilFunc,.nilFunc].toArray 197)):=fun w=>by kernel_rfl
theorem Tryz.szTabT:(Tryz.prog.info? 197).map (·.size)=some 4:=vY
theorem Tryz.uKind:Tryz.prog.underlying 96=some (.int .i64):=vY
theorem Tryz.aggV(w:vW):(isAgg 194).run Tryz.prog w=.ok false w:=vY
theorem Tryz.aggT(w:vW):(isAgg 196).run Tryz.prog w=.ok false w:=vY
theorem jaB{P:Program}{t:TypeId}(h:∀ w,(isAgg t).run P w=.ok false w){w:vW}{a:Addr}{v:vV}(hc:w.cell? a=some v):(Instr.loadAt t (.pointer (some a))).run P w=.ok v w:=by
 simp[Instr.loadAt,Instr.sureAddr,loadVar,bS,h w,Result.andThen,hc]
def fnV(f:FuncId):vV:=.func (.func f) #[] #[]
theorem jlL(w:vW)(n:jad)(hr:n.refs.length=16)(hk:n.kind<=3)(f:FuncId)(hf:[fnV 109,fnV 110,fnV 111,fnV 112][n.kind]?=some (fnV f))
  (eg:∀ args w,(callFunc f args).run Tryz.prog w=.ok (.enter f args) w) (hc:∀ w,vR f #[n.V] w (.bool true)) :
  vR 75 #[n.V] w (.bool true):=by
 have e0:n.cells[0]?=some (.int .i64 (n.kind:Int)):=rfl;have c0:¬(n.kind:Int) < 0:=vO
 have c1:¬(3:Int) < (n.kind:Int):=vO
 have c2:(n.kind:Int) < 4:=vO
 have HF:=Hd hf;have HC:=Hd hc;have HR:=Hd hr;clear hf hc hr;unfold jad.V;go_enter Tryz.func75,Tryz.ntmps75;go_wp2_with (refine jah Tryz.allocTabV rfl rfl ?_;intro W1 A q;refine jae (vs:=[fnV 109,fnV 110,fnV 111,fnV 112]) rfl rfl rfl rfl A rfl Tryz.szTabV (by simp[fnV,Value.oneCell']) ?_;intro K E z;have X:K.cell? ⟨w.heap.size,0,none⟩=some (.int .i64 (n.kind:Int)):=(((Blk.new w (.cells n.cells.toArray 99)).keeps q (fun h=>h)).keeps z (by rw[bK];omega)).cellL e0)
 have Z:K.cell? ⟨w.heap.size+1,n.kind,none⟩=some (fnV f):=by
  have:=E.cellL HF.o
  rwa [bK]at this
 have H:=((Blk.new w (.cells n.cells.toArray 99)).keeps q (fun h=>h)).keeps z (by rw[bK];omega);have QT:=Hd Z;have Q0:=Hd X;have O:=Hd H;have HE:=Hd ((((ExtR w).alloc (.cells n.cells.toArray 99)).trans q).trans' z (fun x hx e=>by have e:x=(w.alloc (.cells n.cells.toArray 99)).heap.size:=e;rw[bK]at e;omega));clear A q E z X Z H;refine jan [0,1,2,3,4,5,6] Ext ExtR ExtT vY vY vY ?_
 refine vK ?_
 refine qKL ⟨w.heap.size,0,none⟩ _ rfl (fun Q J=>jac Tryz.uKind rfl (jaa (by exact Q0.o) J)) ?_;refine vS ?_
 refine vK ?_
 refine qKL ⟨w.heap.size+1,n.kind,none⟩ _ rfl (fun Q J=>jaB Tryz.aggV (jaa (by exact QT.o) J)) ?_;refine vS ?_;refine qKL ⟨w.heap.size,0,none⟩ _ rfl (fun Q J=>jas Q _ n HR.o (O.o.keeps ((jaq K).trans J) (fun h=>h))) ?_;refine vS ?_;refine qKC _ f #[n.V] (.bool true) rfl (fun w1=>jgf rfl eg rfl) (fun w1 h1=>HC.o w1) ?_;refine vS ?_
 refine vK ?_
 refine qKE (fun w3 he=>?_);go_wp2_with fail
 go_ret
 exact⟨rfl,HE.o.trans ((jaq K).trans he)⟩
theorem jqa(w:vW)(n:jad)(hr:n.refs.length=16)(hk:n.kind<=3)(S:vB)(f:FuncId)(hf:[fnV 113,fnV 114,fnV 115,fnV 116][n.kind]?=some (fnV f))
  (eg:∀ args w,(callFunc f args).run Tryz.prog w=.ok (.enter f args) w) (hc:∀ w,vR f #[n.V] w (.string S)) :
  vR 76 #[n.V] w (.string S):=by
 have e0:n.cells[0]?=some (.int .i64 (n.kind:Int)):=rfl;have c2:(n.kind:Int) < 4:=vO
 have HF:=Hd hf;have HC:=Hd hc;have HR:=Hd hr;clear hf hc hr;unfold jad.V;go_enter Tryz.func76,Tryz.ntmps76;go_wp2_with (refine jah Tryz.allocTabT rfl rfl ?_;intro W1 A q;refine jae (vs:=[fnV 113,fnV 114,fnV 115,fnV 116]) rfl rfl rfl rfl A rfl Tryz.szTabT (by simp[fnV,Value.oneCell']) ?_;intro K E z)
 have X:K.cell? ⟨w.heap.size,0,none⟩=some (.int .i64 (n.kind:Int)):=(((Blk.new w (.cells n.cells.toArray 147)).keeps q (fun h=>h)).keeps z (by rw[bK];omega)).cellL e0;have Z:K.cell? ⟨w.heap.size+1,n.kind,none⟩=some (fnV f):=by
  have:=E.cellL HF.o
  rwa [bK]at this
 have H:=((Blk.new w (.cells n.cells.toArray 147)).keeps q (fun h=>h)).keeps z (by rw[bK];omega);have QT:=Hd Z;have Q0:=Hd X;have O:=Hd H;have HE:=Hd ((((ExtR w).alloc (.cells n.cells.toArray 147)).trans q).trans' z (fun x hx e=>by have e:x=(w.alloc (.cells n.cells.toArray 147)).heap.size:=e;rw[bK]at e;omega));clear A q E z X Z H;simp only[Act.put,gK,dJ,dB,bK];refine jan [0,1,2,3,4,5,6] Ext ExtR ExtT vY vY vY ?_
 refine vK ?_
 refine qKL ⟨w.heap.size,0,none⟩ _ rfl (fun Q J=>jac Tryz.uKind rfl (jaa (by exact Q0.o) J)) ?_;refine vS ?_
 refine vK ?_
 refine qKL ⟨w.heap.size+1,n.kind,none⟩ _ rfl (fun Q J=>jaB Tryz.aggT (jaa (by exact QT.o) J)) ?_;refine vS ?_;refine qKL ⟨w.heap.size,0,none⟩ _ rfl (fun Q J=>jbx Q _ n HR.o (O.o.keeps ((jaq K).trans J) (fun h=>h))) ?_;refine vS ?_;refine qKC _ f #[n.V] (.string S) rfl (fun w1=>jgf rfl eg rfl) (fun w1 h1=>HC.o w1) ?_;refine vS ?_
 refine vK ?_
 refine qKE (fun w3 he=>?_);go_wp2_with fail
 go_ret
 exact⟨rfl,HE.o.trans ((jaq K).trans he)⟩
structure jlS(n:jad):Prop where
 refs:n.refs.length=16
 kind:n.kind<=3
 path:n.path.size<=12
 value:n.value.size<=80
 valid:jaC n.path=true
 each:∀ r∈n.refs,r.size<=33
def jaR(n:jad):vB:=if n.kind=0 then jaz ⟨#[]⟩else if n.kind=1 then jmG n else if n.kind=2 then extB n else jfg n
theorem jl2(n:jad)(h:jlS n):∀ x∈jb8 n,x.size<=89:=by
 have q:∀ (l:List (Nat × vB)) (m:vM),(∀ x∈l,x.2.size<=89)->(∀ x∈m,x.size<=89)->∀ x∈l.foldl (fun l x=>l.set x.1 x.2) m,x.size<=89:=by
  intro l;induction l with
  | nil=>intro m _ z;exact z
  | cons y r ih =>
   intro m o z;rw[fI];refine ih _ (fun x e=>o x (bC _ e)) (fun x e=>?_);rcases List.mem_or_eq_of_mem_set e with e | rfl
   ·exact z x e
   ·exact o y (bD ..)
 intro x e;unfold jb8 at e;rcases List.mem_or_eq_of_mem_set e with e | rfl
 ·refine q _ _ (fun y A=>?_) (fun y A=>?_) x e
  ·have o:=(jfx n.refs 0 y (iE A)).2.2.1
   have:=h.each y.2 (bJ o)
   omega
  ·rw[fV A]
   have:=jaZ ⟨#[]⟩
   have E:(⟨#[]⟩:vB).size=0:=rfl;omega
 ·have:=jaZ n.value
  have:=h.value
  omega
theorem jsb(c:Nat):∀ (l:vM),(∀ x∈l,x.size<=c)->(catB l).size<=c * l.length
 | [],_=>by rw[jed];omega
 | x :: r,h=>by
  rw[jbI];have o:=h x (bD ..);have q:=jsb c r (fun y e=>h y (bC _ e));rw[bO,Nat.mul_add];omega
theorem jec(n:jad)(h:jlS n):(catB (jb8 n)).size<=1513:=by
 have:=jsb 89 _ (jl2 n h)
 have e:(jb8 n).length=17:=by unfold jb8;rw[List.length_set,jin]
 rw[e]at this;omega
theorem jol(w:vW)(n:jad)(h:jlS n):vR 76 #[n.V] w (.string (jaR n)):=by
 have q:=h.kind;have H:=h.path;have J:=h.value
 by_cases k0:n.kind=0
 ·have e:jaR n=jaz ⟨#[]⟩:=by unfold jaR;rw[if_pos k0]
  rw[e];exact jqa w n h.refs q _ 113 (by rw[k0];rfl) (vX 113) (fun w=>jq9 w n)
 ·by_cases k1:n.kind=1
  ·have e:jaR n=jmG n:=by unfold jaR;rw[if_neg k0,if_pos k1]
   rw[e];exact jqa w n h.refs q _ 114 (by rw[k1];rfl) (vX 114) (fun w=>jq0 w n vO vO h.valid)
  ·by_cases k2:n.kind=2
   ·have e:jaR n=extB n:=by unfold jaR;rw[if_neg k0,if_neg k1,if_pos k2]
    rw[e]
    obtain⟨r,z,o⟩:∃ r z,n.refs=r :: z:=by
     cases hx:n.refs with
     | nil=>have:=h.refs;rw[hx]at this;cases this
     | cons r z=>exact⟨r,z,rfl⟩
    have A:=h.each r (by rw[o];exact bD ..);exact jqa w n h.refs q _ 115 (by rw[k2];rfl) (vX 115) (fun w=>jsA w n vO r (by rw[o];rfl) vO h.valid)
   ·have E:n.kind=3:=vO
    have e:jaR n=jfg n:=by unfold jaR;rw[if_neg k0,if_neg k1,if_neg k2]
    rw[e];exact jqa w n h.refs q _ 116 (by rw[E];rfl) (vX 116) (fun w=>jl3 w n h.refs vO (by have:=jec n h;omega))
theorem jsJ(w:vW)(s:vB)(hs:s.size<=1000000)(leaf:Bool)(x:vB)(hx:jaM s=x)(h2:2<=x.size)(h0:x[0].toNat=if leaf then 3 else 1) :
  vR 135 #[.string s] w (.tuple #[.string (x.extract 1 x.size),.bool leaf,.bool true]):=by
 go_enter Tryz.func135,Tryz.ntmps135;go_wp2_with fail
 refine vH (jft w s hs) fun w1 e=>?_;rw[hx];clear hx hs;have q:=ja4 (s:=x) vO;have A:(0:Int) < (x.size:Int):=vO
 have E:(1:Int)<=(x.size:Int):=vO
 cases leaf with
 | true =>
  have z:(x[0].toNat:Int)=3:=by simp at h0;omega
  clear h0;go_wp2_with fail
  exact bodyPost_ret (v:=.tuple #[.string (x.extract 1 x.size),.bool true,.bool true]) vY rfl ⟨rfl,e.o⟩
 | false =>
  have z:(x[0].toNat:Int)=1:=by simp at h0;omega
  clear h0;go_wp2_with fail
  exact bodyPost_ret (v:=.tuple #[.string (x.extract 1 x.size),.bool false,.bool true]) vY rfl ⟨rfl,e.o⟩
theorem jpl(w:vW)(s:vB)(hs:s.size<=1000000)(leaf:Bool)(x:vB)(hx:jaM s=x)(h2:2<=x.size)(h0:x[0].toNat=if leaf then 2 else 0)(h1:x[1].toNat=0) :
  vR 135 #[.string s] w (.tuple #[.string (x.extract 2 x.size),.bool leaf,.bool true]):=by
 go_enter Tryz.func135,Tryz.ntmps135;go_wp2_with fail
 refine vH (jft w s hs) fun w1 e=>?_;rw[hx];clear hx hs;have q:=ja4 (s:=x) vO;have E:(0:Int) < (x.size:Int):=vO
 have H:(1:Int) < (x.size:Int):=vO
 have J:(2:Int)<=(x.size:Int):=vO
 have z:(x[1].toNat:Int)=0:=vO
 clear h1;cases leaf with
 | true =>
  have A:(x[0].toNat:Int)=2:=by simp at h0;omega
  clear h0;go_wp2_with fail
  exact bodyPost_ret (v:=.tuple #[.string (x.extract 2 x.size),.bool true,.bool true]) vY rfl ⟨rfl,e.o⟩
 | false =>
  have A:(x[0].toNat:Int)=0:=by simp at h0;omega
  clear h0;go_wp2_with fail
  exact bodyPost_ret (v:=.tuple #[.string (x.extract 2 x.size),.bool false,.bool true]) vY rfl ⟨rfl,e.o⟩
end
section
open Go Go.RowKit
def jar(k:Nat):vM:=List.replicate k ⟨#[]⟩
inductive jbd (I:vB->jad->Prop):jad->Prop
 | none:jbd I jak
 | leaf (p v:vB):(⟨1,p,v,jar 16⟩:jad).pathOk 0=true->0 < v.size->v.size<=80->jbd I ⟨1,p,v,jar 16⟩
 | ext (p r:vB):(⟨2,p,⟨#[]⟩,r :: jar 15⟩:jad).pathOk 1=true->r.size≠0->(jf2 r\/∃ m,I r m/\m.kind=3)->jbd I ⟨2,p,⟨#[]⟩,r :: jar 15⟩
 | branch (v:vB) (rs:vM):rs.length=16->v.size<=80->(∀ r∈rs,r.size≠0->MayP I r)->2<=min v.size 1+(jaA 0 rs).length->jbd I ⟨3,⟨#[]⟩,v,rs⟩
theorem je2{n:jad}{k:Nat}(h:n.pathOk k=true):k<=n.path.size/\n.path.size<=12/\jaC n.path=true:=by
 simp only[jad.pathOk,cI,decide_eq_true_eq]at h;exact⟨h.1.1,h.1.2,h.2⟩
theorem jd7:∀ (k i:Nat),jaA i (jar k)=[]
 | 0,_=>rfl
 | k+1,i=>by
  unfold jar;rw[fK];unfold jaA;rw[if_pos (show (⟨#[]⟩:vB).size=0 from rfl)];exact jd7 k (i+1)
section
variable {I:vB->jad->Prop} (HI:InlP I)
include HI
theorem MayP.size{r:vB}(h:MayP I r):r.size<=33:=by
 rcases h with h |⟨m,h⟩
 ·rw[h.size];omega
 ·have:=HI.small r m h;omega
theorem jbd.one{n:jad}(h:jbd I n):jlS n:=by
 have q:(⟨#[]⟩:vB).size=0:=rfl;cases h with
 | none=>exact⟨rfl,by decide,by decide,by decide,rfl,fun r e=>by rw[fV e];decide⟩
 | leaf p v h1 h2 h3 =>
  obtain⟨a,b,c⟩:=je2 h1
  exact⟨by simp[jar],by simp,b,h3,c,fun r e=>by rw[fV e];decide⟩
 | ext p r h1 h2 h3 =>
  obtain⟨a,b,c⟩:=je2 h1
  refine⟨by simp[jar],by simp,b,by show (⟨#[]⟩:vB).size<=80;omega,c,fun x o=>?_⟩
  rcases bM.1 o with rfl | o
  ·exact MayP.size HI (h3.imp id (fun ⟨m,h,_⟩=>⟨m,h⟩))
  ·rw[fV o];decide
 | branch v rs h1 h2 h3 h4 =>
  refine⟨h1,by simp,by show (⟨#[]⟩:vB).size<=12;omega,h2,rfl,fun r e=>?_⟩
  by_cases h0:r.size=0
  ·omega
  ·exact MayP.size HI (h3 r e h0)
theorem jih(w:vW)(n:jad)(h:jbd I n):vR 75 #[n.V] w (.bool true):=by
 have o:=h.one HI;cases h with
 | none=>exact jlL w jak o.refs o.kind 109 rfl (vX 109) (fun w=>jAI w)
 | leaf p v h2 h3 h4=>exact jlL w _ o.refs o.kind 110 rfl (vX 110) (fun w=>jAC w _ o.refs h2 h3 h4 (by unfold jad.behindN jad.refsL;rw[jd7];rfl))
 | ext p r h2 h3 h4=>exact jlL w _ o.refs o.kind 111 rfl (vX 111) (fun w=>jBQ HI w _ r o.refs h2 rfl (by
   have e:jaA 0 (r :: jar 15)=[(0,r)]:=by unfold jaA;rw[if_neg h3,jd7]
   unfold jad.behindN;have q:jad.refsL ⟨2,p,⟨#[]⟩,r :: jar 15⟩=[(0,r)]:=e;rw[q];show jad.ri _ 0+1=1;unfold jad.ri;rw[q];rfl) rfl h4)
 | branch v rs h2 h3 h4 h5=>exact jlL w _ o.refs o.kind 112 rfl (vX 112) (fun w=>jvc HI w _ o.refs rfl h3 h4 h5)
theorem jj8(w:vW)(n:jad)(h:jbd I n):vR 59 #[n.V] w (.tuple #[.string (jaR n),.int .i64 0]):=by
 have A:=h.one HI;have q:=jas (w.alloc (.cells n.cells.toArray 99)) _ n A.refs (Blk.new w _);have H:=Hd h;have K:=Hd A;clear h A;unfold jad.V at q ⊢;go_enter Tryz.func59,Tryz.ntmps59;go_wp2_with (refine jaf 99 (.tmp 1) rfl rfl _ _ rfl q ?_)
 refine vC (jih HI _ n H.o) fun w1 z=>?_;have O:=(Blk.new w (.cells n.cells.toArray 99)).keeps z (fun h=>h);have e:=jas w1 _ n K.o.refs O;have E:=Hd (((ExtR w).alloc _).trans z);unfold jad.V at e;clear q z O;go_wp2_with (refine jaf 99 (.tmp 1) rfl rfl _ _ rfl e ?_)
 refine vH (jol w1 n K.o) fun Q z=>?_;have J:=Hd (E.o.trans z);clear e;go_wp2_with fail
 go_ret2
 exact⟨rfl,J.o⟩
end
theorem jkc:∀ (l:vN),l.length % 2=0->(∀ b∈l,b<=15)->jcR (jc7 l)=l
 | [],_,_=>rfl
 | [x],h,_=>by simp at h
 | x :: y :: r,h,hb=>by
  have z:=hb x (bD ..);have A:=hb y (bC _ (bD ..));have q:=jkc r (by simp at h;omega) (fun b e=>hb b (bC _ (bC _ e)));show jcR ((x <<< 4 ||| y) :: jc7 r)=_;unfold jcR at q ⊢;rw[cG,q];have E:x.toNat<=15:=fU.1 z;have H:y.toNat<=15:=fU.1 A
  have:∀ a b:Fin 16,((UInt8.ofNat a.1 <<< 4 ||| UInt8.ofNat b.1) >>> 4=UInt8.ofNat a.1)/\((UInt8.ofNat a.1 <<< 4 ||| UInt8.ofNat b.1) &&& 15=UInt8.ofNat b.1):=by decide
  have o:=this ⟨x.toNat,by omega⟩ ⟨y.toNat,by omega⟩;simp only[iN]at o;rw[o.1,o.2];rfl
theorem jwq(p:vB)(leaf:Bool)(hv:jaC p=true):jaM (putB p leaf)=⟨(jeg p leaf++p.data.toList).toArray⟩:=by
 unfold jaM putB jbC;rw[jkc]
 ·show (jeg p leaf++p.data.toList).length % 2=0
  rw[bF,show p.data.toList.length=p.size from rfl];unfold jeg oddB
  by_cases h:p.size % 2=1
  ·simp[h];omega
  ·have:(p.size % 2 == 1)=false:=by simpa using h
   rw[this];simp;omega
 ·intro b hb
  have hb:b∈jeg p leaf++p.data.toList:=hb;rcases bT.1 hb with hb | hb
  ·unfold jeg jmo oddB at hb
   rcases bM.1 hb with rfl | hb
   ·cases leaf <;> cases (p.size % 2 == 1) <;> decide
   ·split at hb
    ·cases hb
    ·rw[bP.1 hb];decide
  ·exact of_decide_eq_true (dN.1 hv b hb)
theorem jpo(w:vW)(p:vB)(leaf:Bool)(hs:p.size<=900000)(hv:jaC p=true):vR 135 #[.string (putB p leaf)] w (.tuple #[.string p,.bool leaf,.bool true]):=by
 have o:=jwq p leaf hv;have A:=jcf p leaf;have E:∀ a:vU,(⟨(a :: p.data.toList).toArray⟩:vB).extract 1 (⟨(a :: p.data.toList).toArray⟩:vB).size=p:=fun a=>by
  have:=jgD ⟨#[a]⟩ p
  have q:(⟨#[a]⟩:vB)++p=⟨(a :: p.data.toList).toArray⟩:=by rw[ju4 (_++p),dH,fC];rfl
  rw[q]at this;exact this
 have H:∀ a b:vU,(⟨(a :: b :: p.data.toList).toArray⟩:vB).extract 2 (⟨(a :: b :: p.data.toList).toArray⟩:vB).size=p:=fun a b=>by
  have:=jgD ⟨#[a,b]⟩ p
  have q:(⟨#[a,b]⟩:vB)++p=⟨(a :: b :: p.data.toList).toArray⟩:=by rw[ju4 (_++p),dH,fC];rfl
  rw[q]at this;exact this
 by_cases ho:p.size % 2=1
 ·have e:oddB p=true:=by unfold oddB;simpa using ho
  have z:jeg p leaf=[jmo leaf true]:=by unfold jeg;rw[e];rfl
  rw[z]at o
  have:=jsJ w (putB p leaf) vO leaf ⟨(jmo leaf true :: p.data.toList).toArray⟩ o (by show 2<=p.data.toList.length+1;have:p.data.toList.length=p.size:=rfl;omega) (by cases leaf <;> rfl)
  rw[E]at this;exact this
 ·have e:oddB p=false:=by unfold oddB;simpa using ho
  have z:jeg p leaf=[jmo leaf false,0]:=by unfold jeg;rw[e];rfl
  rw[z]at o
  have:=jpl w (putB p leaf) vO leaf ⟨(jmo leaf false :: 0 :: p.data.toList).toArray⟩ o (by show 2<=p.data.toList.length+2;omega) (by cases leaf <;> rfl) rfl
  rw[H]at this;exact this
end
section
open Go Go.RowKit
theorem jaj{P:Program}{fn:Func}{t u:Tmp}{ty:TypeId}(h:fn.results=#[.cell t ty,.tmp u]){tmps:Array vV}{a:Addr}(ha:tmps.getD t undef=.pointer (some a)){w:vW}{v x:vV}(hx:tmps.getD u undef=x)(hl:(loadVar ty a).run P w=.ok v w) :
  (results fn tmps).run P w=.ok (.tuple #[v,x]) w:=by
 have e:tmps[t]?.getD undef=.pointer (some a):=by simpa using ha
 have o:tmps[u]?.getD undef=x:=by simpa using hx
 simp[results,h,e,o,asAddr,bS,Result.andThen,hl]
theorem jai(W:vW)(b:Nat)(n:jad)(hr:n.refs.length=16)(hB:Blk W b (.cells n.cells.toArray 99)):(loadVar 99 ⟨b,0,none⟩).run Tryz.prog W=.ok n.V W:=by
 have:=jas W b n hr hB
 simpa [Instr.loadAt,Instr.sureAddr,bS,Result.andThen]using this
def jb9(k:Int)(p v:vB)(r:vB):List vV:=[.int .i64 k,.string p,.string v,.string r,.string ⟨#[]⟩,.string ⟨#[]⟩,.string ⟨#[]⟩,.string ⟨#[]⟩,.string ⟨#[]⟩,.string ⟨#[]⟩,.string ⟨#[]⟩,.string ⟨#[]⟩,.string ⟨#[]⟩,.string ⟨#[]⟩,.string ⟨#[]⟩,.string ⟨#[]⟩,.string ⟨#[]⟩,.string ⟨#[]⟩,.string ⟨#[]⟩]
theorem jbF(k:Int)(p v r:vB):∀ x∈jb9 k p v r,x.oneCell'=true:=by simp[jb9,Value.oneCell']
theorem jrg(w:vW)(p v:vB)(hp:p.size<=900000)(hv:v.size<=100000)(hok:jaC p=true):vR 107 #[.string (jaz (putB p true)),.string (jaz v)] w (.tuple #[(⟨1,p,v,jar 16⟩:jad).V,.bool true]):=by
 obtain⟨q,h1,h2⟩:=jeG (putB p true) (by have:=jcf p true;omega)
 obtain⟨q',h3,h4⟩:=jeG v vO
 have z1:(jaz (putB p true)).size<=1000000000:=by have:=jcf p true;have:=jaZ (putB p true);omega
 have z2:(jaz v).size<=1000000000:=by have:=jaZ v;omega
 have H1:=Hd h1;have H2:=Hd h2;have H3:=Hd h3;have H4:=Hd h4;clear h1 h2 h3 h4;go_enter Tryz.func107,Tryz.ntmps107;go_wp2_with (refine jah Tryz.allocNode rfl rfl ?_;intro W1 A E)
 refine vC (jhy _ _ q z1 H1.o) fun w2 z=>?_;rw[H2.o];have H:=A.keeps z (fun h=>h);have J:=Hd (E.trans z);have K:=Hd H;clear A E z H;unfold optV;simp only;go_wp2_with fail
 refine vC (jpo _ p true hp hok) fun w3 z=>?_;have O:=Hd (J.o.trans z);have Q:=Hd (K.o.keeps z (fun h=>h));clear z J K;go_wp2_with fail
 refine vC (jhy _ _ q' z2 H3.o) fun w4 z=>?_;rw[H4.o];have X:=Hd (O.o.trans z);have Z:=Q.o.keeps z (fun h=>h);clear z O Q;unfold optV;simp only;go_wp2_with (refine jae (vs:=jb9 1 p v ⟨#[]⟩) rfl rfl rfl rfl Z rfl Tryz.szNode (jbF _ _ _ _) ?_;intro W5 a0 a1)
 refine bodyPost_ret (jaj rfl rfl rfl (jai W5 _ ⟨1,p,v,jar 16⟩ rfl a0)) rfl ?_
 exact⟨rfl,X.o.trans' a1 (fun x hx e=>by have e:x=w.heap.size:=e;omega)⟩
theorem jtW(w:vW)(p r:vB)(hp:p.size<=900000)(hok:jaC p=true):vR 107 #[.string (jaz (putB p false)),.string r] w (.tuple #[(⟨2,p,⟨#[]⟩,r :: jar 15⟩:jad).V,.bool true]):=by
 obtain⟨q,h1,h2⟩:=jeG (putB p false) (by have:=jcf p false;omega)
 have z1:(jaz (putB p false)).size<=1000000000:=by have:=jcf p false;have:=jaZ (putB p false);omega
 have H1:=Hd h1;have H2:=Hd h2;clear h1 h2;go_enter Tryz.func107,Tryz.ntmps107;go_wp2_with (refine jah Tryz.allocNode rfl rfl ?_;intro W1 J K)
 refine vC (jhy _ _ q z1 H1.o) fun w2 z=>?_;rw[H2.o];have O:=J.keeps z (fun h=>h);have Q:=Hd (K.trans z);have X:=Hd O;clear J K z O;unfold optV;simp only;go_wp2_with fail
 refine vC (jpo _ p false hp hok) fun A z=>?_;have a1:=Hd (Q.o.trans z);have E:=Hd (X.o.keeps z (fun h=>h));clear z Q X;go_wp2_with (first |(refine jah Tryz.allocNode rfl rfl ?_;intro W5 a2 Z;refine jae (vs:=jb9 2 p ⟨#[]⟩ ⟨#[]⟩) rfl rfl rfl rfl a2 rfl Tryz.szNode (jbF _ _ _ _) ?_;intro W6 H a0;have q3:W6.cell? ⟨A.heap.size,3,none⟩=some (.string ⟨#[]⟩):=H.cell (i:=3) vF;have f3:W6.frozen? ⟨A.heap.size,3,none⟩=false:=H.frozen;have a3:=Hd (H.set_same (i:=3) (.string r))) |(refine jaf 99 (.tmp 10) rfl rfl _ _ rfl (jas _ _ ⟨2,p,⟨#[]⟩,r :: jar 15⟩ rfl a3.o) ?_;refine jae (vs:=jad.cells ⟨2,p,⟨#[]⟩,r :: jar 15⟩) rfl rfl rfl rfl (((E.o.keeps Z (fun h=>h)).keeps a0 (by have:=E.o.lt;omega)).set_other (p:=⟨A.heap.size,3,none⟩) (by have:=E.o.lt;show w.heap.size≠A.heap.size;omega) (.string r)) rfl Tryz.szNode (jad.one _) ?_;intro W8 a4 a5))
 refine bodyPost_ret (jaj rfl rfl rfl (jai W8 _ ⟨2,p,⟨#[]⟩,r :: jar 15⟩ rfl a4)) rfl ?_;have k1:Ext A (W6.setCell ⟨A.heap.size,3,none⟩ (.string r)):=(Z.trans' a0 (fun x hx e=>by have e:x=A.heap.size:=e;omega)).setCell (.inr (bL _)) _
 exact⟨rfl,(a1.o.trans k1).trans' a5 (fun x hx e=>by have e:x=w.heap.size:=e;omega)⟩
def jbZ(rs:vM)(v:vB):vM:=rs.map (fun r=>if r.size=0 then jaz ⟨#[]⟩else r)++[jaz v]
def brN(rs:vM)(k:Nat):jad:=⟨3,⟨#[]⟩,⟨#[]⟩,rs.take k++jar (16 - k)⟩
theorem jnL{rs:vM}(h:rs.length=16){k:Nat}(hk:k<=16):(brN rs k).refs.length=16:=by simp[brN,jar,h];omega
theorem jnM{rs:vM}(h:rs.length=16){k:Nat}(hk:k < 16)(r:vB)(hr:rs[k]?=some r):(brN rs k).cells.set (3+k) (.string r)=(brN rs (k+1)).cells:=by
 have e:(rs.take k++jar (16 - k)).set k r=rs.take (k+1)++jar (16 - (k+1)):=by
  rw[fN _ _ (by simp[h];omega)]
  have:k - (rs.take k).length=0:=by simp[h];omega
  rw[this,show 16 - k=(16 - (k+1))+1 by omega];unfold jar;rw[fK,dJ,cE,hr];simp
 unfold jad.cells brN;simp only;rw[show 3+k=k+1+1+1 by omega,dB,dB,dB, <-e,iR]
theorem joT{rs:vM}(h:rs.length=16){k:Nat}(hk:k < 16)(r:vB)(hr:rs[k]?=some r)(h0:r.size=0):brN rs (k+1)=brN rs k:=by
 have e:r=⟨#[]⟩:=by
  obtain⟨⟨l⟩⟩:=r
  cases l with
  | nil=>rfl
  | cons x y=>exact absurd h0 (iA _)
 unfold brN;rw[cE,hr,e,show 16 - k=(16 - (k+1))+1 by omega];unfold jar;rw[fK];simp
def jw2(w:vW)(g2 g4:Nat)(rs:vM)(i:vV)(wr:vW):Prop:=∃ k:Nat,k<=16/\i=.int .i64 k/\Ext w wr/\Blk wr g2 (.cells jak.cells.toArray 99)/\Blk wr g4 (.cells (brN rs k).cells.toArray 99)
theorem jm8(w:vW)(a:vV)(rs:vM)(v:vB)(hr:rs.length=16)(hv:v.size<=100000)(hne:∀ r∈rs,r.size≠0->r≠jaz ⟨#[]⟩)(ha:RdS w a (jbZ rs v)):vR 108 #[a] w (.tuple #[(⟨3,⟨#[]⟩,v,rs⟩:jad).V,.bool true]):=by
 have O:(jbZ rs v).length=17:=by simp[jbZ,hr]
 rcases ha with⟨_,_,_,h0⟩ |⟨b,o,c,rfl,hb,hc,hcell⟩
 ·rw[h0]at O;cases O
 rw[O]at hc ⊢;have b4:∀ (k:Nat) r,rs[k]?=some r->w.cell? ⟨b,o+k,none⟩=some (.string (if r.size=0 then jaz ⟨#[]⟩else r)):=fun k r hk=>hcell k _ (by
  unfold jbZ;rw[cW (by rw[cB];exact (bW.1 hk).1),cA,hk];rfl)
 have b5:w.cell? ⟨b,o+16,none⟩=some (.string (jaz v)):=hcell 16 _ (by
  unfold jbZ;rw[dA (by rw[cB];omega),cB,hr];rfl)
 obtain⟨q,h1,h2⟩:=jeG v vO
 have z1:(jaz v).size<=1000000000:=by have:=jaZ v;omega
 have c3:=Hd b4;have c4:=Hd b5;have H1:=Hd h1;have H2:=Hd h2;have Q:=Hd hr;have c5:=Hd hne;clear b4 b5 h1 h2 O hcell hr hne;go_enter Tryz.func108,Tryz.ntmps108;go_wp2_with (first |(refine jah Tryz.allocNode rfl rfl ?_;intro W3 b6 a1;refine jae (vs:=jb9 3 ⟨#[]⟩ ⟨#[]⟩ ⟨#[]⟩) rfl rfl rfl rfl b6 rfl Tryz.szNode (jbF _ _ _ _) ?_;intro W4 A a2) |(refine jah Tryz.allocNode rfl rfl ?_;intro W1 X a3))
 have h4:Ext w W4:=(a3.trans a1).trans' a2 (fun x hx e=>by have e:x=W1.heap.size:=e;have:=a3.size;omega);have h5:=(X.keeps a1 (fun h=>h)).keeps a2 (by have:=X.lt;omega)
 obtain⟨E,b7⟩:∃ g,g=W1.heap.size:=⟨_,rfl⟩
 obtain⟨g2,b8⟩:∃ g,g=w.heap.size:=⟨_,rfl⟩
 have c9:g2 < E:=by have:=X.lt;omega
 have n2:w.heap.size<=g2:=vO
 rw[<-b7]at A ⊢;rw[<-b8]at h5 ⊢;have a4:=Hd h4;have H:=Hd A;have H5:=Hd h5;clear b7 b8 h4 h5 A a3 X b6 a1 a2;go_loopw [9] (fun i wr=>jw2 w g2 E rs i wr) (fun i _=>16 - (intOf i).toNat)
 case atStart=>exact⟨0,by omega,rfl,a4.o,H5.o,H.o⟩
 case round =>
  obtain⟨k,hk,rfl,hE,b9,A⟩:=hrel
  have HE:=Hd hE;have a5:=Hd b9;have H:=Hd A;clear hE b9 A
  by_cases hlt:k < 16
  ·obtain⟨r,Z⟩:∃ r,rs[k]?=some r:=⟨_,bA (by have:=Q.o;omega)⟩
   have J:=jaa (c3.o k r Z) HE.o;have b1:(k:Int) < 17:=vO
   have b0:r∈rs:=bJ Z
   obtain⟨em,a6⟩:=vE (jaz ⟨#[]⟩)
   rw[<-a6]at J;have a7:=Hd a6;have c0:=Hd Z;clear a6 Z
   by_cases h0:r.size=0
   ·rw[if_pos h0]at J
    have QX:=Hd J;clear J;go_wp2_with fail
    refine jan [0,1,2,3,4,5] Ext ExtR ExtT vY vY vY ?_;iterate 3 refine vK ?_
    refine qKL ⟨b,o+k,none⟩ _ rfl (fun w2 h2=>jac Tryz.uStr rfl (jaa (by exact QX.o) h2)) ?_;refine vS ?_;refine qKC _ 69 #[.string ⟨#[]⟩] (.string em) rfl (fun w1=>jaG (vX 69) vY) (fun w1 h1=>by rw[a7.o];exact jcv w1 ⟨#[]⟩ vI) ?_;refine vS ?_
    refine vK ?_
    refine qKE (fun w3 he=>?_);have K:=(jaq wr).trans he;have a8:=Hd (HE.o.trans K);have a9:=Hd (a5.o.keeps K (fun h=>h));have z:=Hd (H.o.keeps K (fun h=>h));clear he K;go_wp2_with fail
    go_roundw
    case rel=>exact⟨k+1,by omega,by go_num,a8.o,a9.o,by rw[joT Q.o hlt r c0.o h0];exact z.o⟩
    case measure=>exact vJ
   ·rw[if_neg h0]at J
    have hq:(r.toList == em.toList)=false:=by
     rw[beq_eq_false_iff_ne,bN,bN];intro e;exact c5.o r b0 h0 (by rw[<-a7.o];exact ByteArray.ext (Array.ext' e))
    have QX:=Hd J;clear J;go_wp2_with fail
    refine jan [0,1,2,3,4,5] Ext ExtR ExtT vY vY vY ?_;iterate 3 refine vK ?_
    refine qKL ⟨b,o+k,none⟩ _ rfl (fun w2 h2=>jac Tryz.uStr rfl (jaa (by exact QX.o) h2)) ?_;refine vS ?_;refine qKC _ 69 #[.string ⟨#[]⟩] (.string em) rfl (fun w1=>jaG (vX 69) vY) (fun w1 h1=>by rw[a7.o];exact jcv w1 ⟨#[]⟩ vI) ?_;refine vS ?_
    refine vK ?_
    refine qKE (fun w3 he=>?_);have K:=(jaq wr).trans he;have a8:=Hd (HE.o.trans K);have a9:=Hd (a5.o.keeps K (fun h=>h));have z:=Hd (H.o.keeps K (fun h=>h));have J:=jaa QX.o K
    obtain⟨old,q4⟩:∃ v,w3.cell? ⟨E,3+k,none⟩=some v:=⟨_,z.o.cellL (bA (by rw[jad.cells_len _ (jnL Q.o hk)];omega))⟩
    have f4:w3.frozen? ⟨E,3+k,none⟩=false:=z.o.frozen;have b2:(k:Int) < 16:=vO
    clear he K;go_wp2_with fail
    go_roundw
    case rel =>
     refine⟨k+1,by omega,by go_num,a8.o.setCell (.inr (by show w.heap.size<=E;omega)) _,a9.o.set_other (p:=⟨E,3+k,none⟩) (by show g2≠E;omega) _,?_⟩
     have:=z.o.set_same (i:=3+k) (.string r)
     rw[show (brN rs k).cells.toArray.setIfInBounds (3+k) (.string r)=((brN rs k).cells.set (3+k) (.string r)).toArray by simp,jnM Q.o hlt r c0.o]at this;exact this
    case measure=>exact vJ
  ·have b3:k=16:=vO
   subst b3;have J:=jaa c4.o HE.o;go_wp2_with fail
   refine vC (jhy _ _ q z1 H1.o) fun w4 hE=>?_;rw[H2.o];have a0:=H.o.keeps hE (fun h=>h);have q4:w4.cell? ⟨E,2,none⟩=some (.string ⟨#[]⟩):=a0.cellL vF;have f4:w4.frozen? ⟨E,2,none⟩=false:=a0.frozen;have z:=Hd (a0.set_same (i:=2) (.string v));have c1:=(a5.o.keeps hE (fun h=>h)).set_other (p:=⟨E,2,none⟩) (by show g2≠E;omega) (.string v);have c6:=Hd c1;have a4:=Hd (HE.o.trans hE);have c2:brN rs 16=⟨3,⟨#[]⟩,⟨#[]⟩,rs⟩:=by unfold brN jar;rw[cD (by have:=Q.o;omega)];simp
   rw[c2]at z;have ec:(jad.cells ⟨3,⟨#[]⟩,⟨#[]⟩,rs⟩).toArray.setIfInBounds 2 (.string v)=(jad.cells ⟨3,⟨#[]⟩,v,rs⟩).toArray:=by simp[jad.cells]
   rw[ec]at z;clear hE a0 c1 J ec c2;unfold optV;simp only;go_wp2_with (first |(refine jaf 99 (.tmp 4) rfl rfl _ _ rfl (jas _ _ ⟨3,⟨#[]⟩,v,rs⟩ Q.o z.o) ?_) |(refine jae (vs:=jad.cells ⟨3,⟨#[]⟩,v,rs⟩) rfl rfl rfl rfl c6.o (by rw[jad.cells_len ⟨3,⟨#[]⟩,v,rs⟩ Q.o];rfl) (by rw[jad.cells_len ⟨3,⟨#[]⟩,v,rs⟩ Q.o];exact Tryz.szNode) (jad.one _) ?_;intro W8 c7 c8))
   refine bodyPost_ret (jaj rfl rfl rfl (jai W8 _ ⟨3,⟨#[]⟩,v,rs⟩ Q.o c7)) rfl ?_
   exact⟨rfl,(a4.o.setCell (.inr (by show w.heap.size<=E;omega)) _).trans' c8 (fun x hx e=>by have e:x=g2:=e;omega)⟩
theorem jeY(xs:vM)(hn:(catB xs).size<=1048576):jcm xs≠jaz ⟨#[]⟩:=by
 intro e
 obtain⟨o,q,_⟩:=jfj xs hn
 obtain⟨A,z,_⟩:=jix ⟨#[]⟩ vI
 rw[e,z]at q;cases q
theorem jb6{a b:vB}(h:a≠b):(a.toList == b.toList)=false:=by
 rw[beq_eq_false_iff_ne,bN,bN];exact fun e=>h (ByteArray.ext (Array.ext' e))
theorem jdb(s:vB):s.extract s.size s.size=⟨#[]⟩:=by
 apply ByteArray.ext;apply Array.ext';simp
theorem jeA(xs:vM):(jcm xs).size<=(catB xs).size+9:=by
 unfold jcm;rw[cC];have:=jez 192 (catB xs).size;omega
theorem jri(w:vW):vR 74 #[.string (jaz ⟨#[]⟩)] w (.tuple #[jak.V,.bool true]):=by
 obtain⟨X,q⟩:=vE (jaz ⟨#[]⟩)
 rw[<-q];have E:=Hd q;clear q;go_enter Tryz.func74,Tryz.ntmps74;go_wp2_with (refine jah Tryz.allocNode rfl rfl ?_;intro Z z A)
 refine vC (jcv _ ⟨#[]⟩ vI) fun w2 H=>?_;rw[<-E.o];have J:=z.keeps H (fun h=>h);have K:=Hd (A.trans H);clear z A H;go_wp2_with (refine jae (vs:=jak.cells) rfl rfl rfl rfl J rfl Tryz.szNode (jad.one _) ?_;intro W8 O Q)
 refine bodyPost_ret (jaj rfl rfl rfl (jai W8 _ jak rfl O)) rfl ?_
 exact⟨rfl,K.o.trans' Q (fun x hx e=>by have e:x=w.heap.size:=e;omega)⟩
theorem jjn{P:Program}{o:Oper}{a:Act}{w:vW}{K:Act->vW->Prop}{Q:Exit->Act->vW->Prop}{T T2:TypeId}{x y:Operand}{b:Nat}{old vs:List vV}(ho:o.op=.store T x y)(hx:a.eval x=.pointer (some ⟨b,0,none⟩))(hy:a.eval y=.agg vs.toArray)
  (hB:Blk w b (.cells old.toArray T2)) (hl:old.length=vs.length) (hi:(P.info? T).map (·.size)=some vs.length) (h1:∀ v∈vs,v.oneCell'=true)
  (h:∀ W,Blk W b (.cells vs.toArray T2)->jag (fun z=>z=b) w W->K (a.put o.dst undef) W):o.wp P a w K Q:=by
 refine wp_store_mid T x y ho b 0 vs.toArray hx hy (by have:=jlC hB;rw[hl]at this;simpa using this) (by simpa using hi) (all_oneCell_toArray h1) (h _ ?_ (jag.oneSetCells b vs 0 w))
 have:=Blk.setCells vs 0 w old hB vO
 rw[iS vO]at this;simpa using this
theorem jnb(w:vW)(x y:vB)(n:jad)(hr:n.refs.length=16)(hx:jeb x)(hy:jeb y)(hs:x.size+y.size<=1048576)
  (hc:∀ w,vR 107 #[.string x,.string y] w (.tuple #[n.V,.bool true])) :
  vR 74 #[.string (jcm [x,y])] w (.tuple #[n.V,.bool true]):=by
 have A:(catB [x,y]).size=x.size+y.size:=by rw[jbI,jbI,jed];omega
 obtain⟨o,q,h2,h3⟩:=jfj [x,y] vO
 have E:=jeA [x,y]
 obtain⟨em,H⟩:=vE (jaz ⟨#[]⟩)
 have X:=jb6 (jeY [x,y] vO)
 obtain⟨s,Z⟩:=vE (jcm [x,y])
 obtain⟨c,J⟩:=vE (catB [x,y])
 rw[<-Z]at q h2 h3 E X ⊢;rw[<-J]at q h2 h3 E A;rw[<-H]at X;have HS:=Hd (show s.size<=1000000000 by omega);have H1:=Hd q;have H3:=Hd h3;have b3:=Hd H;have a0:=Hd J;have b4:=Hd A;have H2:=Hd h2;have HR:=Hd hr;have HC:=Hd hc;clear q h2 h3 E Z J H A hr hc;go_enter Tryz.func74,Tryz.ntmps74;go_wp2_with (refine jah Tryz.allocNode rfl rfl ?_;intro W1 a1 a2)
 refine vC (jcv _ ⟨#[]⟩ vI) fun w2 O=>?_;rw[<-b3.o];have a3:=Hd (a1.keeps O (fun h=>h));have a4:=Hd (a2.trans O);clear a1 a2 O;go_wp2_with fail
 refine vC (je8 _ s _ HS.o H1.o) fun w3 O=>?_;simp only;rw[H3.o,H2.o,jdb];have a5:=Hd (a3.o.keeps O (fun h=>h));have a6:=Hd (a4.o.trans O);clear O a4 a3;go_wp2_with fail
 rw[a0.o];refine (job w3 [x,y] (by intro z hz;rcases bM.1 hz with rfl | hz;exact hx;rw[bP.1 hz];exact hy) (by rw[<-a0.o,b4.o];omega) (show 2<=1000000 by decide)).mono ?_;rintro e w4 ⟨v,rfl,hv⟩;have a7:=Hd (a5.o.keeps hv.ext (fun h=>h));have a8:=Hd (a6.o.trans hv.ext);rcases hv.rd with⟨_,_,_,h0⟩ |⟨b,o2,c2,rfl,hb,hc,hcell⟩
 ·cases h0
 have QX:=Hd (hcell 0 x rfl);have QY:=Hd (hcell 1 y rfl);clear hv hcell a6 a5;go_wp2_with fail
 refine jaw [0,1,2,3,4,5,6,7,8,9,10] [9] Ext ExtR ExtT vY vY vY ?_;iterate 2 refine vP ?_
 refine qL ⟨b,o2,none⟩ _ rfl (fun w1 q=>jac Tryz.uStr rfl (jaa (by exact QX.o) q)) ?_;refine vS ?_;iterate 2 refine vP ?_
 refine qL ⟨b,o2+1,none⟩ _ rfl (fun w1 q=>jac Tryz.uStr rfl (jaa (by exact QY.o) q)) ?_;refine vS ?_;refine jc6 _ 107 #[.string x,.string y] (.tuple #[n.V,.bool true]) rfl vY rfl (fun w1=>jaG (vX 107) vY) (fun w1 q=>HC.o w1) ?_;refine vS ?_;iterate 2 refine vP ?_
 refine qH _ rfl (fun w5 Q K hK=>?_);have hX:=(jaq w4).trans Q;refine jjn (vs:=n.cells) rfl rfl rfl (a7.o.keeps hX (fun h=>h)) (by rw[n.cells_len HR.o];rfl) (by rw[n.cells_len HR.o];exact Tryz.szNode) n.one ?_;intro W6 a9 b0;have b1:=Hd a9;have b2:=Hd ((a8.o.trans hX).trans' b0 (fun x hx e=>by have e:x=w.heap.size:=e;omega));clear Q hX a9 b0 QX QY a7 a8;refine vS ?_;refine hK _ _ ?_;clear hK K
 refine vP ?_
 refine qE (fun w7 Q=>?_);have b5:=Hd (b1.o.keeps Q (fun h=>h));have b6:=Hd (b2.o.trans Q);clear Q b1 b2;go_wp2_with fail
 refine bodyPost_ret (jaj rfl rfl rfl (jai w7 _ n HR.o b5.o)) rfl ?_
 exact⟨rfl,b6.o⟩
theorem jrh(w:vW)(xs:vM)(n:jad)(hr:n.refs.length=16)(hl:xs.length=17)(hx:∀ x∈xs,jeb x)(hs:(catB xs).size<=1048576)
  (hc:∀ w v,RdS w v xs->vR 108 #[v] w (.tuple #[n.V,.bool true])) :
  vR 74 #[.string (jcm xs)] w (.tuple #[n.V,.bool true]):=by
 obtain⟨o,h1,h2,h3⟩:=jfj xs hs
 have A:=jeA xs
 obtain⟨em,E⟩:=vE (jaz ⟨#[]⟩)
 have K:=jb6 (jeY xs hs)
 obtain⟨s,O⟩:=vE (jcm xs)
 obtain⟨c,H⟩:=vE (catB xs)
 rw[<-O]at h1 h2 h3 A K ⊢;rw[<-H]at h1 h2 h3 A hs;rw[<-E]at K;have HS:=Hd (show s.size<=1000000000 by omega);have H1:=Hd h1;have H3:=Hd h3;have a6:=Hd E;have Q:=Hd H;have a7:=Hd hs;have HL:=Hd hl;have H2:=Hd h2;have HR:=Hd hr;have HC:=Hd hc;clear h1 h2 h3 A O H E hs hr hc hl;go_enter Tryz.func74,Tryz.ntmps74;go_wp2_with (refine jah Tryz.allocNode rfl rfl ?_;intro W1 X Z)
 refine vC (jcv _ ⟨#[]⟩ vI) fun w2 q=>?_;rw[<-a6.o];have a0:=Hd (X.keeps q (fun h=>h));have a1:=Hd (Z.trans q);clear X Z q;go_wp2_with fail
 refine vC (je8 _ s _ HS.o H1.o) fun w3 q=>?_;simp only;rw[H3.o,H2.o,jdb];have a2:=Hd (a0.o.keeps q (fun h=>h));have a3:=Hd (a1.o.trans q);clear q a1 a0;go_wp2_with fail
 rw[Q.o];refine (job w3 xs hx (by rw[<-Q.o];have:=a7.o;omega) (by have:=HL.o;omega)).mono ?_;rintro e w4 ⟨v,rfl,hv⟩;have a4:=Hd (a2.o.keeps hv.ext (fun h=>h));have a5:=Hd (a3.o.trans hv.ext);have J:=hv.rd;rcases hv.sl with⟨ad,cp,rfl⟩;rw[HL.o]at J ⊢;have z:=HC.o w4 _ J;have a8:=Hd z;clear hv a3 a2 J z;go_wp2_with fail
 refine a8.o.mono ?_;rintro e w5 ⟨rfl,q⟩;have a9:=Hd (a5.o.trans q);have b0:=a4.o.keeps q (fun h=>h);clear q a5 a4;unfold jad.V;go_wp2_with (refine jae (vs:=n.cells) rfl rfl rfl rfl b0 (by rw[n.cells_len HR.o];rfl) (by rw[n.cells_len HR.o];exact Tryz.szNode) n.one ?_;intro W8 b1 b2)
 refine bodyPost_ret (jaj rfl rfl rfl (jai W8 _ n HR.o b1)) rfl ?_
 exact⟨rfl,a9.o.trans' b2 (fun x hx e=>by have e:x=w.heap.size:=e;omega)⟩
end
section
open Go Go.RowKit
theorem jpg:∀ (l:vM) (i:Nat) (m:vM) (j:Nat),i+l.length<=m.length ->
  ((jaA i l).foldl (fun l x=>l.set x.1 x.2) m)[j]?=if i<=j/\j < i+l.length/\(l.getD (j - i) ⟨#[]⟩).size≠0 then some (l.getD (j - i) ⟨#[]⟩)else m[j]?
 | [],i,m,j,_=>by
  rw[if_neg (fun h=>by have J:=h.1;have o:=h.2.1;rw[dG]at o;omega)];rfl
 | r :: l,i,m,j,h=>by
  unfold jaA;simp only[bO]at h ⊢;have A:∀ (z:vM),z.length=m.length->(∀ k,k≠i->z[k]?=m[k]?)->((jaA (i+1) l).foldl (fun l x=>l.set x.1 x.2) z)[j]?=if i<=j/\j < i+(l.length+1)/\((r :: l).getD (j - i) ⟨#[]⟩).size≠0/\j≠i then some ((r :: l).getD (j - i) ⟨#[]⟩)else z[j]?:=by
   intro z H E;rw[jpg l (i+1) z j vO]
   by_cases hj:i+1<=j
   ·have e:(r :: l).getD (j - i) ⟨#[]⟩=l.getD (j - (i+1)) ⟨#[]⟩:=by
     rw[show j - i=(j - (i+1))+1 by omega,List.getD_cons_succ]
    rw[e]
    by_cases o:j < i+1+l.length/\(l.getD (j - (i+1)) ⟨#[]⟩).size≠0
    ·rw[if_pos ⟨hj,o.1,o.2⟩,if_pos ⟨by omega,by omega,o.2,by omega⟩]
    ·rw[if_neg (fun q=>o q.2),if_neg (fun q=>o ⟨by omega,q.2.2.1⟩)]
   ·rw[if_neg (fun q=>hj q.1),if_neg (fun q=>hj vO)]
  split
  ·rename_i h0
   rw[A m rfl (fun _ _=>rfl)]
   by_cases hj:j=i
   ·subst hj
    rw[if_neg (fun q=>q.2.2.2 rfl),if_neg (fun q=>q.2.2 (by rw[Nat.sub_self];exact h0))]
   ·by_cases o:i<=j/\j < i+(l.length+1)/\((r :: l).getD (j - i) ⟨#[]⟩).size≠0
    ·rw[if_pos ⟨o.1,o.2.1,o.2.2,hj⟩,if_pos o]
    ·rw[if_neg (fun q=>o ⟨q.1,q.2.1,q.2.2.1⟩),if_neg o]
  ·rename_i h0
   rw[fI,A (m.set i r) (by simp) (fun k E=>List.getElem?_set_ne (Ne.symm E))]
   by_cases hj:j=i
   ·subst hj
    rw[if_neg (fun q=>q.2.2.2 rfl),if_pos ⟨bL _,by omega,by rw[Nat.sub_self];exact h0⟩,Nat.sub_self];rw[List.getElem?_set_self vO];rfl
   ·rw[List.getElem?_set_ne (Ne.symm hj)]
    by_cases o:i<=j/\j < i+(l.length+1)/\((r :: l).getD (j - i) ⟨#[]⟩).size≠0
    ·rw[if_pos ⟨o.1,o.2.1,o.2.2,hj⟩,if_pos o]
    ·rw[if_neg (fun q=>o ⟨q.1,q.2.1,q.2.2.1⟩),if_neg o]
theorem jfI(n:jad)(hr:n.refs.length=16):jb8 n=jbZ n.refs n.value:=by
 apply List.ext_getElem?;intro j;unfold jb8 jem jbZ;rw[cD (bL _)];unfold jad.refsL;have q:((jaA 0 n.refs).foldl (fun l x=>l.set x.1 x.2) (List.replicate 17 (jaz ⟨#[]⟩))).length=17:=by
  have:=jin n n.refsL.length
  unfold jem at this;rw[cD (bL _)]at this;exact this
 by_cases h16:j=16
 ·subst h16
  rw[List.getElem?_set_self (by rw[q];omega),dA (by rw[cB,hr];omega),cB,hr];rfl
 ·rw[List.getElem?_set_ne vO,jpg n.refs 0 _ j (by rw[hr,List.length_replicate];omega),hr]
  by_cases hj:j < 16
  ·have o:j < n.refs.length:=vO
   rw[cW (by rw[cB];exact o),cA,bA o];have e:n.refs.getD (j - 0) ⟨#[]⟩=n.refs[j]:=by rw[bE,Nat.sub_zero,bA o];rfl
   rw[e]
   by_cases h0:n.refs[j].size=0
   ·rw[if_neg (fun z=>z.2.2 h0),List.getElem?_replicate,if_pos vO,fZ,if_pos h0]
   ·rw[if_pos ⟨by omega,by omega,h0⟩,fZ,if_neg h0]
  ·rw[if_neg (fun z=>hj vO),List.getElem?_replicate,if_neg vO,iW (by simp[hr];omega)]
section
variable {I:vB->jad->Prop} (HI:InlP I)
include HI
theorem MayP.item{r:vB}(h:MayP I r):jeb r:=by
 rcases h with⟨h,h1,rfl⟩ |⟨m,hm⟩
 ·exact jdd h vO
 ·obtain⟨xs,rfl,e⟩:=HI.list r m hm
  exact joa xs e
theorem MayP.ne{r:vB}(h:MayP I r):r≠jaz ⟨#[]⟩:=by
 rcases h with h |⟨m,hm⟩
 ·intro e
  have:=h.size
  rw[e]at this;exact absurd this vI
 ·obtain⟨xs,rfl,o⟩:=HI.list r m hm
  exact jeY xs o
theorem jyW(w:vW)(n:jad)(h:jbd I n):vR 74 #[.string (jaR n)] w (.tuple #[n.V,.bool true]):=by
 have A:=h.one HI;have E:=jec n A;cases h with
 | none=>exact jri w
 | leaf p v h2 h3 h4 =>
  obtain⟨a,b,c⟩:=je2 h2
  have K:=jcf p true;have O:=jaZ (putB p true);have Q:=jaZ v;simp only at b;exact jnb w (jaz (putB p true)) (jaz v) _ A.refs (jdd _ vO) (jdd _ vO) vO (fun w=>jrg w p v vO vO c)
 | ext p r h2 h3 h4 =>
  obtain⟨a,b,c⟩:=je2 h2
  have K:=jcf p false;have O:=jaZ (putB p false);simp only at b;have J:MayP I r:=h4.imp id (fun ⟨m,h,_⟩=>⟨m,h⟩);have Q:=J.size HI;exact jnb w (jaz (putB p false)) r _ A.refs (jdd _ vO) (J.item HI) vO (fun w=>jtW w p r vO c)
 | branch v rs h2 h3 h4 h5 =>
  have e:jb8 ⟨3,⟨#[]⟩,v,rs⟩=jbZ rs v:=jfI _ h2;have o:∀ x∈jbZ rs v,jeb x:=by
   intro x q;unfold jbZ at q;rcases bT.1 q with q | q
   ·obtain⟨r,H,rfl⟩:=bI.1 q
    by_cases z:r.size=0
    ·rw[if_pos z];exact jdd _ vI
    ·rw[if_neg z];exact (h4 r H z).item HI
   ·rw[bP.1 q];exact jdd _ vO
  show vQ _ #[.string (jcm (jb8 ⟨3,⟨#[]⟩,v,rs⟩))] w _;rw[e]at E ⊢;exact jrh w (jbZ rs v) _ h2 (by simp[jbZ,h2]) o vO (fun w a X=>jm8 w a rs v h2 vO (fun r H z=>(h4 r H z).ne HI) X)
end
end
section
open Go Go.RowKit
theorem jj7(n:jad)(h:jlS n):(jaR n).size<=2000:=by
 unfold jaR;have A:=h.path;have E:=h.value;split
 ·exact bH (jaZ _) vI
 ·split
  ·have o:=jcf n.path true
   have q:=jaZ (putB n.path true);have H:=jaZ n.value;have e:=jeA [jaz (putB n.path true),jaz n.value];rw[jbI,jbI,jed]at e;unfold jmG;omega
  ·split
   ·have o:=jcf n.path false
    have q:=jaZ (putB n.path false);have e:=jeA [jaz (putB n.path false),n.refs.getD 0 ⟨#[]⟩];rw[jbI,jbI,jed]at e;have J:(n.refs.getD 0 ⟨#[]⟩).size<=33:=h.each _ (by
     rw[bE,bA (by rw[h.refs];omega)];exact dY _)
    unfold extB;omega
   ·have z:=jec n h
    have e:=jeA (jb8 n);unfold jfg;omega
theorem jj6(n:jad)(h:jlS n)(hk:n.kind≠0):∃ xs,jaR n=jcm xs/\(catB xs).size<=1048576:=by
 have q:=h.path;have z:=h.value;unfold jaR;rw[if_neg hk];split
 ·have e:=jcf n.path true
  have o:=jaZ (putB n.path true);have A:=jaZ n.value
  exact⟨_,rfl,by rw[jbI,jbI,jed];omega⟩
 ·split
  ·have e:=jcf n.path false
   have o:=jaZ (putB n.path false);have E:(n.refs.getD 0 ⟨#[]⟩).size<=33:=h.each _ (by
    rw[bE,bA (by rw[h.refs];omega)];exact dY _)
   exact⟨_,rfl,by rw[jbI,jbI,jed];omega⟩
  ·exact⟨_,rfl,by have:=jec n h;omega⟩
section
variable {I:vB->jad->Prop} (HI:InlP I)
include HI
theorem jf3(w:vW)(n:jad)(h:jbd I n):vR 43 #[.string (jaR n)] w (.tuple #[n.V,.int .i64 0]):=by
 have h1:=h.one HI
 obtain⟨s,hs⟩:=vE (jaR n)
 rw[<-hs];have HS:=Hd hs;have H:=Hd h;have E:=Hd h1;have HL:=Hd (n.cells_len h1.refs);clear h h1 hs;go_enter Tryz.func43,Tryz.ntmps43;go_wp2_with (refine jah Tryz.allocNode rfl rfl ?_;intro W1 J K)
 rw[HS.o];refine vC (jyW HI W1 n H.o) fun w2 q=>?_;rw[<-HS.o];have a2:=Hd (J.keeps q (fun h=>h));have a3:=Hd (K.trans q);clear J K q;unfold jad.V;go_wp2_with (first |(refine jah Tryz.allocNode rfl rfl ?_;intro W3 O Q;refine jae (vs:=n.cells) rfl rfl rfl rfl O (by rw[HL.o];rfl) (by rw[HL.o];exact Tryz.szNode) n.one ?_;intro W4 z X) |(refine jaf 99 (.tmp 4) rfl rfl _ _ rfl (jas _ _ n E.o.refs z) ?_))
 have Z:Ext w2 W4:=Q.trans' X (fun x hx e=>by have e:x=w2.heap.size:=e;omega);refine vC (jih HI W4 n H.o) fun w5 q=>?_;have A:=z.keeps q (fun h=>h);have a4:=Hd A;have HX:=Hd (Z.trans q);clear O Q z X Z q;go_wp2_with (refine jaf 99 (.tmp 4) rfl rfl _ _ rfl (jas _ _ n E.o.refs A) ?_)
 refine vC (jol w5 n E.o) fun w6 q=>?_;rw[<-HS.o];have a5:=a4.o.keeps q (fun h=>h);have a1:=HX.o.trans q;have a0:=a2.o.keeps a1 (fun h=>h);clear A q;go_wp2_with (first |(refine jaf 99 (.tmp 4) rfl rfl _ _ rfl (jas _ _ n E.o.refs a5) ?_) |(refine jae (vs:=n.cells) rfl rfl rfl rfl a0 (by rw[HL.o];rfl) (by rw[HL.o];exact Tryz.szNode) n.one ?_;intro W8 a6 a7))
 refine bodyPost_ret (jaj rfl rfl rfl (jai W8 _ n E.o.refs a6)) rfl ?_
 exact⟨rfl,(a3.o.trans a1).trans' a7 (fun x hx e=>by have e:x=w.heap.size:=e;omega)⟩
theorem jsY(w:vW)(n:jad)(h:jbd I n)(hk:n.kind≠0)(hsm:(jaR n).size < 32):vR 52 #[.string (jaR n)] w (.tuple #[n.V,.bool true]):=by
 have X:=h.one HI
 obtain⟨s,Z⟩:=vE (jaR n)
 rw[<-Z]at hsm ⊢;have c1:¬(32:Int)<=(s.size:Int):=vO
 have c2:((n.kind:Int) == 0)=false:=by simp;omega
 have c3:¬(n.kind:Int)=0:=vO
 have HS:=Hd Z;have H:=Hd h;have H1:=Hd X;have Q:=Hd (n.cells_len X.refs);clear h X Z hk;go_enter Tryz.func52,Tryz.ntmps52;go_wp2_with (refine jah Tryz.allocNode rfl rfl ?_;intro W1 q z)
 rw[HS.o];refine vC (jf3 HI W1 n H.o) fun w2 hE=>?_;rw[<-HS.o];have A:=q.keeps hE (fun h=>h);have a0:=Hd (z.trans hE);clear q z hE;unfold jad.V;go_wp2_with (first |(refine jah Tryz.allocNode rfl rfl ?_;intro W3 a1 E;refine jae (vs:=n.cells) rfl rfl rfl rfl a1 (by rw[Q.o];rfl) (by rw[Q.o];exact Tryz.szNode) n.one ?_;intro W4 J K;have q0:W4.cell? ⟨w2.heap.size,0,none⟩=some (.int .i64 (n.kind:Int)):=J.cellL vF;have O:=(A.keeps E (fun h=>h)).keeps K (by have:=A.lt;omega)) |(refine jaf 99 (.tmp 4) rfl rfl _ _ rfl (jas _ _ n H1.o.refs J) ?_) |(refine jae (vs:=n.cells) rfl rfl rfl rfl O (by rw[Q.o];rfl) (by rw[Q.o];exact Tryz.szNode) n.one ?_;intro W8 a2 a3))
 refine bodyPost_ret (jaj rfl rfl rfl (jai W8 _ n H1.o.refs a2)) rfl ?_;have a4:Ext w2 W4:=E.trans' K (fun x hx e=>by have e:x=w2.heap.size:=e;omega)
 exact⟨rfl,(a0.o.trans a4).trans' a3 (fun x hx e=>by have e:x=w.heap.size:=e;omega)⟩
end
def InlD:Nat->vB->jad->Prop
 | 0,_,_=>False
 | d+1,r,m=>jbd (InlD d) m/\r=jaR m/\r.size < 32/\m.kind≠0
theorem inlP:∀ d,InlP (InlD d)
 | 0=>⟨fun _ _ h=>h.elim,fun _ _ h=>h.elim,fun _ _ h=>h.elim,fun _ _ h=>h.elim,fun _ _ h=>h.elim,fun _ _ h=>h.elim⟩
 | d+1=>by
  have z:=inlP d;have A:∀ r m,InlD (d+1) r m->∃ xs,r=jcm xs/\(catB xs).size<=1048576:=fun r m ⟨E,H,J,K⟩=>by
   obtain⟨xs,e,q⟩:=jj6 m (E.one z) K
   exact⟨xs,H.trans e,q⟩
  refine⟨fun r m h=>(h.1.one z).refs,fun r m h=>h.2.2.1,fun r m h=>?_,A,fun r m h=>?_,fun r m h w=>?_⟩
  ·obtain⟨xs,e,q⟩:=A r m h
   obtain⟨o,O,_⟩:=jfj xs q
   rw[e]
   have:=(jdH O).1
   omega
  ·obtain⟨xs,e,q⟩:=A r m h
   rw[e];exact jmz xs q
  ·obtain⟨E,H,J,K⟩:=h
   rw[H]at J ⊢;exact jsY z w m E K J
end
end Go.Proofs.YtepbencaoiompaaGreatDoor
