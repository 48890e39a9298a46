/- Lemmas; each is under no condition but those that it states. -/
import Derived.Test.YtdofbjccfkaijaaGreatDoorPn11
import Derived.RangeFuncCalls
namespace Go.Proofs.YtdofbjccfkaijaaGreatDoor
set_option linter.unusedSimpArgs false
set_option linter.unusedVariables false
set_option maxRecDepth 100000
set_option maxHeartbeats 16000000
section
open Go Go.RowKit
attribute [local go_sem] Oper.semAt_some
theorem Tryz.allocNode:∀ w,(Instr.alloc 94 true (.tuple #[])).run Tryz.prog w=.ok (.pointer (some ⟨w.heap.size,0,none⟩)) (w.alloc (.cells jaG.cells.toArray 94)):=fun w=>by kernel_rfl
theorem jad.one(n:jad):∀ v∈n.cells,v.oneCell'=true:=by
 intro v e;simp only[jad.cells,bM,bJ]at e;rcases e with rfl | rfl | rfl |⟨_,_,rfl⟩ <;> rfl
def je7(r:vB):Prop:=∃ h:vB,h.size=32/\r=jan h
theorem je7.size{r:vB}(h:je7 r):r.size=33:=by
 obtain⟨h,e,rfl⟩:=h
 unfold jan;rw[if_neg vO,bU,e];rfl
theorem je7.known{r:vB}(hh:je7 r):r.size<=1000000000/\∃ h q,cutN r=some q/\jfc r q=some h:=by
 have E:=hh.size
 obtain⟨h,o,e⟩:=hh
 obtain⟨q,z,A⟩:=jdU h o
 exact⟨by omega,h,q,by rw[e];exact z,by rw[e];exact A⟩
structure InlP(I:vB->jad->Prop):Prop where
 refs:∀ r m,I r m->m.refs.length=16
 small:∀ r m,I r m->r.size < 32
 pos:∀ r m,I r m->r.size≠0
 list:∀ r m,I r m->∃ xs,r=jbb xs/\(catB xs).size<=1048576
 nohash:∀ r m,I r m->∃ q,cutN r=some q/\jfc r q=none
 inl:∀ r m,I r m->∀ w,vR 113 #[.string r] w (.tuple #[m.V,.bool true])
section
variable {I:vB->jad->Prop} (HI:InlP I)
def MayP(I:vB->jad->Prop)(r:vB):Prop:=je7 r\/∃ m,I r m
include HI
theorem jBG(w:vW)(r:vB)(hr:MayP I r):vR 149 #[.string r] w (.bool true):=by
 rcases hr with hh |⟨m,hm⟩
 ·obtain⟨hs,h,q,z,A⟩:=hh.known
  have H:=Hd z;have J:=Hd A;clear z A hh;unfold vR vQ;go_in;go_wp2_with fail
  refine vH (je1 w r q vO H.o) fun w1 K=>?_;rw[J.o];unfold optV;simp only;go_wp2_with fail
  go_ret
  exact⟨rfl,K.o⟩
 ·have hs:=HI.small r m hm
  obtain⟨q,z,A⟩:=HI.nohash r m hm
  have HC:=Hd (HI.inl r m hm);have E:=Hd (HI.refs r m hm);have H:=Hd z;have J:=Hd A;clear z A;unfold vR vQ;go_in;go_wp2_with fail
  refine vH (je1 w r q vO H.o) fun w1 K=>?_;rw[J.o];unfold optV;simp only;go_wp2_with fail
  refine vH (HC.o w1) fun w2 O=>?_;have Q:=Hd (K.o.trans O);unfold jad.V;go_wp2_with (refine jaj Tryz.allocNode rfl rfl ?_;intro W3 hB X;refine jai (vs:=m.cells) rfl rfl rfl rfl hB (by rw[m.cells_len E.o];rfl) (by rw[m.cells_len E.o];exact Tryz.szNode) m.one ?_;intro W4 a1 Z)
  have a0:Ext w2 W4:=X.trans' Z (fun x hx e=>by have e:x=w2.heap.size:=e;omega);go_ret
  exact⟨rfl,Q.o.trans a0⟩
theorem jBA(w:vW)(n:jad)(r:vB)(hr:n.refs.length=16)(hp:n.pathOk 1=true)(h0:n.value=⟨#[]⟩)(hb:n.behindN=1)(H:n.refs[0]?=some r)(hm:je7 r\/∃ m,I r m/\m.kind=3):vR 121 #[n.V] w (.bool true):=by
 have a0:n.path.size<=1000000:=by
  simp only[jad.pathOk,cU,decide_eq_true_eq]at hp;omega
 have J:=jfo w n hr;have e2:n.cells[2]?=some (.string ⟨#[]⟩):=by rw[<-h0];rfl
 have e3:n.cells[3]?=some (.string r):=by
  show (n.refs.map Value.string)[0]?=_;rw[cA,H];rfl
 have HP:=Hd hp;have HB:=Hd hb;have E3:=Hd e3;clear hp hb h0 H e3;unfold jad.V at J ⊢;unfold vR vQ;go_in;go_wp2_with (refine jae 154 (.tmp 1) rfl rfl _ _ rfl J ?_)
 refine vC (jtg _ n hr 1 a0) fun w1 z=>?_;rw[HP.o];have Z:=(Blk.new w (.cells n.cells.toArray 154)).keeps z (fun h=>h);have q2:=Z.cellL e2;have A:=jb1 w1 _ n hr Z;have K:=Hd (((ExtR w).alloc _).trans z);have O:=Hd Z;unfold jad.V at A;clear J z Z;go_wp2_with (refine jae 154 (.tmp 1) rfl rfl _ _ rfl A ?_)
 refine vC (jow _ n hr) fun w2 z=>?_;rw[HB.o];have B2:=O.o.keeps z (fun h=>h);have E:=Hd (K.o.trans z);have q3:=B2.cellL E3.o;have a1:=Hd B2;clear A z q2 B2 O K;rcases hm with hh |⟨m,hm,hk⟩
 ·obtain⟨hs,h,q,H,Q⟩:=hh.known
  have H3:=Hd H;have H4:=Hd Q;clear H Q hh;go_wp2_with fail
  refine vH (je1 w2 r q hs H3.o) fun w3 z=>?_;rw[H4.o];have HE:=Hd (E.o.trans z);unfold optV;simp only;go_wp2_with fail
  go_ret
  exact⟨rfl,HE.o⟩
 ·have hs:=HI.small r m hm
  obtain⟨q,H,Q⟩:=HI.nohash r m hm
  have HC:=Hd (HI.inl r m hm);have X:=Hd (HI.refs r m hm);have H3:=Hd H;have H4:=Hd Q;have HK:=Hd hk;clear H Q hk;go_wp2_with fail
  refine vC (je1 w2 r q vO H3.o) fun w3 z=>?_;rw[H4.o];have B3:=a1.o.keeps z (fun h=>h);have HE:=Hd (E.o.trans z);have a2:=B3.cellL E3.o;clear z q3 B3;unfold optV;simp only;go_wp2_with fail
  refine vH (HC.o w3) fun w4 a3=>?_;have E:=Hd (HE.o.trans a3);clear a2;unfold jad.V;go_wp2_with (refine jaj Tryz.allocNode rfl rfl ?_;intro W3 hB a4;refine jai (vs:=m.cells) rfl rfl rfl rfl hB (by rw[m.cells_len X.o];rfl) (by rw[m.cells_len X.o];exact Tryz.szNode) m.one ?_;intro W4 a5 a6;have q0:W4.cell? ⟨w4.heap.size,0,none⟩=some (.int .i64 3):=a5.cellL (by show some (Value.int .i64 (m.kind:Int))=_;rw[HK.o];rfl))
  have a7:Ext w4 W4:=a4.trans' a6 (fun x hx e=>by have e:x=w4.heap.size:=e;omega);have a8:=Hd (E.o.trans a7);go_ret
  exact⟨rfl,a8.o⟩
structure BraC(w:World)(gn gr gf gi:Nat)(n:jad)(c:Nat)(k:Nat)(W:World):Prop where
 ext:Ext w W
 res:Blk W gr (.cells #[.bool false] 4)
 node:Blk W gn (.cells n.cells.toArray 154)
 full:Blk W gf (.cells #[.int .i64 ((c+k:Nat):Int)] 3)
 it:Blk W gi (.cells n.cells.toArray 154)
theorem juR(w:vW)(n:jad)(hr:n.refs.length=16)(hp:n.path=⟨#[]⟩)(h8:n.value.size<=80)(hm:∀ r∈n.refs,r.size≠0->MayP I r)(h2:2<=min n.value.size 1+n.refsL.length):vR 122 #[n.V] w (.bool true):=by
 have e1:n.cells[1]?=some (.string ⟨#[]⟩):=by rw[<-hp];rfl
 have e2:n.cells[2]?=some (.string n.value):=rfl;have c1:¬(80:Int) < (n.value.size:Int):=vO
 obtain⟨c,hc⟩:=vE (min n.value.size 1)
 have Z:min (n.value.size:Int) 1=(c:Int):=vO
 rw[<-hc]at h2;have HC:=Hd Z;have H2:=Hd h2;clear hp hc Z h2;refine (callsIn_wide (n:=0)).1 ?_;refine callsIn_of_wp_marks Tryz.func122 rfl trivial ?_ rfl;simp only[Tryz.ntmps122,dL,bF,cF,Nat.reduceAdd,Nat.reduceSub,dO,dN,fC,dS,cP,cZ]
 obtain⟨X,z⟩:=vE (((w.alloc (.cells n.cells.toArray 154)).alloc (.cells #[.bool false] 4)).alloc (.cells #[.int .i64 (min (n.value.size:Int) 1)] 3))
 have B0:Blk X w.heap.size (.cells n.cells.toArray 154):=by rw[z];exact ((Blk.new w _).alloc _).alloc _
 have B1:Blk X (w.heap.size+1) (.cells #[.bool false] 4):=by
  rw[z];have:=(Blk.new (w.alloc (.cells n.cells.toArray 154)) (.cells #[.bool false] 4)).alloc (.cells #[.int .i64 (min (n.value.size:Int) 1)] 3);rwa [bR]at this
 have B2:Blk X (w.heap.size+1+1) (.cells #[.int .i64 (c:Int)] 3):=by
  rw[z, <-HC.o];have:=Blk.new ((w.alloc (.cells n.cells.toArray 154)).alloc (.cells #[.bool false] 4)) (.cells #[.int .i64 (min (n.value.size:Int) 1)] 3);rwa [bR,bR]at this
 have E0:Ext w X:=by rw[z];exact (((ExtR w).alloc _).alloc _).alloc _
 have a0:X.heap.size=w.heap.size+3:=by rw[z];simp
 have J:=jb1 X _ n hr B0;rw[z]at J;have a1:=Hd z;have a2:=Hd E0;have a3:=Hd B0;have a4:=Hd B1;have a5:=Hd B2;have a6:=Hd a0;clear z E0 B0 B1 B2 a0;unfold jad.V at J ⊢;gi_wp2_with (refine jbx rfl 154 (.tmp 1) rfl _ _ rfl J ?_)
 refine⟨trivial,rfl,CallsIn.mono (callsIn_wide.2 (jpE _ n)) ?_⟩
 rintro e w1 ⟨rfl,A,E⟩;rw[<-a1.o]at A E ⊢;rw[a6.o]at A ⊢;have a7:BraC w w.heap.size (w.heap.size+1) (w.heap.size+1+1) (w.heap.size+3) n c 0 w1:=⟨a2.o.trans E,a4.o.keeps E (fun h=>h),a3.o.keeps E (fun h=>h),a5.o.keeps E (fun h=>h),A⟩;have b1:=A.lt;have a8:=Hd a7;have b2:c<=1:=by have:=HC.o;omega
 clear A E J a7 a1 a2 a3 a4 a5 a6;gi_wp2_with fail
 refine jeD (N:=n.refsL.length) (gf:=145) (lb:=#[.pointer (some ⟨w.heap.size+3,0,none⟩)]) rfl (vX 145) (jk7 (w.heap.size+3) n hr)
  (fun k=>rfl) (BraC w w.heap.size (w.heap.size+1) (w.heap.size+1+1) (w.heap.size+3) n c) (fun _ _ _=>False) (fun k W W' h e=>⟨h.ext.trans e,h.res.keeps e (fun h=>h),h.node.keeps e (fun h=>h),h.full.keeps e (fun h=>h),h.it.keeps e (fun h=>h)⟩) (fun _ _ _ _ h _=>h) (fun k W h=>h.it)
  (fun k W o h=>⟨h.ext.putObj (.inr vO) _,h.res.put_other vO _,h.node.put_other vO _,h.full.put_other vO _,h.it.put_other vO _⟩)
  (fun k W o h=>⟨h.ext.putObj (.inr vO) _,h.res.put_other vO _,h.node.put_other vO _,h.full.put_other vO _,h.it.put_other vO _⟩) (fun _ _ _ _ h=>h)
  a8.o (fun k=>{ tmps:=#[.agg n.cells.toArray,.pointer (some ⟨w.heap.size,0,none⟩),.pointer (some ⟨w.heap.size+1,0,none⟩),.pointer (some ⟨w.heap.size+1+1,0,none⟩),undef,.string (n.rr k),.pointer (some ⟨w.heap.size,1,none⟩),.string ⟨#[]⟩,.bool false,.bool false,.pointer (some ⟨w.heap.size,2,none⟩),.string n.value,.int .i64 n.value.size,.bool false,.bool false,.pointer (some ⟨w.heap.size,2,none⟩),.string n.value,.int .i64 n.value.size,.int .i64 (min (n.value.size:Int) 1),.agg n.cells.toArray,.func (.func 145) #[] #[.pointer (some ⟨w.heap.size+3,0,none⟩)],.int .i64 (n.ri k:Nat),.string (n.rr k),undef,undef,undef,undef,undef,undef,undef],defers:=[] })
  ?hassign ?hbody ?hdone ?hstop
 case hassign =>
  intro l j W K hK;rw[jwj,jsi];simp only[dM,dF];gi_wp2;exact hK
 case hbody =>
  intro l k W hk h b3;have q:=h.full.cell (i:=0) (v:=.int .i64 ((c+k:Nat):Int)) vF;have f:W.frozen? ⟨w.heap.size+1+1,0,none⟩=false:=h.full.frozen;have Q:=jwd n hr hk;have O:=hm _ (bI Q.2.1) Q.2.2;have b0:k < 16:=bQ hk (by
   have:∀ (l:vM) (i:Nat),(jay i l).length<=l.length:=by
    intro l;induction l with
    | nil=>intro i;simp[jay]
    | cons x r ih=>intro i;unfold jay;split <;> simp <;> have:=ih (i+1) <;> omega
   have:=this n.refs 0
   rw[hr]at this;exact this)
  have H:=Hd h;have HM:=Hd O;clear h Q O;clear q f;gi_wp2_with fail
  refine⟨trivial,rfl,CallsIn.mono (CallsIn.inRound l (callsIn_wide.2 (jBG HI W _ HM.o))) ?_⟩
  rintro e w5 ⟨rfl,E⟩;have q:=(H.o.full.keeps E (fun h=>h)).cell (i:=0) (v:=.int .i64 ((c+k:Nat):Int)) vF;have f:w5.frozen? ⟨w.heap.size+1+1,0,none⟩=false:=(H.o.full.keeps E (fun h=>h)).frozen;have HE:=Hd E;clear E;gi_wp2;rw[show (c:Int)+(k:Int)+1=((c+(k+1):Nat):Int) by omega];have K5:jaf (fun b=>b=w.heap.size+1+1) w5 (w5.setCell ⟨w.heap.size+1+1,0,none⟩ (.int .i64 ((c+(k+1):Nat):Int))):=jaf.oneSet w5 ⟨w.heap.size+1+1,0,none⟩ _;have K6:jaf (fun b=>b=w.heap.size+1+1) W (w5.setCell ⟨w.heap.size+1+1,0,none⟩ (.int .i64 ((c+(k+1):Nat):Int))):=(HE.o.mono (fun _ _ h=>h.elim)).trans K5
  refine⟨K6.mono (fun x hx e=>?_),?_⟩
  ·have e:x=_:=e;show x≠_/\x≠_;omega
  ·exact⟨H.o.ext.trans' K6 (fun x hx e=>by omega),H.o.res.keeps K6 vO,H.o.node.keeps K6 vO,((H.o.full.keeps HE.o (fun h=>h)).set_same (i:=0) _),H.o.it.keeps K6 vO⟩
 case hdone =>
  intro W h hd;have q:=h.full.cell (i:=0) (v:=.int .i64 ((c+n.refsL.length:Nat):Int)) vF;have q2:=h.res.cell (i:=0) (v:=.bool false) vF;have f2:W.frozen? ⟨w.heap.size+1,0,none⟩=false:=h.res.frozen;have c5:(2:Int)<=(c:Int)+(n.refsL.length:Int):=by have:=H2.o;omega
  have H:=Hd h;have HD:=Hd hd;clear h hd;gi_wp2;have B2:=(H.o.res.set_same (i:=0) (.bool true));have BD:=HD.o.set_other (p:=⟨w.heap.size+1,0,none⟩) (by show w1.heap.size≠w.heap.size+1;omega) (.bool true);have hX:Ext w ((W.setCell ⟨w.heap.size+1,0,none⟩ (.bool true)).putObj w1.heap.size (.deferred none)):=(H.o.ext.setCell (.inr (by show w.heap.size<=w.heap.size+1;omega)) _).putObj (.inr vO) _
  obtain⟨W3,a9⟩:=vE (W.setCell ⟨w.heap.size+1,0,none⟩ (.bool true))
  rw[<-a9]at B2 BD hX ⊢;have c2:(W3.putObj w1.heap.size (.deferred none)).cell? ⟨w.heap.size+1,0,none⟩=some (.bool true):=(B2.put_other vO _).cell (i:=0) (by simp)
  refine⟨by simp,.inl ⟨_,_,rfl,run_takeDeferred BD,?_⟩⟩
  exact⟨.bool true,by simp[results,Tryz.results122,go_sem,c2],rfl,hX⟩
 case hstop=>intro c k W _ _ h;exact h.elim
end
end
section
open Go Go.RowKit
theorem jqv{P:Program}{a:Act}{w:vW}{d:Option Tmp}{f:FuncId}{x:Operand}{lb:Array vV}{args:Array Operand}{ats:Array TypeId}{ty:TypeId}{pos:String}{af:Array Edge}{g:Option (Nat × Bool)}{vs:Array vV}(hx:a.eval x=.func (.func f) #[] lb)(eg:∀ args w,(callFunc f args).run P w=.ok (.enter f args) w)(hv:args.map a.eval=vs) :
  (execOp a.eval ⟨d,.call { callee:=.value x,args:=args,argTypes:=ats },ty,pos,af,g⟩).run P w=.ok (.enter f (vs++lb)) w:=by
 subst hv;simp[execOp,resolve,hx,Deferred.ofValue,invoke,bX,Result.andThen,cO,eg]
theorem jiA{P:Program}{a:Act}{w:vW}{d:Option Tmp}{f:FuncId}{x y:Operand}{ats:Array TypeId}{ty:TypeId}{pos:String}{af:Array Edge}{g:Option (Nat × Bool)}{v:vV}(hx:a.eval x=.func (.func f) #[] #[])(eg:∀ args w,(callFunc f args).run P w=.ok (.enter f args) w)(hv:a.eval y=v) :
  (execOp a.eval ⟨d,.call { callee:=.value x,args:=#[y],argTypes:=ats },ty,pos,af,g⟩).run P w=.ok (.enter f #[v]) w:=by
 have:=jqv (P:=P) (w:=w) (d:=d) (ats:=ats) (ty:=ty) (pos:=pos) (af:=af) (g:=g) (args:=#[y]) hx eg rfl
 simpa [hv]using this
theorem Tryz.allocTabV:∀ w,(Instr.alloc 200 true (.tuple #[])).run Tryz.prog w=.ok (.pointer (some ⟨w.heap.size,0,none⟩)) (w.alloc (.cells [Value.nilFunc,.nilFunc,.nilFunc,.nilFunc].toArray 200)):=fun w=>by kernel_rfl
theorem Tryz.szTabV:(Tryz.prog.info? 200).map (·.size)=some 4:=vY
theorem Tryz.allocTabT:∀ w,(Instr.alloc 202 true (.tuple #[])).run Tryz.prog w=.ok (.pointer (some ⟨w.heap.size,0,none⟩)) (w.alloc (.cells [Value.nilFunc,.nilFunc,.nilFunc,.nilFunc].toArray 202)):=fun w=>by kernel_rfl
theorem Tryz.szTabT:(Tryz.prog.info? 202).map (·.size)=some 4:=vY
theorem Tryz.uKind:Tryz.prog.underlying 91=some (.int .i64):=vY
theorem Tryz.aggV(w:vW):(isAgg 199).run Tryz.prog w=.ok false w:=vY
theorem Tryz.aggT(w:vW):(isAgg 201).run Tryz.prog w=.ok false w:=vY
theorem jaD{P:Program}{t:TypeId}(h:∀ w,(isAgg t).run P w=.ok false w){w:vW}{a:Addr}{v:vV}(hc:w.cell? a=some v):(Instr.loadAt t (.pointer (some a))).run P w=.ok v w:=by
 simp[Instr.loadAt,Instr.sureAddr,loadVar,bX,h w,Result.andThen,hc]
def fnV(f:FuncId):vV:=.func (.func f) #[] #[]
theorem jln(w:vW)(n:jad)(hr:n.refs.length=16)(hk:n.kind<=3)(f:FuncId)(hf:[fnV 119,fnV 120,fnV 121,fnV 122][n.kind]?=some (fnV f))
  (eg:∀ args w,(callFunc f args).run Tryz.prog w=.ok (.enter f args) w) (hc:∀ w,vR f #[n.V] w (.bool true)) :
  vR 88 #[n.V] w (.bool true):=by
 have e0:n.cells[0]?=some (.int .i64 (n.kind:Int)):=rfl;have c0:¬(n.kind:Int) < 0:=vO
 have c1:¬(3:Int) < (n.kind:Int):=vO
 have c2:(n.kind:Int) < 4:=vO
 have HF:=Hd hf;have HC:=Hd hc;have HR:=Hd hr;clear hf hc hr;unfold jad.V;unfold vR vQ;go_in;go_wp2_with (refine jaj Tryz.allocTabV rfl rfl ?_;intro W1 E z;refine jai (vs:=[fnV 119,fnV 120,fnV 121,fnV 122]) rfl rfl rfl rfl E rfl Tryz.szTabV (by simp[fnV,Value.oneCell']) ?_;intro O H A;have Z:O.cell? ⟨w.heap.size,0,none⟩=some (.int .i64 (n.kind:Int)):=(((Blk.new w (.cells n.cells.toArray 94)).keeps z (fun h=>h)).keeps A (by rw[bR];omega)).cellL e0)
 have qt:O.cell? ⟨w.heap.size+1,n.kind,none⟩=some (fnV f):=by
  have:=H.cellL HF.o
  rwa [bR]at this
 have J:=((Blk.new w (.cells n.cells.toArray 94)).keeps z (fun h=>h)).keeps A (by rw[bR];omega);have QT:=Hd qt;have Q0:=Hd Z;have Q:=Hd J;have HE:=Hd ((((ExtR w).alloc (.cells n.cells.toArray 94)).trans z).trans' A (fun x hx e=>by have e:x=(w.alloc (.cells n.cells.toArray 94)).heap.size:=e;rw[bR]at e;omega));clear E z H A Z qt J;refine jag [0,1,2,3,4,5,6] Ext ExtR ExtT vY vY vY ?_
 refine vK ?_
 refine qKL ⟨w.heap.size,0,none⟩ _ rfl (fun X K=>jab Tryz.uKind rfl (jaa (by exact Q0.o) K)) ?_;refine vS ?_
 refine vK ?_
 refine qKL ⟨w.heap.size+1,n.kind,none⟩ _ rfl (fun X K=>jaD Tryz.aggV (jaa (by exact QT.o) K)) ?_;refine vS ?_;refine qKL ⟨w.heap.size,0,none⟩ _ rfl (fun X K=>jao X _ n HR.o (Q.o.keeps ((jah O).trans K) (fun h=>h))) ?_;refine vS ?_;refine qKC _ f #[n.V] (.bool true) rfl (fun w1=>jiA rfl eg rfl) (fun w1 h1=>HC.o w1) ?_;refine vS ?_
 refine vK ?_
 refine qKE (fun w3 he=>?_);go_wp2_with fail
 go_ret
 exact⟨rfl,HE.o.trans ((jah O).trans he)⟩
theorem jpV(w:vW)(n:jad)(hr:n.refs.length=16)(hk:n.kind<=3)(S:vB)(f:FuncId)(hf:[fnV 123,fnV 124,fnV 125,fnV 126][n.kind]?=some (fnV f))
  (eg:∀ args w,(callFunc f args).run Tryz.prog w=.ok (.enter f args) w) (hc:∀ w,vR f #[n.V] w (.string S)) :
  vR 89 #[n.V] w (.string S):=by
 have e0:n.cells[0]?=some (.int .i64 (n.kind:Int)):=rfl;have c2:(n.kind:Int) < 4:=vO
 have HF:=Hd hf;have HC:=Hd hc;have HR:=Hd hr;clear hf hc hr;unfold jad.V;unfold vR vQ;go_in;go_wp2_with (refine jaj Tryz.allocTabT rfl rfl ?_;intro W1 E z;refine jai (vs:=[fnV 123,fnV 124,fnV 125,fnV 126]) rfl rfl rfl rfl E rfl Tryz.szTabT (by simp[fnV,Value.oneCell']) ?_;intro O H A)
 have Z:O.cell? ⟨w.heap.size,0,none⟩=some (.int .i64 (n.kind:Int)):=(((Blk.new w (.cells n.cells.toArray 154)).keeps z (fun h=>h)).keeps A (by rw[bR];omega)).cellL e0;have qt:O.cell? ⟨w.heap.size+1,n.kind,none⟩=some (fnV f):=by
  have:=H.cellL HF.o
  rwa [bR]at this
 have J:=((Blk.new w (.cells n.cells.toArray 154)).keeps z (fun h=>h)).keeps A (by rw[bR];omega);have QT:=Hd qt;have Q0:=Hd Z;have Q:=Hd J;have HE:=Hd ((((ExtR w).alloc (.cells n.cells.toArray 154)).trans z).trans' A (fun x hx e=>by have e:x=(w.alloc (.cells n.cells.toArray 154)).heap.size:=e;rw[bR]at e;omega));clear E z H A Z qt J;simp only[Act.put,gD,dM,dF,bR];refine jag [0,1,2,3,4,5,6] Ext ExtR ExtT vY vY vY ?_
 refine vK ?_
 refine qKL ⟨w.heap.size,0,none⟩ _ rfl (fun X K=>jab Tryz.uKind rfl (jaa (by exact Q0.o) K)) ?_;refine vS ?_
 refine vK ?_
 refine qKL ⟨w.heap.size+1,n.kind,none⟩ _ rfl (fun X K=>jaD Tryz.aggT (jaa (by exact QT.o) K)) ?_;refine vS ?_;refine qKL ⟨w.heap.size,0,none⟩ _ rfl (fun X K=>jb1 X _ n HR.o (Q.o.keeps ((jah O).trans K) (fun h=>h))) ?_;refine vS ?_;refine qKC _ f #[n.V] (.string S) rfl (fun w1=>jiA rfl eg rfl) (fun w1 h1=>HC.o w1) ?_;refine vS ?_
 refine vK ?_
 refine qKE (fun w3 he=>?_);go_wp2_with fail
 go_ret
 exact⟨rfl,HE.o.trans ((jah O).trans he)⟩
structure jp8(n:jad):Prop where
 refs:n.refs.length=16
 kind:n.kind<=3
 path:n.path.size<=12
 value:n.value.size<=80
 valid:jaB n.path=true
 each:∀ r∈n.refs,r.size<=33
def jaP(n:jad):vB:=if n.kind=0 then jan ⟨#[]⟩else if n.kind=1 then jme n else if n.kind=2 then extB n else jec n
theorem jlG(n:jad)(h:jp8 n):∀ x∈jbP n,x.size<=89:=by
 have z:∀ (l:List (Nat × vB)) (m:vM),(∀ x∈l,x.2.size<=89)->(∀ x∈m,x.size<=89)->∀ x∈l.foldl (fun l x=>l.set x.1 x.2) m,x.size<=89:=by
  intro l;induction l with
  | nil=>intro m _ A;exact A
  | cons y r ih =>
   intro m o A;rw[dE];refine ih _ (fun x e=>o x (bE _ e)) (fun x e=>?_);rcases List.mem_or_eq_of_mem_set e with e | rfl
   ·exact A x e
   ·exact o y (bH ..)
 intro x e;unfold jbP at e;rcases List.mem_or_eq_of_mem_set e with e | rfl
 ·refine z _ _ (fun y E=>?_) (fun y E=>?_) x e
  ·have o:=(jfn n.refs 0 y (iJ E)).2.2.1
   have:=h.each y.2 (bI o)
   omega
  ·rw[fZ E]
   have:=jaN ⟨#[]⟩
   have H:(⟨#[]⟩:vB).size=0:=rfl;omega
 ·have:=jaN n.value
  have:=h.value
  omega
theorem jrS(c:Nat):∀ (l:vM),(∀ x∈l,x.size<=c)->(catB l).size<=c * l.length
 | [],_=>by rw[jcJ];omega
 | x :: r,h=>by
  rw[ja8];have o:=h x (bH ..);have z:=jrS c r (fun y e=>h y (bE _ e));rw[bF,Nat.mul_add];omega
theorem jde(n:jad)(h:jp8 n):(catB (jbP n)).size<=1513:=by
 have:=jrS 89 _ (jlG n h)
 have e:(jbP n).length=17:=by unfold jbP;rw[List.length_set,jih]
 rw[e]at this;omega
theorem jth(w:vW)(n:jad)(h:jp8 n):vR 89 #[n.V] w (.string (jaP n)):=by
 have z:=h.kind;have J:=h.path;have K:=h.value
 by_cases k0:n.kind=0
 ·have e:jaP n=jan ⟨#[]⟩:=by unfold jaP;rw[if_pos k0]
  rw[e];exact jpV w n h.refs z _ 123 (by rw[k0];rfl) (vX 123) (fun w=>jqQ w n)
 ·by_cases k1:n.kind=1
  ·have e:jaP n=jme n:=by unfold jaP;rw[if_neg k0,if_pos k1]
   rw[e];exact jpV w n h.refs z _ 124 (by rw[k1];rfl) (vX 124) (fun w=>jqF w n vO vO h.valid)
  ·by_cases k2:n.kind=2
   ·have e:jaP n=extB n:=by unfold jaP;rw[if_neg k0,if_neg k1,if_pos k2]
    rw[e]
    obtain⟨r,A,o⟩:∃ r A,n.refs=r :: A:=by
     cases hx:n.refs with
     | nil=>have:=h.refs;rw[hx]at this;cases this
     | cons r A=>exact⟨r,A,rfl⟩
    have E:=h.each r (by rw[o];exact bH ..);exact jpV w n h.refs z _ 125 (by rw[k2];rfl) (vX 125) (fun w=>jsg w n vO r (by rw[o];rfl) vO h.valid)
   ·have H:n.kind=3:=vO
    have e:jaP n=jec n:=by unfold jaP;rw[if_neg k0,if_neg k1,if_neg k2]
    rw[e];exact jpV w n h.refs z _ 126 (by rw[H];rfl) (vX 126) (fun w=>jlH w n h.refs vO (by have:=jde n h;omega))
theorem jxM(w:vW)(s:vB)(hs:s.size<=1000000)(leaf:Bool)(x:vB)(hx:jbu s=x)(h2:2<=x.size)(h0:x[0].toNat=if leaf then 3 else 1) :
  vR 173 #[.string s] w (.tuple #[.string (x.extract 1 x.size),.bool leaf,.bool true]):=by
 go_enter Tryz.func173,Tryz.ntmps173;go_wp2_with fail
 refine vH (jpw w s hs) fun w1 e=>?_;rw[hx];clear hx hs;have z:=jbe (s:=x) vO;have E:(0:Int) < (x.size:Int):=vO
 have H:(1:Int)<=(x.size:Int):=vO
 cases leaf with
 | true =>
  have A:(x[0].toNat:Int)=3:=by simp at h0;omega
  clear h0;go_wp2_with fail
  exact bodyPost_ret (v:=.tuple #[.string (x.extract 1 x.size),.bool true,.bool true]) vY rfl ⟨rfl,e.o⟩
 | false =>
  have A:(x[0].toNat:Int)=1:=by simp at h0;omega
  clear h0;go_wp2_with fail
  exact bodyPost_ret (v:=.tuple #[.string (x.extract 1 x.size),.bool false,.bool true]) vY rfl ⟨rfl,e.o⟩
theorem jvo(w:vW)(s:vB)(hs:s.size<=1000000)(leaf:Bool)(x:vB)(hx:jbu s=x)(h2:2<=x.size)(h0:x[0].toNat=if leaf then 2 else 0)(h1:x[1].toNat=0) :
  vR 173 #[.string s] w (.tuple #[.string (x.extract 2 x.size),.bool leaf,.bool true]):=by
 go_enter Tryz.func173,Tryz.ntmps173;go_wp2_with fail
 refine vH (jpw w s hs) fun w1 e=>?_;rw[hx];clear hx hs;have z:=jbe (s:=x) vO;have H:(0:Int) < (x.size:Int):=vO
 have J:(1:Int) < (x.size:Int):=vO
 have K:(2:Int)<=(x.size:Int):=vO
 have A:(x[1].toNat:Int)=0:=vO
 clear h1;cases leaf with
 | true =>
  have E:(x[0].toNat:Int)=2:=by simp at h0;omega
  clear h0;go_wp2_with fail
  exact bodyPost_ret (v:=.tuple #[.string (x.extract 2 x.size),.bool true,.bool true]) vY rfl ⟨rfl,e.o⟩
 | false =>
  have E:(x[0].toNat:Int)=0:=by simp at h0;omega
  clear h0;go_wp2_with fail
  exact bodyPost_ret (v:=.tuple #[.string (x.extract 2 x.size),.bool false,.bool true]) vY rfl ⟨rfl,e.o⟩
end
section
open Go Go.RowKit
def jam(k:Nat):vM:=List.replicate k ⟨#[]⟩
inductive jbT (I:vB->jad->Prop):jad->Prop
 | none:jbT I jaG
 | leaf (p v:vB):(⟨1,p,v,jam 16⟩:jad).pathOk 0=true->0 < v.size->v.size<=80->jbT I ⟨1,p,v,jam 16⟩
 | ext (p r:vB):(⟨2,p,⟨#[]⟩,r :: jam 15⟩:jad).pathOk 1=true->r.size≠0->(je7 r\/∃ m,I r m/\m.kind=3)->jbT I ⟨2,p,⟨#[]⟩,r :: jam 15⟩
 | branch (v:vB) (rs:vM):rs.length=16->v.size<=80->(∀ r∈rs,r.size≠0->MayP I r)->2<=min v.size 1+(jay 0 rs).length->jbT I ⟨3,⟨#[]⟩,v,rs⟩
theorem jbR{n:jad}{k:Nat}(h:n.pathOk k=true):k<=n.path.size/\n.path.size<=12/\jaB n.path=true:=by
 simp only[jad.pathOk,cU,decide_eq_true_eq]at h;exact⟨h.1.1,h.1.2,h.2⟩
theorem jdX:∀ (k i:Nat),jay i (jam k)=[]
 | 0,_=>rfl
 | k+1,i=>by
  unfold jam;rw[fH];unfold jay;rw[if_pos (show (⟨#[]⟩:vB).size=0 from rfl)];exact jdX k (i+1)
section
variable {I:vB->jad->Prop} (HI:InlP I)
include HI
theorem MayP.size{r:vB}(h:MayP I r):r.size<=33:=by
 rcases h with h |⟨m,h⟩
 ·rw[h.size];omega
 ·have:=HI.small r m h;omega
theorem jbT.one{n:jad}(h:jbT I n):jp8 n:=by
 have z:(⟨#[]⟩:vB).size=0:=rfl;cases h with
 | none=>exact⟨rfl,by decide,by decide,by decide,rfl,fun r e=>by rw[fZ e];decide⟩
 | leaf p v h1 h2 h3 =>
  obtain⟨a,b,c⟩:=jbR h1
  exact⟨by simp[jam],by simp,b,h3,c,fun r e=>by rw[fZ e];decide⟩
 | ext p r h1 h2 h3 =>
  obtain⟨a,b,c⟩:=jbR h1
  refine⟨by simp[jam],by simp,b,by show (⟨#[]⟩:vB).size<=80;omega,c,fun x o=>?_⟩
  rcases bM.1 o with rfl | o
  ·exact MayP.size HI (h3.imp id (fun ⟨m,h,_⟩=>⟨m,h⟩))
  ·rw[fZ o];decide
 | branch v rs h1 h2 h3 h4 =>
  refine⟨h1,by simp,by show (⟨#[]⟩:vB).size<=12;omega,h2,rfl,fun r e=>?_⟩
  by_cases h0:r.size=0
  ·omega
  ·exact MayP.size HI (h3 r e h0)
theorem jlm(w:vW)(n:jad)(h:jbT I n):vR 88 #[n.V] w (.bool true):=by
 have o:=h.one HI;cases h with
 | none=>exact jln w jaG o.refs o.kind 119 rfl (vX 119) (fun w=>jAi w)
 | leaf p v h2 h3 h4=>exact jln w _ o.refs o.kind 120 rfl (vX 120) (fun w=>jAe w _ o.refs h2 h3 h4 (by unfold jad.behindN jad.refsL;rw[jdX];rfl))
 | ext p r h2 h3 h4=>exact jln w _ o.refs o.kind 121 rfl (vX 121) (fun w=>jBA HI w _ r o.refs h2 rfl (by
   have e:jay 0 (r :: jam 15)=[(0,r)]:=by unfold jay;rw[if_neg h3,jdX]
   unfold jad.behindN;have z:jad.refsL ⟨2,p,⟨#[]⟩,r :: jam 15⟩=[(0,r)]:=e;rw[z];show jad.ri _ 0+1=1;unfold jad.ri;rw[z];rfl) rfl h4)
 | branch v rs h2 h3 h4 h5=>exact jln w _ o.refs o.kind 122 rfl (vX 122) (fun w=>juR HI w _ o.refs rfl h3 h4 h5)
theorem jjX(w:vW)(n:jad)(h:jbT I n):vR 52 #[n.V] w (.tuple #[.string (jaP n),.int .i64 0]):=by
 have E:=h.one HI;have z:=jao (w.alloc (.cells n.cells.toArray 94)) _ n E.refs (Blk.new w _);have H:=Hd h;have O:=Hd E;clear h E;unfold jad.V at z ⊢;unfold vR vQ;go_in;go_wp2_with (refine jae 94 (.tmp 1) rfl rfl _ _ rfl z ?_)
 refine vC (jlm HI _ n H.o) fun w1 A=>?_;have Q:=(Blk.new w (.cells n.cells.toArray 94)).keeps A (fun h=>h);have e:=jao w1 _ n O.o.refs Q;have J:=Hd (((ExtR w).alloc _).trans A);unfold jad.V at e;clear z A Q;go_wp2_with (refine jae 94 (.tmp 1) rfl rfl _ _ rfl e ?_)
 refine vH (jth w1 n O.o) fun X A=>?_;have K:=Hd (J.o.trans A);clear e;go_wp2_with fail
 go_ret2
 exact⟨rfl,K.o⟩
end
theorem jj1:∀ (l:vN),l.length % 2=0->(∀ b∈l,b<=15)->jcv (jcz l)=l
 | [],_,_=>rfl
 | [x],h,_=>by simp at h
 | x :: y :: r,h,hb=>by
  have A:=hb x (bH ..);have E:=hb y (bE _ (bH ..));have z:=jj1 r (by simp at h;omega) (fun b e=>hb b (bE _ (bE _ e)));show jcv ((x <<< 4 ||| y) :: jcz r)=_;unfold jcv at z ⊢;rw[cH,z];have H:x.toNat<=15:=dY.1 A;have J:y.toNat<=15:=dY.1 E
  have:∀ a b:Fin 16,((UInt8.ofNat a.1 <<< 4 ||| UInt8.ofNat b.1) >>> 4=UInt8.ofNat a.1)/\((UInt8.ofNat a.1 <<< 4 ||| UInt8.ofNat b.1) &&& 15=UInt8.ofNat b.1):=by decide
  have o:=this ⟨x.toNat,by omega⟩ ⟨y.toNat,by omega⟩;simp only[iQ]at o;rw[o.1,o.2];rfl
theorem jgP(p:vB)(leaf:Bool)(hv:jaB p=true):jbu (putB p leaf)=⟨(jch p leaf++p.data.toList).toArray⟩:=by
 unfold jbu putB jbt;rw[jj1]
 ·show (jch p leaf++p.data.toList).length % 2=0
  rw[bC,show p.data.toList.length=p.size from rfl];unfold jch oddB
  by_cases h:p.size % 2=1
  ·simp[h];omega
  ·have:(p.size % 2 == 1)=false:=by simpa using h
   rw[this];simp;omega
 ·intro b hb
  have hb:b∈jch p leaf++p.data.toList:=hb;rcases bT.1 hb with hb | hb
  ·unfold jch jed oddB at hb
   rcases bM.1 hb with rfl | hb
   ·cases leaf <;> cases (p.size % 2 == 1) <;> decide
   ·split at hb
    ·cases hb
    ·rw[bZ.1 hb];decide
  ·exact of_decide_eq_true (fB.1 hv b hb)
theorem joY(w:vW)(p:vB)(leaf:Bool)(hs:p.size<=900000)(hv:jaB p=true):vR 173 #[.string (putB p leaf)] w (.tuple #[.string p,.bool leaf,.bool true]):=by
 have o:=jgP p leaf hv;have E:=jbn p leaf;have H:∀ a:vU,(⟨(a :: p.data.toList).toArray⟩:vB).extract 1 (⟨(a :: p.data.toList).toArray⟩:vB).size=p:=fun a=>by
  have:=jiB ⟨#[a]⟩ p
  have z:(⟨#[a]⟩:vB)++p=⟨(a :: p.data.toList).toArray⟩:=by rw[juG (_++p),cY,fW];rfl
  rw[z]at this;exact this
 have J:∀ a b:vU,(⟨(a :: b :: p.data.toList).toArray⟩:vB).extract 2 (⟨(a :: b :: p.data.toList).toArray⟩:vB).size=p:=fun a b=>by
  have:=jiB ⟨#[a,b]⟩ p
  have z:(⟨#[a,b]⟩:vB)++p=⟨(a :: b :: p.data.toList).toArray⟩:=by rw[juG (_++p),cY,fW];rfl
  rw[z]at this;exact this
 by_cases ho:p.size % 2=1
 ·have e:oddB p=true:=by unfold oddB;simpa using ho
  have A:jch p leaf=[jed leaf true]:=by unfold jch;rw[e];rfl
  rw[A]at o
  have:=jxM w (putB p leaf) vO leaf ⟨(jed leaf true :: p.data.toList).toArray⟩ o (by show 2<=p.data.toList.length+1;have:p.data.toList.length=p.size:=rfl;omega) (by cases leaf <;> rfl)
  rw[H]at this;exact this
 ·have e:oddB p=false:=by unfold oddB;simpa using ho
  have A:jch p leaf=[jed leaf false,0]:=by unfold jch;rw[e];rfl
  rw[A]at o
  have:=jvo w (putB p leaf) vO leaf ⟨(jed leaf false :: 0 :: p.data.toList).toArray⟩ o (by show 2<=p.data.toList.length+2;omega) (by cases leaf <;> rfl) rfl
  rw[J]at this;exact this
end
section
open Go Go.RowKit
theorem jaE{P:Program}{fn:Func}{t u:Tmp}{ty:TypeId}(h:fn.results=#[.cell t ty,.tmp u]){tmps:Array vV}{a:Addr}(ha:tmps.getD t undef=.pointer (some a)){w:vW}{v x:vV}(hx:tmps.getD u undef=x)(hl:(loadVar ty a).run P w=.ok v w) :
  (results fn tmps).run P w=.ok (.tuple #[v,x]) w:=by
 have e:tmps[t]?.getD undef=.pointer (some a):=by simpa using ha
 have o:tmps[u]?.getD undef=x:=by simpa using hx
 simp[results,h,e,o,asAddr,bX,Result.andThen,hl]
theorem jau(W:vW)(b:Nat)(n:jad)(hr:n.refs.length=16)(hB:Blk W b (.cells n.cells.toArray 94)):(loadVar 94 ⟨b,0,none⟩).run Tryz.prog W=.ok n.V W:=by
 have:=jao W b n hr hB
 simpa [Instr.loadAt,Instr.sureAddr,bX,Result.andThen]using this
def jcd(k:Int)(p v:vB)(r:vB):List vV:=[.int .i64 k,.string p,.string v,.string r,.string ⟨#[]⟩,.string ⟨#[]⟩,.string ⟨#[]⟩,.string ⟨#[]⟩,.string ⟨#[]⟩,.string ⟨#[]⟩,.string ⟨#[]⟩,.string ⟨#[]⟩,.string ⟨#[]⟩,.string ⟨#[]⟩,.string ⟨#[]⟩,.string ⟨#[]⟩,.string ⟨#[]⟩,.string ⟨#[]⟩,.string ⟨#[]⟩]
theorem jce(k:Int)(p v r:vB):∀ x∈jcd k p v r,x.oneCell'=true:=by simp[jcd,Value.oneCell']
theorem jqX(w:vW)(p v:vB)(hp:p.size<=900000)(hv:v.size<=100000)(hok:jaB p=true):vR 153 #[.string (jan (putB p true)),.string (jan v)] w (.tuple #[(⟨1,p,v,jam 16⟩:jad).V,.bool true]):=by
 obtain⟨q,h1,h2⟩:=jey (putB p true) (by have:=jbn p true;omega)
 obtain⟨q',h3,h4⟩:=jey v vO
 have z1:(jan (putB p true)).size<=1000000000:=by have:=jbn p true;have:=jaN (putB p true);omega
 have z2:(jan v).size<=1000000000:=by have:=jaN v;omega
 have H1:=Hd h1;have H2:=Hd h2;have H3:=Hd h3;have H4:=Hd h4;clear h1 h2 h3 h4;unfold vR vQ;go_in;go_wp2_with (refine jaj Tryz.allocNode rfl rfl ?_;intro W1 A E)
 refine vC (jiX _ _ q z1 H1.o) fun w2 z=>?_;rw[H2.o];have H:=A.keeps z (fun h=>h);have J:=Hd (E.trans z);have K:=Hd H;clear A E z H;unfold optV;simp only;go_wp2_with fail
 refine vC (joY _ p true hp hok) fun w3 z=>?_;have O:=Hd (J.o.trans z);have Q:=Hd (K.o.keeps z (fun h=>h));clear z J K;go_wp2_with fail
 refine vC (jiX _ _ q' z2 H3.o) fun w4 z=>?_;rw[H4.o];have X:=Hd (O.o.trans z);have Z:=Q.o.keeps z (fun h=>h);clear z O Q;unfold optV;simp only;go_wp2_with (refine jai (vs:=jcd 1 p v ⟨#[]⟩) rfl rfl rfl rfl Z rfl Tryz.szNode (jce _ _ _ _) ?_;intro W5 a0 a1)
 refine bodyPost_ret (jaE rfl rfl rfl (jau W5 _ ⟨1,p,v,jam 16⟩ rfl a0)) rfl ?_
 exact⟨rfl,X.o.trans' a1 (fun x hx e=>by have e:x=w.heap.size:=e;omega)⟩
theorem jtD(w:vW)(p r:vB)(hp:p.size<=900000)(hok:jaB p=true):vR 153 #[.string (jan (putB p false)),.string r] w (.tuple #[(⟨2,p,⟨#[]⟩,r :: jam 15⟩:jad).V,.bool true]):=by
 obtain⟨q,h1,h2⟩:=jey (putB p false) (by have:=jbn p false;omega)
 have z1:(jan (putB p false)).size<=1000000000:=by have:=jbn p false;have:=jaN (putB p false);omega
 have H1:=Hd h1;have H2:=Hd h2;clear h1 h2;unfold vR vQ;go_in;go_wp2_with (refine jaj Tryz.allocNode rfl rfl ?_;intro W1 J K)
 refine vC (jiX _ _ q z1 H1.o) fun w2 z=>?_;rw[H2.o];have O:=J.keeps z (fun h=>h);have Q:=Hd (K.trans z);have X:=Hd O;clear J K z O;unfold optV;simp only;go_wp2_with fail
 refine vC (joY _ p false hp hok) fun A z=>?_;have a1:=Hd (Q.o.trans z);have E:=Hd (X.o.keeps z (fun h=>h));clear z Q X;go_wp2_with (first |(refine jaj Tryz.allocNode rfl rfl ?_;intro W5 a2 Z;refine jai (vs:=jcd 2 p ⟨#[]⟩ ⟨#[]⟩) rfl rfl rfl rfl a2 rfl Tryz.szNode (jce _ _ _ _) ?_;intro W6 H a0;have q3:W6.cell? ⟨A.heap.size,3,none⟩=some (.string ⟨#[]⟩):=H.cell (i:=3) vF;have f3:W6.frozen? ⟨A.heap.size,3,none⟩=false:=H.frozen;have a3:=Hd (H.set_same (i:=3) (.string r))) |(refine jae 94 (.tmp 10) rfl rfl _ _ rfl (jao _ _ ⟨2,p,⟨#[]⟩,r :: jam 15⟩ rfl a3.o) ?_;refine jai (vs:=jad.cells ⟨2,p,⟨#[]⟩,r :: jam 15⟩) rfl rfl rfl rfl (((E.o.keeps Z (fun h=>h)).keeps a0 (by have:=E.o.lt;omega)).set_other (p:=⟨A.heap.size,3,none⟩) (by have:=E.o.lt;show w.heap.size≠A.heap.size;omega) (.string r)) rfl Tryz.szNode (jad.one _) ?_;intro W8 a4 a5))
 refine bodyPost_ret (jaE rfl rfl rfl (jau W8 _ ⟨2,p,⟨#[]⟩,r :: jam 15⟩ rfl a4)) rfl ?_;have k1:Ext A (W6.setCell ⟨A.heap.size,3,none⟩ (.string r)):=(Z.trans' a0 (fun x hx e=>by have e:x=A.heap.size:=e;omega)).setCell (.inr (bL _)) _
 exact⟨rfl,(a1.o.trans k1).trans' a5 (fun x hx e=>by have e:x=w.heap.size:=e;omega)⟩
def ja7(rs:vM)(v:vB):vM:=rs.map (fun r=>if r.size=0 then jan ⟨#[]⟩else r)++[jan v]
def brN(rs:vM)(k:Nat):jad:=⟨3,⟨#[]⟩,⟨#[]⟩,rs.take k++jam (16 - k)⟩
theorem jrL{rs:vM}(h:rs.length=16){k:Nat}(hk:k<=16):(brN rs k).refs.length=16:=by simp[brN,jam,h];omega
theorem jrM{rs:vM}(h:rs.length=16){k:Nat}(hk:k < 16)(r:vB)(hr:rs[k]?=some r):(brN rs k).cells.set (3+k) (.string r)=(brN rs (k+1)).cells:=by
 have e:(rs.take k++jam (16 - k)).set k r=rs.take (k+1)++jam (16 - (k+1)):=by
  rw[fJ _ _ (by simp[h];omega)]
  have:k - (rs.take k).length=0:=by simp[h];omega
  rw[this,show 16 - k=(16 - (k+1))+1 by omega];unfold jam;rw[fH,dM,bY,hr];simp
 unfold jad.cells brN;simp only;rw[show 3+k=k+1+1+1 by omega,dF,dF,dF, <-e,iA]
theorem juQ{rs:vM}(h:rs.length=16){k:Nat}(hk:k < 16)(r:vB)(hr:rs[k]?=some r)(h0:r.size=0):brN rs (k+1)=brN rs k:=by
 have e:r=⟨#[]⟩:=by
  obtain⟨⟨l⟩⟩:=r
  cases l with
  | nil=>rfl
  | cons x y=>exact absurd h0 (iH _)
 unfold brN;rw[bY,hr,e,show 16 - k=(16 - (k+1))+1 by omega];unfold jam;rw[fH];simp
def jy2(w:vW)(g2 g4:Nat)(rs:vM)(i:vV)(wr:vW):Prop:=∃ k:Nat,k<=16/\i=.int .i64 k/\Ext w wr/\Blk wr g2 (.cells jaG.cells.toArray 94)/\Blk wr g4 (.cells (brN rs k).cells.toArray 94)
theorem jmL(w:vW)(a:vV)(rs:vM)(v:vB)(hr:rs.length=16)(hv:v.size<=100000)(hne:∀ r∈rs,r.size≠0->r≠jan ⟨#[]⟩)(ha:RdS w a (ja7 rs v)):vR 154 #[a] w (.tuple #[(⟨3,⟨#[]⟩,v,rs⟩:jad).V,.bool true]):=by
 have O:(ja7 rs v).length=17:=by simp[ja7,hr]
 rcases ha with⟨_,_,_,h0⟩ |⟨b,o,c,rfl,hb,hc,hcell⟩
 ·rw[h0]at O;cases O
 rw[O]at hc ⊢;have b4:∀ (k:Nat) r,rs[k]?=some r->w.cell? ⟨b,o+k,none⟩=some (.string (if r.size=0 then jan ⟨#[]⟩else r)):=fun k r hk=>hcell k _ (by
  unfold ja7;rw[dB (by rw[cC];exact (bP.1 hk).1),cA,hk];rfl)
 have b5:w.cell? ⟨b,o+16,none⟩=some (.string (jan v)):=hcell 16 _ (by
  unfold ja7;rw[cV (by rw[cC];omega),cC,hr];rfl)
 obtain⟨q,h1,h2⟩:=jey v vO
 have z1:(jan v).size<=1000000000:=by have:=jaN v;omega
 have c3:=Hd b4;have c4:=Hd b5;have H1:=Hd h1;have H2:=Hd h2;have Q:=Hd hr;have c5:=Hd hne;clear b4 b5 h1 h2 O hcell hr hne;unfold vR vQ;go_in;go_wp2_with (first |(refine jaj Tryz.allocNode rfl rfl ?_;intro W3 b6 a1;refine jai (vs:=jcd 3 ⟨#[]⟩ ⟨#[]⟩ ⟨#[]⟩) rfl rfl rfl rfl b6 rfl Tryz.szNode (jce _ _ _ _) ?_;intro W4 A a2) |(refine jaj Tryz.allocNode rfl rfl ?_;intro W1 X a3))
 have h4:Ext w W4:=(a3.trans a1).trans' a2 (fun x hx e=>by have e:x=W1.heap.size:=e;have:=a3.size;omega);have h5:=(X.keeps a1 (fun h=>h)).keeps a2 (by have:=X.lt;omega)
 obtain⟨E,b7⟩:∃ g,g=W1.heap.size:=⟨_,rfl⟩
 obtain⟨g2,b8⟩:∃ g,g=w.heap.size:=⟨_,rfl⟩
 have c9:g2 < E:=by have:=X.lt;omega
 have n2:w.heap.size<=g2:=vO
 rw[<-b7]at A ⊢;rw[<-b8]at h5 ⊢;have a4:=Hd h4;have H:=Hd A;have H5:=Hd h5;clear b7 b8 h4 h5 A a3 X b6 a1 a2;go_loopw [9] (fun i wr=>jy2 w g2 E rs i wr) (fun i _=>16 - (intOf i).toNat)
 case atStart=>exact⟨0,by omega,rfl,a4.o,H5.o,H.o⟩
 case round =>
  obtain⟨k,hk,rfl,hE,b9,A⟩:=hrel
  have HE:=Hd hE;have a5:=Hd b9;have H:=Hd A;clear hE b9 A
  by_cases hlt:k < 16
  ·obtain⟨r,Z⟩:∃ r,rs[k]?=some r:=⟨_,bA (by have:=Q.o;omega)⟩
   have J:=jaa (c3.o k r Z) HE.o;have b1:(k:Int) < 17:=vO
   have b0:r∈rs:=bI Z
   obtain⟨em,a6⟩:=vE (jan ⟨#[]⟩)
   rw[<-a6]at J;have a7:=Hd a6;have c0:=Hd Z;clear a6 Z
   by_cases h0:r.size=0
   ·rw[if_pos h0]at J
    have QX:=Hd J;clear J;go_wp2_with fail
    refine jag [0,1,2,3,4,5] Ext ExtR ExtT vY vY vY ?_;iterate 3 refine vK ?_
    refine qKL ⟨b,o+k,none⟩ _ rfl (fun w2 h2=>jab Tryz.uStr rfl (jaa (by exact QX.o) h2)) ?_;refine vS ?_;refine qKC _ 83 #[.string ⟨#[]⟩] (.string em) rfl (fun w1=>jaq (vX 83) vY) (fun w1 h1=>by rw[a7.o];exact jea w1 ⟨#[]⟩ vI) ?_;refine vS ?_
    refine vK ?_
    refine qKE (fun w3 he=>?_);have K:=(jah wr).trans he;have a8:=Hd (HE.o.trans K);have a9:=Hd (a5.o.keeps K (fun h=>h));have z:=Hd (H.o.keeps K (fun h=>h));clear he K;go_wp2_with fail
    go_roundw
    case rel=>exact⟨k+1,by omega,by go_num,a8.o,a9.o,by rw[juQ Q.o hlt r c0.o h0];exact z.o⟩
    case measure=>exact vJ
   ·rw[if_neg h0]at J
    have hq:(r.toList == em.toList)=false:=by
     rw[beq_eq_false_iff_ne,bO,bO];intro e;exact c5.o r b0 h0 (by rw[<-a7.o];exact ByteArray.ext (Array.ext' e))
    have QX:=Hd J;clear J;go_wp2_with fail
    refine jag [0,1,2,3,4,5] Ext ExtR ExtT vY vY vY ?_;iterate 3 refine vK ?_
    refine qKL ⟨b,o+k,none⟩ _ rfl (fun w2 h2=>jab Tryz.uStr rfl (jaa (by exact QX.o) h2)) ?_;refine vS ?_;refine qKC _ 83 #[.string ⟨#[]⟩] (.string em) rfl (fun w1=>jaq (vX 83) vY) (fun w1 h1=>by rw[a7.o];exact jea w1 ⟨#[]⟩ vI) ?_;refine vS ?_
    refine vK ?_
    refine qKE (fun w3 he=>?_);have K:=(jah wr).trans he;have a8:=Hd (HE.o.trans K);have a9:=Hd (a5.o.keeps K (fun h=>h));have z:=Hd (H.o.keeps K (fun h=>h));have J:=jaa QX.o K
    obtain⟨old,q4⟩:∃ v,w3.cell? ⟨E,3+k,none⟩=some v:=⟨_,z.o.cellL (bA (by rw[jad.cells_len _ (jrL Q.o hk)];omega))⟩
    have f4:w3.frozen? ⟨E,3+k,none⟩=false:=z.o.frozen;have b2:(k:Int) < 16:=vO
    clear he K;go_wp2_with fail
    go_roundw
    case rel =>
     refine⟨k+1,by omega,by go_num,a8.o.setCell (.inr (by show w.heap.size<=E;omega)) _,a9.o.set_other (p:=⟨E,3+k,none⟩) (by show g2≠E;omega) _,?_⟩
     have:=z.o.set_same (i:=3+k) (.string r)
     rw[show (brN rs k).cells.toArray.setIfInBounds (3+k) (.string r)=((brN rs k).cells.set (3+k) (.string r)).toArray by simp,jrM Q.o hlt r c0.o]at this;exact this
    case measure=>exact vJ
  ·have b3:k=16:=vO
   subst b3;have J:=jaa c4.o HE.o;go_wp2_with fail
   refine vC (jiX _ _ q z1 H1.o) fun w4 hE=>?_;rw[H2.o];have a0:=H.o.keeps hE (fun h=>h);have q4:w4.cell? ⟨E,2,none⟩=some (.string ⟨#[]⟩):=a0.cellL vF;have f4:w4.frozen? ⟨E,2,none⟩=false:=a0.frozen;have z:=Hd (a0.set_same (i:=2) (.string v));have c1:=(a5.o.keeps hE (fun h=>h)).set_other (p:=⟨E,2,none⟩) (by show g2≠E;omega) (.string v);have c6:=Hd c1;have a4:=Hd (HE.o.trans hE);have c2:brN rs 16=⟨3,⟨#[]⟩,⟨#[]⟩,rs⟩:=by unfold brN jam;rw[bN (by have:=Q.o;omega)];simp
   rw[c2]at z;have ec:(jad.cells ⟨3,⟨#[]⟩,⟨#[]⟩,rs⟩).toArray.setIfInBounds 2 (.string v)=(jad.cells ⟨3,⟨#[]⟩,v,rs⟩).toArray:=by simp[jad.cells]
   rw[ec]at z;clear hE a0 c1 J ec c2;unfold optV;simp only;go_wp2_with (first |(refine jae 94 (.tmp 4) rfl rfl _ _ rfl (jao _ _ ⟨3,⟨#[]⟩,v,rs⟩ Q.o z.o) ?_) |(refine jai (vs:=jad.cells ⟨3,⟨#[]⟩,v,rs⟩) rfl rfl rfl rfl c6.o (by rw[jad.cells_len ⟨3,⟨#[]⟩,v,rs⟩ Q.o];rfl) (by rw[jad.cells_len ⟨3,⟨#[]⟩,v,rs⟩ Q.o];exact Tryz.szNode) (jad.one _) ?_;intro W8 c7 c8))
   refine bodyPost_ret (jaE rfl rfl rfl (jau W8 _ ⟨3,⟨#[]⟩,v,rs⟩ Q.o c7)) rfl ?_
   exact⟨rfl,(a4.o.setCell (.inr (by show w.heap.size<=E;omega)) _).trans' c8 (fun x hx e=>by have e:x=g2:=e;omega)⟩
theorem jeQ(xs:vM)(hn:(catB xs).size<=1048576):jbb xs≠jan ⟨#[]⟩:=by
 intro e
 obtain⟨o,z,_⟩:=jfa xs hn
 obtain⟨E,A,_⟩:=jlR ⟨#[]⟩ vI
 rw[e,A]at z;cases z
theorem jm4{a b:vB}(h:a≠b):(a.toList == b.toList)=false:=by
 rw[beq_eq_false_iff_ne,bO,bO];exact fun e=>h (ByteArray.ext (Array.ext' e))
theorem jiD(s:vB):s.extract s.size s.size=⟨#[]⟩:=by
 apply ByteArray.ext;apply Array.ext';simp
theorem jcP(xs:vM):(jbb xs).size<=(catB xs).size+9:=by
 unfold jbb;rw[bU];have:=jes 192 (catB xs).size;omega
theorem jqZ(w:vW):vR 127 #[.string (jan ⟨#[]⟩)] w (.tuple #[jaG.V,.bool true]):=by
 obtain⟨Z,z⟩:=vE (jan ⟨#[]⟩)
 rw[<-z];have H:=Hd z;clear z;unfold vR vQ;go_in;go_wp2_with (refine jaj Tryz.allocNode rfl rfl ?_;intro W1 A E)
 refine vC (jea _ ⟨#[]⟩ vI) fun w2 J=>?_;rw[<-H.o];have K:=A.keeps J (fun h=>h);have O:=Hd (E.trans J);clear A E J;go_wp2_with (refine jai (vs:=jaG.cells) rfl rfl rfl rfl K rfl Tryz.szNode (jad.one _) ?_;intro W8 Q X)
 refine bodyPost_ret (jaE rfl rfl rfl (jau W8 _ jaG rfl Q)) rfl ?_
 exact⟨rfl,O.o.trans' X (fun x hx e=>by have e:x=w.heap.size:=e;omega)⟩
theorem jjj{P:Program}{o:Oper}{a:Act}{w:vW}{K:Act->vW->Prop}{Q:Exit->Act->vW->Prop}{T T2:TypeId}{x y:Operand}{b:Nat}{old vs:List vV}(ho:o.op=.store T x y)(hx:a.eval x=.pointer (some ⟨b,0,none⟩))(hy:a.eval y=.agg vs.toArray)
  (hB:Blk w b (.cells old.toArray T2)) (hl:old.length=vs.length) (hi:(P.info? T).map (·.size)=some vs.length) (h1:∀ v∈vs,v.oneCell'=true)
  (h:∀ W,Blk W b (.cells vs.toArray T2)->jaf (fun z=>z=b) w W->K (a.put o.dst undef) W):o.wp P a w K Q:=by
 refine wp_store_mid T x y ho b 0 vs.toArray hx hy (by have:=jlh hB;rw[hl]at this;simpa using this) (by simpa using hi) (all_oneCell_toArray h1) (h _ ?_ (jaf.oneSetCells b vs 0 w))
 have:=Blk.setCells vs 0 w old hB vO
 rw[iC vO]at this;simpa using this
theorem jmM(w:vW)(x y:vB)(n:jad)(hr:n.refs.length=16)(hx:jgp x)(hy:jgp y)(hs:x.size+y.size<=1048576)
  (hc:∀ w,vR 153 #[.string x,.string y] w (.tuple #[n.V,.bool true])) :
  vR 127 #[.string (jbb [x,y])] w (.tuple #[n.V,.bool true]):=by
 have E:(catB [x,y]).size=x.size+y.size:=by rw[ja8,ja8,jcJ];omega
 obtain⟨o,A,h2,h3⟩:=jfa [x,y] vO
 have H:=jcP [x,y]
 obtain⟨em,J⟩:=vE (jan ⟨#[]⟩)
 have Z:=jm4 (jeQ [x,y] vO)
 obtain⟨s,a0⟩:=vE (jbb [x,y])
 obtain⟨c,O⟩:=vE (catB [x,y])
 rw[<-a0]at A h2 h3 H Z ⊢;rw[<-O]at A h2 h3 H E;rw[<-J]at Z;have HS:=Hd (show s.size<=1000000000 by omega);have H1:=Hd A;have H3:=Hd h3;have b4:=Hd J;have a1:=Hd O;have b5:=Hd E;have H2:=Hd h2;have HR:=Hd hr;have HC:=Hd hc;clear A h2 h3 H a0 O J E hr hc;unfold vR vQ;go_in;go_wp2_with (refine jaj Tryz.allocNode rfl rfl ?_;intro W1 a2 a3)
 refine vC (jea _ ⟨#[]⟩ vI) fun w2 Q=>?_;rw[<-b4.o];have a4:=Hd (a2.keeps Q (fun h=>h));have a5:=Hd (a3.trans Q);clear a2 a3 Q;go_wp2_with fail
 refine vC (jog _ s _ HS.o H1.o) fun w3 Q=>?_;simp only;rw[H3.o,H2.o,jiD];have a6:=Hd (a4.o.keeps Q (fun h=>h));have a7:=Hd (a5.o.trans Q);clear Q a5 a4;go_wp2_with fail
 rw[a1.o];refine (jsB w3 [x,y] (by intro z hz;rcases bM.1 hz with rfl | hz;exact hx;rw[bZ.1 hz];exact hy) (by rw[<-a1.o,b5.o];omega) (show 2<=1000000 by decide)).mono ?_;rintro e w4 ⟨v,rfl,hv⟩;have a8:=Hd (a6.o.keeps hv.ext (fun h=>h));have a9:=Hd (a7.o.trans hv.ext);rcases hv.rd with⟨_,_,_,h0⟩ |⟨b,o2,c2,rfl,hb,hc,hcell⟩
 ·cases h0
 have QX:=Hd (hcell 0 x rfl);have QY:=Hd (hcell 1 y rfl);clear hv hcell a7 a6;go_wp2_with fail
 refine jaz [0,1,2,3,4,5,6,7,8,9,10] [9] Ext ExtR ExtT vY vY vY ?_;iterate 2 refine vP ?_
 refine qL ⟨b,o2,none⟩ _ rfl (fun w1 A=>jab Tryz.uStr rfl (jaa (by exact QX.o) A)) ?_;refine vS ?_;iterate 2 refine vP ?_
 refine qL ⟨b,o2+1,none⟩ _ rfl (fun w1 A=>jab Tryz.uStr rfl (jaa (by exact QY.o) A)) ?_;refine vS ?_;refine jc9 _ 153 #[.string x,.string y] (.tuple #[n.V,.bool true]) rfl vY rfl (fun w1=>jaq (vX 153) vY) (fun w1 A=>HC.o w1) ?_;refine vS ?_;iterate 2 refine vP ?_
 refine qH _ rfl (fun w5 X K hK=>?_);have hX:=(jah w4).trans X;refine jjj (vs:=n.cells) rfl rfl rfl (a8.o.keeps hX (fun h=>h)) (by rw[n.cells_len HR.o];rfl) (by rw[n.cells_len HR.o];exact Tryz.szNode) n.one ?_;intro W6 b0 b1;have b2:=Hd b0;have b3:=Hd ((a9.o.trans hX).trans' b1 (fun x hx e=>by have e:x=w.heap.size:=e;omega));clear X hX b0 b1 QX QY a8 a9;refine vS ?_;refine hK _ _ ?_;clear hK K
 refine vP ?_
 refine qE (fun w7 X=>?_);have b6:=Hd (b2.o.keeps X (fun h=>h));have b7:=Hd (b3.o.trans X);clear X b2 b3;go_wp2_with fail
 refine bodyPost_ret (jaE rfl rfl rfl (jau w7 _ n HR.o b6.o)) rfl ?_
 exact⟨rfl,b7.o⟩
theorem jqY(w:vW)(xs:vM)(n:jad)(hr:n.refs.length=16)(hl:xs.length=17)(hx:∀ x∈xs,jgp x)(hs:(catB xs).size<=1048576)
  (hc:∀ w v,RdS w v xs->vR 154 #[v] w (.tuple #[n.V,.bool true])) :
  vR 127 #[.string (jbb xs)] w (.tuple #[n.V,.bool true]):=by
 obtain⟨o,h1,h2,h3⟩:=jfa xs hs
 have E:=jcP xs
 obtain⟨em,H⟩:=vE (jan ⟨#[]⟩)
 have O:=jm4 (jeQ xs hs)
 obtain⟨s,Q⟩:=vE (jbb xs)
 obtain⟨c,J⟩:=vE (catB xs)
 rw[<-Q]at h1 h2 h3 E O ⊢;rw[<-J]at h1 h2 h3 E hs;rw[<-H]at O;have HS:=Hd (show s.size<=1000000000 by omega);have H1:=Hd h1;have H3:=Hd h3;have a7:=Hd H;have X:=Hd J;have a8:=Hd hs;have HL:=Hd hl;have H2:=Hd h2;have HR:=Hd hr;have HC:=Hd hc;clear h1 h2 h3 E Q J H hs hr hc hl;go_enter Tryz.func127,Tryz.ntmps127;go_wp2_with (refine jaj Tryz.allocNode rfl rfl ?_;intro W1 Z a0)
 refine vC (jea _ ⟨#[]⟩ vI) fun w2 z=>?_;rw[<-a7.o];have a1:=Hd (Z.keeps z (fun h=>h));have a2:=Hd (a0.trans z);clear Z a0 z;go_wp2_with fail
 refine vC (jog _ s _ HS.o H1.o) fun w3 z=>?_;simp only;rw[H3.o,H2.o,jiD];have a3:=Hd (a1.o.keeps z (fun h=>h));have a4:=Hd (a2.o.trans z);clear z a2 a1;go_wp2_with fail
 rw[X.o];refine (jsB w3 xs hx (by rw[<-X.o];have:=a8.o;omega) (by have:=HL.o;omega)).mono ?_;rintro e w4 ⟨v,rfl,hv⟩;have a5:=Hd (a3.o.keeps hv.ext (fun h=>h));have a6:=Hd (a4.o.trans hv.ext);have K:=hv.rd;rcases hv.sl with⟨ad,cp,rfl⟩;rw[HL.o]at K ⊢;have A:=HC.o w4 _ K;have a9:=Hd A;clear hv a4 a3 K A;go_wp2_with fail
 refine a9.o.mono ?_;rintro e w5 ⟨rfl,z⟩;have b0:=Hd (a6.o.trans z);have b1:=a5.o.keeps z (fun h=>h);clear z a6 a5;unfold jad.V;go_wp2_with (refine jai (vs:=n.cells) rfl rfl rfl rfl b1 (by rw[n.cells_len HR.o];rfl) (by rw[n.cells_len HR.o];exact Tryz.szNode) n.one ?_;intro W8 b2 b3)
 refine bodyPost_ret (jaE rfl rfl rfl (jau W8 _ n HR.o b2)) rfl ?_
 exact⟨rfl,b0.o.trans' b3 (fun x hx e=>by have e:x=w.heap.size:=e;omega)⟩
end
section
open Go Go.RowKit
theorem joS:∀ (l:vM) (i:Nat) (m:vM) (j:Nat),i+l.length<=m.length ->
  ((jay i l).foldl (fun l x=>l.set x.1 x.2) m)[j]?=if i<=j/\j < i+l.length/\(l.getD (j - i) ⟨#[]⟩).size≠0 then some (l.getD (j - i) ⟨#[]⟩)else m[j]?
 | [],i,m,j,_=>by
  rw[if_neg (fun h=>by have K:=h.1;have o:=h.2.1;rw[cF]at o;omega)];rfl
 | r :: l,i,m,j,h=>by
  unfold jay;simp only[bF]at h ⊢;have E:∀ (A:vM),A.length=m.length->(∀ k,k≠i->A[k]?=m[k]?)->((jay (i+1) l).foldl (fun l x=>l.set x.1 x.2) A)[j]?=if i<=j/\j < i+(l.length+1)/\((r :: l).getD (j - i) ⟨#[]⟩).size≠0/\j≠i then some ((r :: l).getD (j - i) ⟨#[]⟩)else A[j]?:=by
   intro A J H;rw[joS l (i+1) A j vO]
   by_cases hj:i+1<=j
   ·have e:(r :: l).getD (j - i) ⟨#[]⟩=l.getD (j - (i+1)) ⟨#[]⟩:=by
     rw[show j - i=(j - (i+1))+1 by omega,List.getD_cons_succ]
    rw[e]
    by_cases o:j < i+1+l.length/\(l.getD (j - (i+1)) ⟨#[]⟩).size≠0
    ·rw[if_pos ⟨hj,o.1,o.2⟩,if_pos ⟨by omega,by omega,o.2,by omega⟩]
    ·rw[if_neg (fun z=>o z.2),if_neg (fun z=>o ⟨by omega,z.2.2.1⟩)]
   ·rw[if_neg (fun z=>hj z.1),if_neg (fun z=>hj vO)]
  split
  ·rename_i h0
   rw[E m rfl (fun _ _=>rfl)]
   by_cases hj:j=i
   ·subst hj
    rw[if_neg (fun z=>z.2.2.2 rfl),if_neg (fun z=>z.2.2 (by rw[iW];exact h0))]
   ·by_cases o:i<=j/\j < i+(l.length+1)/\((r :: l).getD (j - i) ⟨#[]⟩).size≠0
    ·rw[if_pos ⟨o.1,o.2.1,o.2.2,hj⟩,if_pos o]
    ·rw[if_neg (fun z=>o ⟨z.1,z.2.1,z.2.2.1⟩),if_neg o]
  ·rename_i h0
   rw[dE,E (m.set i r) (by simp) (fun k H=>List.getElem?_set_ne (Ne.symm H))]
   by_cases hj:j=i
   ·subst hj
    rw[if_neg (fun z=>z.2.2.2 rfl),if_pos ⟨bL _,by omega,by rw[iW];exact h0⟩,iW];rw[List.getElem?_set_self vO];rfl
   ·rw[List.getElem?_set_ne (Ne.symm hj)]
    by_cases o:i<=j/\j < i+(l.length+1)/\((r :: l).getD (j - i) ⟨#[]⟩).size≠0
    ·rw[if_pos ⟨o.1,o.2.1,o.2.2,hj⟩,if_pos o]
    ·rw[if_neg (fun z=>o ⟨z.1,z.2.1,z.2.2.1⟩),if_neg o]
theorem jdF(n:jad)(hr:n.refs.length=16):jbP n=ja7 n.refs n.value:=by
 apply List.ext_getElem?;intro j;unfold jbP jeb ja7;rw[bN (bL _)];unfold jad.refsL;have z:((jay 0 n.refs).foldl (fun l x=>l.set x.1 x.2) (List.replicate 17 (jan ⟨#[]⟩))).length=17:=by
  have:=jih n n.refsL.length
  unfold jeb at this;rw[bN (bL _)]at this;exact this
 by_cases h16:j=16
 ·subst h16
  rw[List.getElem?_set_self (by rw[z];omega),cV (by rw[cC,hr];omega),cC,hr];rfl
 ·rw[List.getElem?_set_ne vO,joS n.refs 0 _ j (by rw[hr,List.length_replicate];omega),hr]
  by_cases hj:j < 16
  ·have o:j < n.refs.length:=vO
   rw[dB (by rw[cC];exact o),cA,bA o];have e:n.refs.getD (j - 0) ⟨#[]⟩=n.refs[j]:=by rw[bG,Nat.sub_zero,bA o];rfl
   rw[e]
   by_cases h0:n.refs[j].size=0
   ·rw[if_neg (fun A=>A.2.2 h0),iV,if_pos vO,gO,if_pos h0]
   ·rw[if_pos ⟨by omega,by omega,h0⟩,gO,if_neg h0]
  ·rw[if_neg (fun A=>hj vO),iV,if_neg vO,jF (by simp[hr];omega)]
section
variable {I:vB->jad->Prop} (HI:InlP I)
include HI
theorem MayP.item{r:vB}(h:MayP I r):jgp r:=by
 rcases h with⟨h,h1,rfl⟩ |⟨m,hm⟩
 ·exact jc1 h vO
 ·obtain⟨xs,rfl,e⟩:=HI.list r m hm
  exact jnO xs e
theorem MayP.ne{r:vB}(h:MayP I r):r≠jan ⟨#[]⟩:=by
 rcases h with h |⟨m,hm⟩
 ·intro e
  have:=h.size
  rw[e]at this;exact absurd this vI
 ·obtain⟨xs,rfl,o⟩:=HI.list r m hm
  exact jeQ xs o
theorem jyn(w:vW)(n:jad)(h:jbT I n):vR 127 #[.string (jaP n)] w (.tuple #[n.V,.bool true]):=by
 have E:=h.one HI;have H:=jde n E;cases h with
 | none=>exact jqZ w
 | leaf p v h2 h3 h4 =>
  obtain⟨a,b,c⟩:=jbR h2
  have O:=jbn p true;have Q:=jaN (putB p true);have X:=jaN v;simp only at b;exact jmM w (jan (putB p true)) (jan v) _ E.refs (jc1 _ vO) (jc1 _ vO) vO (fun w=>jqX w p v vO vO c)
 | ext p r h2 h3 h4 =>
  obtain⟨a,b,c⟩:=jbR h2
  have O:=jbn p false;have Q:=jaN (putB p false);simp only at b;have K:MayP I r:=h4.imp id (fun ⟨m,h,_⟩=>⟨m,h⟩);have X:=K.size HI;exact jmM w (jan (putB p false)) r _ E.refs (jc1 _ vO) (K.item HI) vO (fun w=>jtD w p r vO c)
 | branch v rs h2 h3 h4 h5 =>
  have e:jbP ⟨3,⟨#[]⟩,v,rs⟩=ja7 rs v:=jdF _ h2;have o:∀ x∈ja7 rs v,jgp x:=by
   intro x z;unfold ja7 at z;rcases bT.1 z with z | z
   ·obtain⟨r,J,rfl⟩:=bJ.1 z
    by_cases A:r.size=0
    ·rw[if_pos A];exact jc1 _ vI
    ·rw[if_neg A];exact (h4 r J A).item HI
   ·rw[bZ.1 z];exact jc1 _ vO
  show vQ _ #[.string (jbb (jbP ⟨3,⟨#[]⟩,v,rs⟩))] w _;rw[e]at H ⊢;exact jqY w (ja7 rs v) _ h2 (by simp[ja7,h2]) o vO (fun w a Z=>jmL w a rs v h2 vO (fun r J A=>(h4 r J A).ne HI) Z)
end
end
section
open Go Go.RowKit
theorem jhu(n:jad)(h:jp8 n):(jaP n).size<=2000:=by
 unfold jaP;have E:=h.path;have H:=h.value;split
 ·exact bK (jaN _) vI
 ·split
  ·have o:=jbn n.path true
   have A:=jaN (putB n.path true);have J:=jaN n.value;have e:=jcP [jan (putB n.path true),jan n.value];rw[ja8,ja8,jcJ]at e;unfold jme;omega
  ·split
   ·have o:=jbn n.path false
    have A:=jaN (putB n.path false);have e:=jcP [jan (putB n.path false),n.refs.getD 0 ⟨#[]⟩];rw[ja8,ja8,jcJ]at e;have K:(n.refs.getD 0 ⟨#[]⟩).size<=33:=h.each _ (by
     rw[bG,bA (by rw[h.refs];omega)];exact dG _)
    unfold extB;omega
   ·have z:=jde n h
    have e:=jcP (jbP n);unfold jec;omega
theorem jjW(n:jad)(h:jp8 n)(hk:n.kind≠0):∃ xs,jaP n=jbb xs/\(catB xs).size<=1048576:=by
 have z:=h.path;have A:=h.value;unfold jaP;rw[if_neg hk];split
 ·have e:=jbn n.path true
  have o:=jaN (putB n.path true);have E:=jaN n.value
  exact⟨_,rfl,by rw[ja8,ja8,jcJ];omega⟩
 ·split
  ·have e:=jbn n.path false
   have o:=jaN (putB n.path false);have H:(n.refs.getD 0 ⟨#[]⟩).size<=33:=h.each _ (by
    rw[bG,bA (by rw[h.refs];omega)];exact dG _)
   exact⟨_,rfl,by rw[ja8,ja8,jcJ];omega⟩
  ·exact⟨_,rfl,by have:=jde n h;omega⟩
section
variable {I:vB->jad->Prop} (HI:InlP I)
include HI
theorem jjP(w:vW)(n:jad)(h:jbT I n):vR 90 #[.string (jaP n)] w (.tuple #[n.V,.int .i64 0]):=by
 have h1:=h.one HI
 obtain⟨s,hs⟩:=vE (jaP n)
 rw[<-hs];have HS:=Hd hs;have H:=Hd h;have J:=Hd h1;have HL:=Hd (n.cells_len h1.refs);clear h h1 hs;unfold vR vQ;go_in;go_wp2_with (refine jaj Tryz.allocNode rfl rfl ?_;intro W1 K O)
 rw[HS.o];refine vC (jyn HI W1 n H.o) fun w2 z=>?_;rw[<-HS.o];have a3:=Hd (K.keeps z (fun h=>h));have a4:=Hd (O.trans z);clear K O z;unfold jad.V;go_wp2_with (first |(refine jaj Tryz.allocNode rfl rfl ?_;intro W3 Q X;refine jai (vs:=n.cells) rfl rfl rfl rfl Q (by rw[HL.o];rfl) (by rw[HL.o];exact Tryz.szNode) n.one ?_;intro W4 A Z) |(refine jae 94 (.tmp 4) rfl rfl _ _ rfl (jao _ _ n J.o.refs A) ?_))
 have a1:Ext w2 W4:=X.trans' Z (fun x hx e=>by have e:x=w2.heap.size:=e;omega);refine vC (jlm HI W4 n H.o) fun w5 z=>?_;have E:=A.keeps z (fun h=>h);have a5:=Hd E;have HX:=Hd (a1.trans z);clear Q X A Z a1 z;go_wp2_with (refine jae 94 (.tmp 4) rfl rfl _ _ rfl (jao _ _ n J.o.refs E) ?_)
 refine vC (jth w5 n J.o) fun w6 z=>?_;rw[<-HS.o];have a6:=a5.o.keeps z (fun h=>h);have a2:=HX.o.trans z;have a0:=a3.o.keeps a2 (fun h=>h);clear E z;go_wp2_with (first |(refine jae 94 (.tmp 4) rfl rfl _ _ rfl (jao _ _ n J.o.refs a6) ?_) |(refine jai (vs:=n.cells) rfl rfl rfl rfl a0 (by rw[HL.o];rfl) (by rw[HL.o];exact Tryz.szNode) n.one ?_;intro W8 a7 a8))
 refine bodyPost_ret (jaE rfl rfl rfl (jau W8 _ n J.o.refs a7)) rfl ?_
 exact⟨rfl,(a4.o.trans a2).trans' a8 (fun x hx e=>by have e:x=w.heap.size:=e;omega)⟩
theorem jsz(w:vW)(n:jad)(h:jbT I n)(hk:n.kind≠0)(hsm:(jaP n).size < 32):vR 113 #[.string (jaP n)] w (.tuple #[n.V,.bool true]):=by
 have Z:=h.one HI
 obtain⟨s,hs⟩:=vE (jaP n)
 rw[<-hs]at hsm ⊢;have c1:¬(32:Int)<=(s.size:Int):=vO
 have c2:((n.kind:Int) == 0)=false:=by simp;omega
 have c3:¬(n.kind:Int)=0:=vO
 have HS:=Hd hs;have H:=Hd h;have H1:=Hd Z;have X:=Hd (n.cells_len Z.refs);clear h Z hs hk;unfold vR vQ;go_in;go_wp2_with (refine jaj Tryz.allocNode rfl rfl ?_;intro W1 z A)
 rw[HS.o];refine vC (jjP HI W1 n H.o) fun w2 hE=>?_;rw[<-HS.o];have E:=z.keeps hE (fun h=>h);have a0:=Hd (A.trans hE);clear z A hE;unfold jad.V;go_wp2_with (first |(refine jaj Tryz.allocNode rfl rfl ?_;intro W3 a1 J;refine jai (vs:=n.cells) rfl rfl rfl rfl a1 (by rw[X.o];rfl) (by rw[X.o];exact Tryz.szNode) n.one ?_;intro W4 K O;have q0:W4.cell? ⟨w2.heap.size,0,none⟩=some (.int .i64 (n.kind:Int)):=K.cellL vF;have Q:=(E.keeps J (fun h=>h)).keeps O (by have:=E.lt;omega)) |(refine jae 94 (.tmp 4) rfl rfl _ _ rfl (jao _ _ n H1.o.refs K) ?_) |(refine jai (vs:=n.cells) rfl rfl rfl rfl Q (by rw[X.o];rfl) (by rw[X.o];exact Tryz.szNode) n.one ?_;intro W8 a2 a3))
 refine bodyPost_ret (jaE rfl rfl rfl (jau W8 _ n H1.o.refs a2)) rfl ?_;have a4:Ext w2 W4:=J.trans' O (fun x hx e=>by have e:x=w2.heap.size:=e;omega)
 exact⟨rfl,(a0.o.trans a4).trans' a3 (fun x hx e=>by have e:x=w.heap.size:=e;omega)⟩
end
def InlD:Nat->vB->jad->Prop
 | 0,_,_=>False
 | d+1,r,m=>jbT (InlD d) m/\r=jaP m/\r.size < 32/\m.kind≠0
theorem inlP:∀ d,InlP (InlD d)
 | 0=>⟨fun _ _ h=>h.elim,fun _ _ h=>h.elim,fun _ _ h=>h.elim,fun _ _ h=>h.elim,fun _ _ h=>h.elim,fun _ _ h=>h.elim⟩
 | d+1=>by
  have A:=inlP d;have E:∀ r m,InlD (d+1) r m->∃ xs,r=jbb xs/\(catB xs).size<=1048576:=fun r m ⟨H,J,K,O⟩=>by
   obtain⟨xs,e,z⟩:=jjW m (H.one A) O
   exact⟨xs,J.trans e,z⟩
  refine⟨fun r m h=>(h.1.one A).refs,fun r m h=>h.2.2.1,fun r m h=>?_,E,fun r m h=>?_,fun r m h w=>?_⟩
  ·obtain⟨xs,e,z⟩:=E r m h
   obtain⟨o,Q,_⟩:=jfa xs z
   rw[e]
   have:=(jkv Q).1
   omega
  ·obtain⟨xs,e,z⟩:=E r m h
   rw[e];exact jl7 xs z
  ·obtain⟨H,J,K,O⟩:=h
   rw[J]at K ⊢;exact jsz A w m H O K
end
