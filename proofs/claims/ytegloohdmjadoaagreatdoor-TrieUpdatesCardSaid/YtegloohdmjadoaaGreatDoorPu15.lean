/- Lemmas; each is under no condition but those that it states. -/
import Derived.Test.YtegloohdmjadoaaGreatDoorPu14
import Derived.RangeFuncCalls
namespace Go.Proofs.YtegloohdmjadoaaGreatDoor
set_option linter.unusedSimpArgs false
set_option linter.unusedVariables false
set_option maxRecDepth 100000
set_option maxHeartbeats 16000000
section
open Go Go.RowKit
attribute [local go_sem] Oper.semAt_some
theorem Tryz.allocNode:∀ w,(Instr.alloc 110 true (.tuple #[])).run Tryz.prog w=.ok (.pointer (some ⟨w.heap.size,0,none⟩)) (w.alloc (.cells jav.cells.toArray 110)):=fun w=>by kernel_rfl
theorem jad.one(n:jad):∀ v∈n.cells,v.oneCell'=true:=by
 intro v e;simp only[jad.cells,bX,bI]at e;rcases e with rfl | rfl | rfl |⟨_,_,rfl⟩ <;> rfl
def je1(r:vB):Prop:=∃ h:vB,h.size=32/\r=jap h
theorem je1.size{r:vB}(h:je1 r):r.size=33:=by
 obtain⟨h,e,rfl⟩:=h
 unfold jap;rw[if_neg vO,bY,e];rfl
theorem je1.known{r:vB}(hh:je1 r):r.size<=1000000000/\∃ h q,cutN r=some q/\jgl r q=some h:=by
 have E:=hh.size
 obtain⟨h,m,e⟩:=hh
 obtain⟨q,o,A⟩:=jej h m
 exact⟨by omega,h,q,by rw[e];exact o,by rw[e];exact A⟩
structure InlP(I:vB->jad->Prop):Prop where
 refs:∀ r m,I r m->m.refs.length=16
 small:∀ r m,I r m->r.size < 32
 pos:∀ r m,I r m->r.size≠0
 list:∀ r m,I r m->∃ xs,r=jba xs/\(catB xs).size<=1048576
 nohash:∀ r m,I r m->∃ q,cutN r=some q/\jgl r q=none
 inl:∀ r m,I r m->∀ w,vR 90 #[.string r] w (.tuple #[m.V,.bool true])
section
variable {I:vB->jad->Prop} (HI:InlP I)
def MayP(I:vB->jad->Prop)(r:vB):Prop:=je1 r\/∃ m,I r m
include HI
theorem jAL(w:vW)(r:vB)(hr:MayP I r):vR 154 #[.string r] w (.bool true):=by
 rcases hr with hh |⟨m,hm⟩
 ·obtain⟨hs,h,q,A,E⟩:=hh.known
  have J:=Hd A;have K:=Hd E;clear A E hh;go_enter Tryz.func154,Tryz.ntmps154;go_wp2_with fail
  refine vH (jei w r q vO J.o) fun w1 O=>?_;rw[K.o];unfold optV;simp only;go_wp2_with fail
  go_ret
  exact⟨rfl,O.o⟩
 ·have hs:=HI.small r m hm
  obtain⟨q,A,E⟩:=HI.nohash r m hm
  have HC:=Hd (HI.inl r m hm);have H:=Hd (HI.refs r m hm);have J:=Hd A;have K:=Hd E;clear A E;go_enter Tryz.func154,Tryz.ntmps154;go_wp2_with fail
  refine vH (jei w r q vO J.o) fun w1 O=>?_;rw[K.o];unfold optV;simp only;go_wp2_with fail
  refine vH (HC.o w1) fun w2 Q=>?_;have X:=Hd (O.o.trans Q);unfold jad.V;go_wp2_with (refine jaj Tryz.allocNode rfl rfl ?_;intro W3 hB Z;refine jag (vs:=m.cells) rfl rfl rfl rfl hB (by rw[m.cells_len H.o];rfl) (by rw[m.cells_len H.o];exact Tryz.szNode) m.one ?_;intro W4 a2 a0)
  have a1:Ext w2 W4:=Z.trans' a0 (fun x hx e=>by have e:x=w2.heap.size:=e;omega);go_ret
  exact⟨rfl,X.o.trans a1⟩
theorem jAG(w:vW)(n:jad)(r:vB)(hr:n.refs.length=16)(hp:n.pathOk 1=true)(h0:n.value=⟨#[]⟩)(hb:n.behindN=1)(J:n.refs[0]?=some r)(hm:je1 r\/∃ m,I r m/\m.kind=3):vR 123 #[n.V] w (.bool true):=by
 have a0:n.path.size<=1000000:=by
  simp only[jad.pathOk,cJ,decide_eq_true_eq]at hp;omega
 have K:=jfk w n hr;have e2:n.cells[2]?=some (.string ⟨#[]⟩):=by rw[<-h0];rfl
 have e3:n.cells[3]?=some (.string r):=by
  show (n.refs.map Value.string)[0]?=_;rw[bV,J];rfl
 have HP:=Hd hp;have HB:=Hd hb;have E3:=Hd e3;clear hp hb h0 J e3;unfold jad.V at K ⊢;go_enter Tryz.func123,Tryz.ntmps123;go_wp2_with (refine jaf 150 (.tmp 1) rfl rfl _ _ rfl K ?_)
 refine vC (jsD _ n hr 1 a0) fun w1 A=>?_;rw[HP.o];have B1:=(Blk.new w (.cells n.cells.toArray 150)).keeps A (fun h=>h);have q2:=B1.cellL e2;have E:=jb0 w1 _ n hr B1;have O:=Hd (((ExtR w).alloc _).trans A);have Q:=Hd B1;unfold jad.V at E;clear K A B1;go_wp2_with (refine jaf 150 (.tmp 1) rfl rfl _ _ rfl E ?_)
 refine vC (jn0 _ n hr) fun w2 A=>?_;rw[HB.o];have B2:=Q.o.keeps A (fun h=>h);have H:=Hd (O.o.trans A);have q3:=B2.cellL E3.o;have a1:=Hd B2;clear E A q2 B2 Q O;rcases hm with hh |⟨m,hm,hk⟩
 ·obtain⟨hs,h,q,J,X⟩:=hh.known
  have H3:=Hd J;have H4:=Hd X;clear J X hh;go_wp2_with fail
  refine vH (jei w2 r q hs H3.o) fun w3 A=>?_;rw[H4.o];have HE:=Hd (H.o.trans A);unfold optV;simp only;go_wp2_with fail
  go_ret
  exact⟨rfl,HE.o⟩
 ·have hs:=HI.small r m hm
  obtain⟨q,J,X⟩:=HI.nohash r m hm
  have HC:=Hd (HI.inl r m hm);have Z:=Hd (HI.refs r m hm);have H3:=Hd J;have H4:=Hd X;have HK:=Hd hk;clear J X hk;go_wp2_with fail
  refine vC (jei w2 r q vO H3.o) fun w3 A=>?_;rw[H4.o];have B3:=a1.o.keeps A (fun h=>h);have HE:=Hd (H.o.trans A);have a2:=B3.cellL E3.o;clear A q3 B3;unfold optV;simp only;go_wp2_with fail
  refine vH (HC.o w3) fun w4 a3=>?_;have H:=Hd (HE.o.trans a3);clear a2;unfold jad.V;go_wp2_with (refine jaj Tryz.allocNode rfl rfl ?_;intro W3 hB a4;refine jag (vs:=m.cells) rfl rfl rfl rfl hB (by rw[m.cells_len Z.o];rfl) (by rw[m.cells_len Z.o];exact Tryz.szNode) m.one ?_;intro W4 a5 a6;have q0:W4.cell? ⟨w4.heap.size,0,none⟩=some (.int .i64 3):=a5.cellL (by show some (Value.int .i64 (m.kind:Int))=_;rw[HK.o];rfl))
  have a7:Ext w4 W4:=a4.trans' a6 (fun x hx e=>by have e:x=w4.heap.size:=e;omega);have a8:=Hd (H.o.trans a7);go_ret
  exact⟨rfl,a8.o⟩
structure BraC(w:World)(gn gr gf gi:Nat)(n:jad)(c:Nat)(k:Nat)(W:World):Prop where
 ext:Ext w W
 res:Blk W gr (.cells #[.bool false] 4)
 node:Blk W gn (.cells n.cells.toArray 150)
 full:Blk W gf (.cells #[.int .i64 ((c+k:Nat):Int)] 3)
 it:Blk W gi (.cells n.cells.toArray 150)
theorem jua(w:vW)(n:jad)(hr:n.refs.length=16)(hp:n.path=⟨#[]⟩)(h8:n.value.size<=80)(hm:∀ r∈n.refs,r.size≠0->MayP I r)(h2:2<=min n.value.size 1+n.refsL.length):vR 124 #[n.V] w (.bool true):=by
 have e1:n.cells[1]?=some (.string ⟨#[]⟩):=by rw[<-hp];rfl
 have e2:n.cells[2]?=some (.string n.value):=rfl;have c1:¬(80:Int) < (n.value.size:Int):=vO
 obtain⟨c,hc⟩:=vE (min n.value.size 1)
 have Z:min (n.value.size:Int) 1=(c:Int):=vO
 rw[<-hc]at h2;have HC:=Hd Z;have H2:=Hd h2;clear hp hc Z h2;refine (callsIn_wide (n:=0)).1 ?_;refine callsIn_of_wp_marks Tryz.func124 rfl trivial ?_ rfl;simp only[Tryz.ntmps124,dN,bP,dD,Nat.reduceAdd,Nat.reduceSub,dL,dK,dX,dP,cM,cZ]
 obtain⟨X,m⟩:=vE (((w.alloc (.cells n.cells.toArray 150)).alloc (.cells #[.bool false] 4)).alloc (.cells #[.int .i64 (min (n.value.size:Int) 1)] 3))
 have B0:Blk X w.heap.size (.cells n.cells.toArray 150):=by rw[m];exact ((Blk.new w _).alloc _).alloc _
 have B1:Blk X (w.heap.size+1) (.cells #[.bool false] 4):=by
  rw[m];have:=(Blk.new (w.alloc (.cells n.cells.toArray 150)) (.cells #[.bool false] 4)).alloc (.cells #[.int .i64 (min (n.value.size:Int) 1)] 3);rwa [bR]at this
 have B2:Blk X (w.heap.size+1+1) (.cells #[.int .i64 (c:Int)] 3):=by
  rw[m, <-HC.o];have:=Blk.new ((w.alloc (.cells n.cells.toArray 150)).alloc (.cells #[.bool false] 4)) (.cells #[.int .i64 (min (n.value.size:Int) 1)] 3);rwa [bR,bR]at this
 have E0:Ext w X:=by rw[m];exact (((ExtR w).alloc _).alloc _).alloc _
 have a0:X.heap.size=w.heap.size+3:=by rw[m];simp
 have J:=jb0 X _ n hr B0;rw[m]at J;have a1:=Hd m;have a2:=Hd E0;have a3:=Hd B0;have a4:=Hd B1;have a5:=Hd B2;have a6:=Hd a0;clear m E0 B0 B1 B2 a0;unfold jad.V at J ⊢;gi_wp2_with (refine jbp rfl 150 (.tmp 1) rfl _ _ rfl J ?_)
 refine⟨trivial,rfl,CallsIn.mono (callsIn_wide.2 (jo2 _ n)) ?_⟩
 rintro e w1 ⟨rfl,A,E⟩;rw[<-a1.o]at A E ⊢;rw[a6.o]at A ⊢;have a7:BraC w w.heap.size (w.heap.size+1) (w.heap.size+1+1) (w.heap.size+3) n c 0 w1:=⟨a2.o.trans E,a4.o.keeps E (fun h=>h),a3.o.keeps E (fun h=>h),a5.o.keeps E (fun h=>h),A⟩;have b1:=A.lt;have a8:=Hd a7;have b2:c<=1:=by have:=HC.o;omega
 clear A E J a7 a1 a2 a3 a4 a5 a6;gi_wp2_with fail
 refine jez (N:=n.refsL.length) (gf:=133) (lb:=#[.pointer (some ⟨w.heap.size+3,0,none⟩)]) rfl (vX 133) (jkT (w.heap.size+3) n hr)
  (fun k=>rfl) (BraC w w.heap.size (w.heap.size+1) (w.heap.size+1+1) (w.heap.size+3) n c) (fun _ _ _=>False) (fun k W W' h e=>⟨h.ext.trans e,h.res.keeps e (fun h=>h),h.node.keeps e (fun h=>h),h.full.keeps e (fun h=>h),h.it.keeps e (fun h=>h)⟩) (fun _ _ _ _ h _=>h) (fun k W h=>h.it)
  (fun k W o h=>⟨h.ext.putObj (.inr vO) _,h.res.put_other vO _,h.node.put_other vO _,h.full.put_other vO _,h.it.put_other vO _⟩)
  (fun k W o h=>⟨h.ext.putObj (.inr vO) _,h.res.put_other vO _,h.node.put_other vO _,h.full.put_other vO _,h.it.put_other vO _⟩) (fun _ _ _ _ h=>h)
  a8.o (fun k=>{ tmps:=#[.agg n.cells.toArray,.pointer (some ⟨w.heap.size,0,none⟩),.pointer (some ⟨w.heap.size+1,0,none⟩),.pointer (some ⟨w.heap.size+1+1,0,none⟩),undef,.string (n.rr k),.pointer (some ⟨w.heap.size,1,none⟩),.string ⟨#[]⟩,.bool false,.bool false,.pointer (some ⟨w.heap.size,2,none⟩),.string n.value,.int .i64 n.value.size,.bool false,.bool false,.pointer (some ⟨w.heap.size,2,none⟩),.string n.value,.int .i64 n.value.size,.int .i64 (min (n.value.size:Int) 1),.agg n.cells.toArray,.func (.func 133) #[] #[.pointer (some ⟨w.heap.size+3,0,none⟩)],.int .i64 (n.ri k:Nat),.string (n.rr k),undef,undef,undef,undef,undef,undef,undef],defers:=[] })
  ?hassign ?hbody ?hdone ?hstop
 case hassign =>
  intro l j W K hK;rw[jvw,jrL];simp only[dJ,dB];gi_wp2;exact hK
 case hbody =>
  intro l k W hk h b3;have q:=h.full.cell (i:=0) (v:=.int .i64 ((c+k:Nat):Int)) vF;have f:W.frozen? ⟨w.heap.size+1+1,0,none⟩=false:=h.full.frozen;have Q:=jvr n hr hk;have O:=hm _ (bE Q.2.1) Q.2.2;have b0:k < 16:=bJ hk (by
   have:∀ (l:vM) (i:Nat),(jaw i l).length<=l.length:=by
    intro l;induction l with
    | nil=>intro i;simp[jaw]
    | cons x r ih=>intro i;unfold jaw;split <;> simp <;> have:=ih (i+1) <;> omega
   have:=this n.refs 0
   rw[hr]at this;exact this)
  have H:=Hd h;have HM:=Hd O;clear h Q O;clear q f;gi_wp2_with fail
  refine⟨trivial,rfl,CallsIn.mono (CallsIn.inRound l (callsIn_wide.2 (jAL HI W _ HM.o))) ?_⟩
  rintro e w5 ⟨rfl,E⟩;have q:=(H.o.full.keeps E (fun h=>h)).cell (i:=0) (v:=.int .i64 ((c+k:Nat):Int)) vF;have f:w5.frozen? ⟨w.heap.size+1+1,0,none⟩=false:=(H.o.full.keeps E (fun h=>h)).frozen;have HE:=Hd E;clear E;gi_wp2;rw[show (c:Int)+(k:Int)+1=((c+(k+1):Nat):Int) by omega];have K5:jae (fun b=>b=w.heap.size+1+1) w5 (w5.setCell ⟨w.heap.size+1+1,0,none⟩ (.int .i64 ((c+(k+1):Nat):Int))):=jae.oneSet w5 ⟨w.heap.size+1+1,0,none⟩ _;have K6:jae (fun b=>b=w.heap.size+1+1) W (w5.setCell ⟨w.heap.size+1+1,0,none⟩ (.int .i64 ((c+(k+1):Nat):Int))):=(HE.o.mono (fun _ _ h=>h.elim)).trans K5
  refine⟨K6.mono (fun x hx e=>?_),?_⟩
  ·have e:x=_:=e;show x≠_/\x≠_;omega
  ·exact⟨H.o.ext.trans' K6 (fun x hx e=>by omega),H.o.res.keeps K6 vO,H.o.node.keeps K6 vO,((H.o.full.keeps HE.o (fun h=>h)).set_same (i:=0) _),H.o.it.keeps K6 vO⟩
 case hdone =>
  intro W h hd;have q:=h.full.cell (i:=0) (v:=.int .i64 ((c+n.refsL.length:Nat):Int)) vF;have q2:=h.res.cell (i:=0) (v:=.bool false) vF;have f2:W.frozen? ⟨w.heap.size+1,0,none⟩=false:=h.res.frozen;have c5:(2:Int)<=(c:Int)+(n.refsL.length:Int):=by have:=H2.o;omega
  have H:=Hd h;have HD:=Hd hd;clear h hd;gi_wp2;have B2:=(H.o.res.set_same (i:=0) (.bool true));have BD:=HD.o.set_other (p:=⟨w.heap.size+1,0,none⟩) (by show w1.heap.size≠w.heap.size+1;omega) (.bool true);have hX:Ext w ((W.setCell ⟨w.heap.size+1,0,none⟩ (.bool true)).putObj w1.heap.size (.deferred none)):=(H.o.ext.setCell (.inr (by show w.heap.size<=w.heap.size+1;omega)) _).putObj (.inr vO) _
  obtain⟨W3,a9⟩:=vE (W.setCell ⟨w.heap.size+1,0,none⟩ (.bool true))
  rw[<-a9]at B2 BD hX ⊢;have c2:(W3.putObj w1.heap.size (.deferred none)).cell? ⟨w.heap.size+1,0,none⟩=some (.bool true):=(B2.put_other vO _).cell (i:=0) (by simp)
  refine⟨by simp,.inl ⟨_,_,rfl,run_takeDeferred BD,?_⟩⟩
  exact⟨.bool true,by simp[results,Tryz.results124,go_sem,c2],rfl,hX⟩
 case hstop=>intro c k W _ _ h;exact h.elim
end
end
section
open Go Go.RowKit
theorem jpS{P:Program}{a:Act}{w:vW}{d:Option Tmp}{f:FuncId}{x:Operand}{lb:Array vV}{args:Array Operand}{ats:Array TypeId}{ty:TypeId}{pos:String}{af:Array Edge}{g:Option (Nat × Bool)}{vs:Array vV}(hx:a.eval x=.func (.func f) #[] lb)(eg:∀ args w,(callFunc f args).run P w=.ok (.enter f args) w)(hv:args.map a.eval=vs) :
  (execOp a.eval ⟨d,.call { callee:=.value x,args:=args,argTypes:=ats },ty,pos,af,g⟩).run P w=.ok (.enter f (vs++lb)) w:=by
 subst hv;simp[execOp,resolve,hx,Deferred.ofValue,invoke,cA,Result.andThen,cR,eg]
theorem jis{P:Program}{a:Act}{w:vW}{d:Option Tmp}{f:FuncId}{x y:Operand}{ats:Array TypeId}{ty:TypeId}{pos:String}{af:Array Edge}{g:Option (Nat × Bool)}{v:vV}(hx:a.eval x=.func (.func f) #[] #[])(eg:∀ args w,(callFunc f args).run P w=.ok (.enter f args) w)(hv:a.eval y=v) :
  (execOp a.eval ⟨d,.call { callee:=.value x,args:=#[y],argTypes:=ats },ty,pos,af,g⟩).run P w=.ok (.enter f #[v]) w:=by
 have:=jpS (P:=P) (w:=w) (d:=d) (ats:=ats) (ty:=ty) (pos:=pos) (af:=af) (g:=g) (args:=#[y]) hx eg rfl
 simpa [hv]using this
theorem Tryz.allocTabV:∀ w,(Instr.alloc 175 true (.tuple #[])).run Tryz.prog w=.ok (.pointer (some ⟨w.heap.size,0,none⟩)) (w.alloc (.cells [Value.nilFunc,.nilFunc,.nilFunc,.nilFunc].toArray 175)):=fun w=>by kernel_rfl
theorem Tryz.szTabV:(Tryz.prog.info? 175).map (·.size)=some 4:=vY
theorem Tryz.allocTabT:∀ w,(Instr.alloc 177 true (.tuple #[])).run Tryz.prog w=.ok (.pointer (some ⟨w.heap.size,0,none⟩)) (w.alloc (.cells [Value.nilFunc,.nilFunc,.nilFunc,.nilFunc].toArray 177)):=fun w=>by kernel_rfl
theorem Tryz.szTabT:(Tryz.prog.info? 177).map (·.size)=some 4:=vY
theorem Tryz.uKind:Tryz.prog.underlying 107=some (.int .i64):=vY
theorem Tryz.aggV(w:vW):(isAgg 174).run Tryz.prog w=.ok false w:=vY
theorem Tryz.aggT(w:vW):(isAgg 176).run Tryz.prog w=.ok false w:=vY
theorem jaE{P:Program}{t:TypeId}(h:∀ w,(isAgg t).run P w=.ok false w){w:vW}{a:Addr}{v:vV}(hc:w.cell? a=some v):(Instr.loadAt t (.pointer (some a))).run P w=.ok v w:=by
 simp[Instr.loadAt,Instr.sureAddr,loadVar,cA,h w,Result.andThen,hc]
def fnV(f:FuncId):vV:=.func (.func f) #[] #[]
theorem jk8(w:vW)(n:jad)(hr:n.refs.length=16)(hk:n.kind<=3)(f:FuncId)(hf:[fnV 121,fnV 122,fnV 123,fnV 124][n.kind]?=some (fnV f))
  (eg:∀ args w,(callFunc f args).run Tryz.prog w=.ok (.enter f args) w) (hc:∀ w,vR f #[n.V] w (.bool true)) :
  vR 92 #[n.V] w (.bool true):=by
 have e0:n.cells[0]?=some (.int .i64 (n.kind:Int)):=rfl;have c0:¬(n.kind:Int) < 0:=vO
 have c1:¬(3:Int) < (n.kind:Int):=vO
 have c2:(n.kind:Int) < 4:=vO
 have HF:=Hd hf;have HC:=Hd hc;have HR:=Hd hr;clear hf hc hr;unfold jad.V;go_enter Tryz.func92,Tryz.ntmps92;go_wp2_with (refine jaj Tryz.allocTabV rfl rfl ?_;intro W1 E m;refine jag (vs:=[fnV 121,fnV 122,fnV 123,fnV 124]) rfl rfl rfl rfl E rfl Tryz.szTabV (by simp[fnV,Value.oneCell']) ?_;intro O H A;have Z:O.cell? ⟨w.heap.size,0,none⟩=some (.int .i64 (n.kind:Int)):=(((Blk.new w (.cells n.cells.toArray 110)).keeps m (fun h=>h)).keeps A (by rw[bR];omega)).cellL e0)
 have qt:O.cell? ⟨w.heap.size+1,n.kind,none⟩=some (fnV f):=by
  have:=H.cellL HF.o
  rwa [bR]at this
 have J:=((Blk.new w (.cells n.cells.toArray 110)).keeps m (fun h=>h)).keeps A (by rw[bR];omega);have QT:=Hd qt;have Q0:=Hd Z;have Q:=Hd J;have HE:=Hd ((((ExtR w).alloc (.cells n.cells.toArray 110)).trans m).trans' A (fun x hx e=>by have e:x=(w.alloc (.cells n.cells.toArray 110)).heap.size:=e;rw[bR]at e;omega));clear E m H A Z qt J;refine jah [0,1,2,3,4,5,6] Ext ExtR ExtT vY vY vY ?_
 refine vK ?_
 refine qKL ⟨w.heap.size,0,none⟩ _ rfl (fun X K=>jab Tryz.uKind rfl (jaa (by exact Q0.o) K)) ?_;refine vS ?_
 refine vK ?_
 refine qKL ⟨w.heap.size+1,n.kind,none⟩ _ rfl (fun X K=>jaE Tryz.aggV (jaa (by exact QT.o) K)) ?_;refine vS ?_;refine qKL ⟨w.heap.size,0,none⟩ _ rfl (fun X K=>jaq X _ n HR.o (Q.o.keeps ((jai O).trans K) (fun h=>h))) ?_;refine vS ?_;refine qKC _ f #[n.V] (.bool true) rfl (fun w1=>jis rfl eg rfl) (fun w1 h1=>HC.o w1) ?_;refine vS ?_
 refine vK ?_
 refine qKE (fun w3 he=>?_);go_wp2_with fail
 go_ret
 exact⟨rfl,HE.o.trans ((jai O).trans he)⟩
theorem jpi(w:vW)(n:jad)(hr:n.refs.length=16)(hk:n.kind<=3)(S:vB)(f:FuncId)(hf:[fnV 125,fnV 126,fnV 127,fnV 128][n.kind]?=some (fnV f))
  (eg:∀ args w,(callFunc f args).run Tryz.prog w=.ok (.enter f args) w) (hc:∀ w,vR f #[n.V] w (.string S)) :
  vR 93 #[n.V] w (.string S):=by
 have e0:n.cells[0]?=some (.int .i64 (n.kind:Int)):=rfl;have c2:(n.kind:Int) < 4:=vO
 have HF:=Hd hf;have HC:=Hd hc;have HR:=Hd hr;clear hf hc hr;unfold jad.V;go_enter Tryz.func93,Tryz.ntmps93;go_wp2_with (refine jaj Tryz.allocTabT rfl rfl ?_;intro W1 E m;refine jag (vs:=[fnV 125,fnV 126,fnV 127,fnV 128]) rfl rfl rfl rfl E rfl Tryz.szTabT (by simp[fnV,Value.oneCell']) ?_;intro O H A)
 have Z:O.cell? ⟨w.heap.size,0,none⟩=some (.int .i64 (n.kind:Int)):=(((Blk.new w (.cells n.cells.toArray 150)).keeps m (fun h=>h)).keeps A (by rw[bR];omega)).cellL e0;have qt:O.cell? ⟨w.heap.size+1,n.kind,none⟩=some (fnV f):=by
  have:=H.cellL HF.o
  rwa [bR]at this
 have J:=((Blk.new w (.cells n.cells.toArray 150)).keeps m (fun h=>h)).keeps A (by rw[bR];omega);have QT:=Hd qt;have Q0:=Hd Z;have Q:=Hd J;have HE:=Hd ((((ExtR w).alloc (.cells n.cells.toArray 150)).trans m).trans' A (fun x hx e=>by have e:x=(w.alloc (.cells n.cells.toArray 150)).heap.size:=e;rw[bR]at e;omega));clear E m H A Z qt J;simp only[Act.put,gA,dJ,dB,bR];refine jah [0,1,2,3,4,5,6] Ext ExtR ExtT vY vY vY ?_
 refine vK ?_
 refine qKL ⟨w.heap.size,0,none⟩ _ rfl (fun X K=>jab Tryz.uKind rfl (jaa (by exact Q0.o) K)) ?_;refine vS ?_
 refine vK ?_
 refine qKL ⟨w.heap.size+1,n.kind,none⟩ _ rfl (fun X K=>jaE Tryz.aggT (jaa (by exact QT.o) K)) ?_;refine vS ?_;refine qKL ⟨w.heap.size,0,none⟩ _ rfl (fun X K=>jb0 X _ n HR.o (Q.o.keeps ((jai O).trans K) (fun h=>h))) ?_;refine vS ?_;refine qKC _ f #[n.V] (.string S) rfl (fun w1=>jis rfl eg rfl) (fun w1 h1=>HC.o w1) ?_;refine vS ?_
 refine vK ?_
 refine qKE (fun w3 he=>?_);go_wp2_with fail
 go_ret
 exact⟨rfl,HE.o.trans ((jai O).trans he)⟩
structure jpv(n:jad):Prop where
 refs:n.refs.length=16
 kind:n.kind<=3
 path:n.path.size<=12
 value:n.value.size<=80
 valid:jaz n.path=true
 each:∀ r∈n.refs,r.size<=33
def jaO(n:jad):vB:=if n.kind=0 then jap ⟨#[]⟩else if n.kind=1 then jlW n else if n.kind=2 then extB n else jd5 n
theorem jlu(n:jad)(h:jpv n):∀ x∈jbO n,x.size<=89:=by
 have A:∀ (l:List (Nat × vB)) (m:vM),(∀ x∈l,x.2.size<=89)->(∀ x∈m,x.size<=89)->∀ x∈l.foldl (fun l x=>l.set x.1 x.2) m,x.size<=89:=by
  intro l;induction l with
  | nil=>intro m _ E;exact E
  | cons y r ih =>
   intro m o E;rw[cN];refine ih _ (fun x e=>o x (bH _ e)) (fun x e=>?_);rcases List.mem_or_eq_of_mem_set e with e | rfl
   ·exact E x e
   ·exact o y (bK ..)
 intro x e;unfold jbO at e;rcases List.mem_or_eq_of_mem_set e with e | rfl
 ·refine A _ _ (fun y H=>?_) (fun y H=>?_) x e
  ·have o:=(jfi n.refs 0 y (gC H)).2.2.1
   have:=h.each y.2 (bE o)
   omega
  ·rw[fQ H]
   have:=jaQ ⟨#[]⟩
   have J:(⟨#[]⟩:vB).size=0:=rfl;omega
 ·have:=jaQ n.value
  have:=h.value
  omega
theorem jrk(c:Nat):∀ (l:vM),(∀ x∈l,x.size<=c)->(catB l).size<=c * l.length
 | [],_=>by rw[jcD];omega
 | x :: r,h=>by
  rw[ja6];have m:=h x (bK ..);have o:=jrk c r (fun y e=>h y (bH _ e));rw[bP,Nat.mul_add];omega
theorem jdg(n:jad)(h:jpv n):(catB (jbO n)).size<=1513:=by
 have:=jrk 89 _ (jlu n h)
 have e:(jbO n).length=17:=by unfold jbO;rw[List.length_set,jh9]
 rw[e]at this;omega
theorem jsE(w:vW)(n:jad)(h:jpv n):vR 93 #[n.V] w (.string (jaO n)):=by
 have o:=h.kind;have J:=h.path;have K:=h.value
 by_cases k0:n.kind=0
 ·have e:jaO n=jap ⟨#[]⟩:=by unfold jaO;rw[if_pos k0]
  rw[e];exact jpi w n h.refs o _ 125 (by rw[k0];rfl) (vX 125) (fun w=>jqb w n)
 ·by_cases k1:n.kind=1
  ·have e:jaO n=jlW n:=by unfold jaO;rw[if_neg k0,if_pos k1]
   rw[e];exact jpi w n h.refs o _ 126 (by rw[k1];rfl) (vX 126) (fun w=>jp1 w n vO vO h.valid)
  ·by_cases k2:n.kind=2
   ·have e:jaO n=extB n:=by unfold jaO;rw[if_neg k0,if_neg k1,if_pos k2]
    rw[e]
    obtain⟨r,A,m⟩:∃ r A,n.refs=r :: A:=by
     cases hx:n.refs with
     | nil=>have:=h.refs;rw[hx]at this;cases this
     | cons r A=>exact⟨r,A,rfl⟩
    have E:=h.each r (by rw[m];exact bK ..);exact jpi w n h.refs o _ 127 (by rw[k2];rfl) (vX 127) (fun w=>jrI w n vO r (by rw[m];rfl) vO h.valid)
   ·have H:n.kind=3:=vO
    have e:jaO n=jd5 n:=by unfold jaO;rw[if_neg k0,if_neg k1,if_neg k2]
    rw[e];exact jpi w n h.refs o _ 128 (by rw[H];rfl) (vX 128) (fun w=>jlv w n h.refs vO (by have:=jdg n h;omega))
theorem jw5(w:vW)(s:vB)(hs:s.size<=1000000)(leaf:Bool)(x:vB)(hx:jbf s=x)(h2:2<=x.size)(h0:x[0].toNat=if leaf then 3 else 1) :
  vR 161 #[.string s] w (.tuple #[.string (x.extract 1 x.size),.bool leaf,.bool true]):=by
 go_enter Tryz.func161,Tryz.ntmps161;go_wp2_with fail
 refine vH (jjP w s hs) fun w1 e=>?_;rw[hx];clear hx hs;have m:=jbe (s:=x) vO;have E:(0:Int) < (x.size:Int):=vO
 have H:(1:Int)<=(x.size:Int):=vO
 cases leaf with
 | true =>
  have A:(x[0].toNat:Int)=3:=by simp at h0;omega
  clear h0;go_wp2_with fail
  exact bodyPost_ret (v:=.tuple #[.string (x.extract 1 x.size),.bool true,.bool true]) vY rfl ⟨rfl,e.o⟩
 | false =>
  have A:(x[0].toNat:Int)=1:=by simp at h0;omega
  clear h0;go_wp2_with fail
  exact bodyPost_ret (v:=.tuple #[.string (x.extract 1 x.size),.bool false,.bool true]) vY rfl ⟨rfl,e.o⟩
theorem juD(w:vW)(s:vB)(hs:s.size<=1000000)(leaf:Bool)(x:vB)(hx:jbf s=x)(h2:2<=x.size)(h0:x[0].toNat=if leaf then 2 else 0)(h1:x[1].toNat=0) :
  vR 161 #[.string s] w (.tuple #[.string (x.extract 2 x.size),.bool leaf,.bool true]):=by
 go_enter Tryz.func161,Tryz.ntmps161;go_wp2_with fail
 refine vH (jjP w s hs) fun w1 e=>?_;rw[hx];clear hx hs;have m:=jbe (s:=x) vO;have H:(0:Int) < (x.size:Int):=vO
 have J:(1:Int) < (x.size:Int):=vO
 have K:(2:Int)<=(x.size:Int):=vO
 have A:(x[1].toNat:Int)=0:=vO
 clear h1;cases leaf with
 | true =>
  have E:(x[0].toNat:Int)=2:=by simp at h0;omega
  clear h0;go_wp2_with fail
  exact bodyPost_ret (v:=.tuple #[.string (x.extract 2 x.size),.bool true,.bool true]) vY rfl ⟨rfl,e.o⟩
 | false =>
  have E:(x[0].toNat:Int)=0:=by simp at h0;omega
  clear h0;go_wp2_with fail
  exact bodyPost_ret (v:=.tuple #[.string (x.extract 2 x.size),.bool false,.bool true]) vY rfl ⟨rfl,e.o⟩
end
section
open Go Go.RowKit
def jam(k:Nat):vM:=List.replicate k ⟨#[]⟩
inductive jbI (I:vB->jad->Prop):jad->Prop
 | none:jbI I jav
 | leaf (p v:vB):(⟨1,p,v,jam 16⟩:jad).pathOk 0=true->0 < v.size->v.size<=80->jbI I ⟨1,p,v,jam 16⟩
 | ext (p r:vB):(⟨2,p,⟨#[]⟩,r :: jam 15⟩:jad).pathOk 1=true->r.size≠0->(je1 r\/∃ m,I r m/\m.kind=3)->jbI I ⟨2,p,⟨#[]⟩,r :: jam 15⟩
 | branch (v:vB) (rs:vM):rs.length=16->v.size<=80->(∀ r∈rs,r.size≠0->MayP I r)->2<=min v.size 1+(jaw 0 rs).length->jbI I ⟨3,⟨#[]⟩,v,rs⟩
theorem jbQ{n:jad}{k:Nat}(h:n.pathOk k=true):k<=n.path.size/\n.path.size<=12/\jaz n.path=true:=by
 simp only[jad.pathOk,cJ,decide_eq_true_eq]at h;exact⟨h.1.1,h.1.2,h.2⟩
theorem jdT:∀ (k i:Nat),jaw i (jam k)=[]
 | 0,_=>rfl
 | k+1,i=>by
  unfold jam;rw[fC];unfold jaw;rw[if_pos (show (⟨#[]⟩:vB).size=0 from rfl)];exact jdT k (i+1)
section
variable {I:vB->jad->Prop} (HI:InlP I)
include HI
theorem MayP.size{r:vB}(h:MayP I r):r.size<=33:=by
 rcases h with h |⟨m,h⟩
 ·rw[h.size];omega
 ·have:=HI.small r m h;omega
theorem jbI.one{n:jad}(h:jbI I n):jpv n:=by
 have A:(⟨#[]⟩:vB).size=0:=rfl;cases h with
 | none=>exact⟨rfl,by decide,by decide,by decide,rfl,fun r e=>by rw[fQ e];decide⟩
 | leaf p v h1 h2 h3 =>
  obtain⟨a,b,c⟩:=jbQ h1
  exact⟨by simp[jam],by simp,b,h3,c,fun r e=>by rw[fQ e];decide⟩
 | ext p r h1 h2 h3 =>
  obtain⟨a,b,c⟩:=jbQ h1
  refine⟨by simp[jam],by simp,b,by show (⟨#[]⟩:vB).size<=80;omega,c,fun x o=>?_⟩
  rcases bX.1 o with rfl | o
  ·exact MayP.size HI (h3.imp id (fun ⟨m,h,_⟩=>⟨m,h⟩))
  ·rw[fQ o];decide
 | branch v rs h1 h2 h3 h4 =>
  refine⟨h1,by simp,by show (⟨#[]⟩:vB).size<=12;omega,h2,rfl,fun r e=>?_⟩
  by_cases h0:r.size=0
  ·omega
  ·exact MayP.size HI (h3 r e h0)
theorem jk7(w:vW)(n:jad)(h:jbI I n):vR 92 #[n.V] w (.bool true):=by
 have m:=h.one HI;cases h with
 | none=>exact jk8 w jav m.refs m.kind 121 rfl (vX 121) (fun w=>jzp w)
 | leaf p v h2 h3 h4=>exact jk8 w _ m.refs m.kind 122 rfl (vX 122) (fun w=>jzl w _ m.refs h2 h3 h4 (by unfold jad.behindN jad.refsL;rw[jdT];rfl))
 | ext p r h2 h3 h4=>exact jk8 w _ m.refs m.kind 123 rfl (vX 123) (fun w=>jAG HI w _ r m.refs h2 rfl (by
   have e:jaw 0 (r :: jam 15)=[(0,r)]:=by unfold jaw;rw[if_neg h3,jdT]
   unfold jad.behindN;have o:jad.refsL ⟨2,p,⟨#[]⟩,r :: jam 15⟩=[(0,r)]:=e;rw[o];show jad.ri _ 0+1=1;unfold jad.ri;rw[o];rfl) rfl h4)
 | branch v rs h2 h3 h4 h5=>exact jk8 w _ m.refs m.kind 124 rfl (vX 124) (fun w=>jua HI w _ m.refs rfl h3 h4 h5)
theorem jjL(w:vW)(n:jad)(h:jbI I n):vR 62 #[n.V] w (.tuple #[.string (jaO n),.int .i64 0]):=by
 have E:=h.one HI;have m:=jaq (w.alloc (.cells n.cells.toArray 110)) _ n E.refs (Blk.new w _);have H:=Hd h;have O:=Hd E;clear h E;unfold jad.V at m ⊢;go_enter Tryz.func62,Tryz.ntmps62;go_wp2_with (refine jaf 110 (.tmp 1) rfl rfl _ _ rfl m ?_)
 refine vC (jk7 HI _ n H.o) fun w1 A=>?_;have Q:=(Blk.new w (.cells n.cells.toArray 110)).keeps A (fun h=>h);have e:=jaq w1 _ n O.o.refs Q;have J:=Hd (((ExtR w).alloc _).trans A);unfold jad.V at e;clear m A Q;go_wp2_with (refine jaf 110 (.tmp 1) rfl rfl _ _ rfl e ?_)
 refine vH (jsE w1 n O.o) fun X A=>?_;have K:=Hd (J.o.trans A);clear e;go_wp2_with fail
 go_ret2
 exact⟨rfl,K.o⟩
end
theorem jjQ:∀ (l:vN),l.length % 2=0->(∀ b∈l,b<=15)->jcA (jcv l)=l
 | [],_,_=>rfl
 | [x],h,_=>by simp at h
 | x :: y :: r,h,hb=>by
  have A:=hb x (bK ..);have E:=hb y (bH _ (bK ..));have o:=jjQ r (by simp at h;omega) (fun b e=>hb b (bH _ (bH _ e)));show jcA ((x <<< 4 ||| y) :: jcv r)=_;unfold jcA at o ⊢;rw[dI,o];have H:x.toNat<=15:=dS.1 A;have J:y.toNat<=15:=dS.1 E
  have:∀ a b:Fin 16,((UInt8.ofNat a.1 <<< 4 ||| UInt8.ofNat b.1) >>> 4=UInt8.ofNat a.1)/\((UInt8.ofNat a.1 <<< 4 ||| UInt8.ofNat b.1) &&& 15=UInt8.ofNat b.1):=by decide
  have m:=this ⟨x.toNat,by omega⟩ ⟨y.toNat,by omega⟩;simp only[iN]at m;rw[m.1,m.2];rfl
theorem jgz(p:vB)(leaf:Bool)(hv:jaz p=true):jbf (putB p leaf)=⟨(jce p leaf++p.data.toList).toArray⟩:=by
 unfold jbf putB jbD;rw[jjQ]
 ·show (jce p leaf++p.data.toList).length % 2=0
  rw[bF,show p.data.toList.length=p.size from rfl];unfold jce oddB
  by_cases h:p.size % 2=1
  ·simp[h];omega
  ·have:(p.size % 2 == 1)=false:=by simpa using h
   rw[this];simp;omega
 ·intro b hb
  have hb:b∈jce p leaf++p.data.toList:=hb;rcases bW.1 hb with hb | hb
  ·unfold jce jd6 oddB at hb
   rcases bX.1 hb with rfl | hb
   ·cases leaf <;> cases (p.size % 2 == 1) <;> decide
   ·split at hb
    ·cases hb
    ·rw[cG.1 hb];decide
  ·exact of_decide_eq_true (fG.1 hv b hb)
theorem jor(w:vW)(p:vB)(leaf:Bool)(hs:p.size<=900000)(hv:jaz p=true):vR 161 #[.string (putB p leaf)] w (.tuple #[.string p,.bool leaf,.bool true]):=by
 have m:=jgz p leaf hv;have E:=jbm p leaf;have H:∀ a:vU,(⟨(a :: p.data.toList).toArray⟩:vB).extract 1 (⟨(a :: p.data.toList).toArray⟩:vB).size=p:=fun a=>by
  have:=jit ⟨#[a]⟩ p
  have o:(⟨#[a]⟩:vB)++p=⟨(a :: p.data.toList).toArray⟩:=by rw[jtY (_++p),cW,fO];rfl
  rw[o]at this;exact this
 have J:∀ a b:vU,(⟨(a :: b :: p.data.toList).toArray⟩:vB).extract 2 (⟨(a :: b :: p.data.toList).toArray⟩:vB).size=p:=fun a b=>by
  have:=jit ⟨#[a,b]⟩ p
  have o:(⟨#[a,b]⟩:vB)++p=⟨(a :: b :: p.data.toList).toArray⟩:=by rw[jtY (_++p),cW,fO];rfl
  rw[o]at this;exact this
 by_cases ho:p.size % 2=1
 ·have e:oddB p=true:=by unfold oddB;simpa using ho
  have A:jce p leaf=[jd6 leaf true]:=by unfold jce;rw[e];rfl
  rw[A]at m
  have:=jw5 w (putB p leaf) vO leaf ⟨(jd6 leaf true :: p.data.toList).toArray⟩ m (by show 2<=p.data.toList.length+1;have:p.data.toList.length=p.size:=rfl;omega) (by cases leaf <;> rfl)
  rw[H]at this;exact this
 ·have e:oddB p=false:=by unfold oddB;simpa using ho
  have A:jce p leaf=[jd6 leaf false,0]:=by unfold jce;rw[e];rfl
  rw[A]at m
  have:=juD w (putB p leaf) vO leaf ⟨(jd6 leaf false :: 0 :: p.data.toList).toArray⟩ m (by show 2<=p.data.toList.length+2;omega) (by cases leaf <;> rfl) rfl
  rw[J]at this;exact this
end
section
open Go Go.RowKit
theorem jaC{P:Program}{fn:Func}{t u:Tmp}{ty:TypeId}(h:fn.results=#[.cell t ty,.tmp u]){tmps:Array vV}{a:Addr}(ha:tmps.getD t undef=.pointer (some a)){w:vW}{v x:vV}(hx:tmps.getD u undef=x)(hl:(loadVar ty a).run P w=.ok v w) :
  (results fn tmps).run P w=.ok (.tuple #[v,x]) w:=by
 have e:tmps[t]?.getD undef=.pointer (some a):=by simpa using ha
 have m:tmps[u]?.getD undef=x:=by simpa using hx
 simp[results,h,e,m,asAddr,cA,Result.andThen,hl]
theorem jas(W:vW)(b:Nat)(n:jad)(hr:n.refs.length=16)(hB:Blk W b (.cells n.cells.toArray 110)):(loadVar 110 ⟨b,0,none⟩).run Tryz.prog W=.ok n.V W:=by
 have:=jaq W b n hr hB
 simpa [Instr.loadAt,Instr.sureAddr,cA,Result.andThen]using this
def jcb(k:Int)(p v:vB)(r:vB):List vV:=[.int .i64 k,.string p,.string v,.string r,.string ⟨#[]⟩,.string ⟨#[]⟩,.string ⟨#[]⟩,.string ⟨#[]⟩,.string ⟨#[]⟩,.string ⟨#[]⟩,.string ⟨#[]⟩,.string ⟨#[]⟩,.string ⟨#[]⟩,.string ⟨#[]⟩,.string ⟨#[]⟩,.string ⟨#[]⟩,.string ⟨#[]⟩,.string ⟨#[]⟩,.string ⟨#[]⟩]
theorem jcc(k:Int)(p v r:vB):∀ x∈jcb k p v r,x.oneCell'=true:=by simp[jcb,Value.oneCell']
theorem jqh(w:vW)(p v:vB)(hp:p.size<=900000)(hv:v.size<=100000)(hok:jaz p=true):vR 131 #[.string (jap (putB p true)),.string (jap v)] w (.tuple #[(⟨1,p,v,jam 16⟩:jad).V,.bool true]):=by
 obtain⟨q,h1,h2⟩:=jeq (putB p true) (by have:=jbm p true;omega)
 obtain⟨q',h3,h4⟩:=jeq v vO
 have z1:(jap (putB p true)).size<=1000000000:=by have:=jbm p true;have:=jaQ (putB p true);omega
 have z2:(jap v).size<=1000000000:=by have:=jaQ v;omega
 have H1:=Hd h1;have H2:=Hd h2;have H3:=Hd h3;have H4:=Hd h4;clear h1 h2 h3 h4;go_enter Tryz.func131,Tryz.ntmps131;go_wp2_with (refine jaj Tryz.allocNode rfl rfl ?_;intro W1 A E)
 refine vC (jiT _ _ q z1 H1.o) fun w2 m=>?_;rw[H2.o];have H:=A.keeps m (fun h=>h);have J:=Hd (E.trans m);have K:=Hd H;clear A E m H;unfold optV;simp only;go_wp2_with fail
 refine vC (jor _ p true hp hok) fun w3 m=>?_;have O:=Hd (J.o.trans m);have Q:=Hd (K.o.keeps m (fun h=>h));clear m J K;go_wp2_with fail
 refine vC (jiT _ _ q' z2 H3.o) fun w4 m=>?_;rw[H4.o];have X:=Hd (O.o.trans m);have Z:=Q.o.keeps m (fun h=>h);clear m O Q;unfold optV;simp only;go_wp2_with (refine jag (vs:=jcb 1 p v ⟨#[]⟩) rfl rfl rfl rfl Z rfl Tryz.szNode (jcc _ _ _ _) ?_;intro W5 a0 a1)
 refine bodyPost_ret (jaC rfl rfl rfl (jas W5 _ ⟨1,p,v,jam 16⟩ rfl a0)) rfl ?_
 exact⟨rfl,X.o.trans' a1 (fun x hx e=>by have e:x=w.heap.size:=e;omega)⟩
theorem js0(w:vW)(p r:vB)(hp:p.size<=900000)(hok:jaz p=true):vR 131 #[.string (jap (putB p false)),.string r] w (.tuple #[(⟨2,p,⟨#[]⟩,r :: jam 15⟩:jad).V,.bool true]):=by
 obtain⟨q,h1,h2⟩:=jeq (putB p false) (by have:=jbm p false;omega)
 have z1:(jap (putB p false)).size<=1000000000:=by have:=jbm p false;have:=jaQ (putB p false);omega
 have H1:=Hd h1;have H2:=Hd h2;clear h1 h2;go_enter Tryz.func131,Tryz.ntmps131;go_wp2_with (refine jaj Tryz.allocNode rfl rfl ?_;intro W1 J K)
 refine vC (jiT _ _ q z1 H1.o) fun w2 m=>?_;rw[H2.o];have O:=J.keeps m (fun h=>h);have Q:=Hd (K.trans m);have X:=Hd O;clear J K m O;unfold optV;simp only;go_wp2_with fail
 refine vC (jor _ p false hp hok) fun A m=>?_;have a1:=Hd (Q.o.trans m);have E:=Hd (X.o.keeps m (fun h=>h));clear m Q X;go_wp2_with (first |(refine jaj Tryz.allocNode rfl rfl ?_;intro W5 a2 Z;refine jag (vs:=jcb 2 p ⟨#[]⟩ ⟨#[]⟩) rfl rfl rfl rfl a2 rfl Tryz.szNode (jcc _ _ _ _) ?_;intro W6 H a0;have q3:W6.cell? ⟨A.heap.size,3,none⟩=some (.string ⟨#[]⟩):=H.cell (i:=3) vF;have f3:W6.frozen? ⟨A.heap.size,3,none⟩=false:=H.frozen;have a3:=Hd (H.set_same (i:=3) (.string r))) |(refine jaf 110 (.tmp 10) rfl rfl _ _ rfl (jaq _ _ ⟨2,p,⟨#[]⟩,r :: jam 15⟩ rfl a3.o) ?_;refine jag (vs:=jad.cells ⟨2,p,⟨#[]⟩,r :: jam 15⟩) rfl rfl rfl rfl (((E.o.keeps Z (fun h=>h)).keeps a0 (by have:=E.o.lt;omega)).set_other (p:=⟨A.heap.size,3,none⟩) (by have:=E.o.lt;show w.heap.size≠A.heap.size;omega) (.string r)) rfl Tryz.szNode (jad.one _) ?_;intro W8 a4 a5))
 refine bodyPost_ret (jaC rfl rfl rfl (jas W8 _ ⟨2,p,⟨#[]⟩,r :: jam 15⟩ rfl a4)) rfl ?_;have k1:Ext A (W6.setCell ⟨A.heap.size,3,none⟩ (.string r)):=(Z.trans' a0 (fun x hx e=>by have e:x=A.heap.size:=e;omega)).setCell (.inr (bM _)) _
 exact⟨rfl,(a1.o.trans k1).trans' a5 (fun x hx e=>by have e:x=w.heap.size:=e;omega)⟩
def ja5(rs:vM)(v:vB):vM:=rs.map (fun r=>if r.size=0 then jap ⟨#[]⟩else r)++[jap v]
def brN(rs:vM)(k:Nat):jad:=⟨3,⟨#[]⟩,⟨#[]⟩,rs.take k++jam (16 - k)⟩
theorem jrd{rs:vM}(h:rs.length=16){k:Nat}(hk:k<=16):(brN rs k).refs.length=16:=by simp[brN,jam,h];omega
theorem jre{rs:vM}(h:rs.length=16){k:Nat}(hk:k < 16)(r:vB)(hr:rs[k]?=some r):(brN rs k).cells.set (3+k) (.string r)=(brN rs (k+1)).cells:=by
 have e:(rs.take k++jam (16 - k)).set k r=rs.take (k+1)++jam (16 - (k+1)):=by
  rw[fD _ _ (by simp[h];omega)]
  have:k - (rs.take k).length=0:=by simp[h];omega
  rw[this,show 16 - k=(16 - (k+1))+1 by omega];unfold jam;rw[fC,dJ,bS,hr];simp
 unfold jad.cells brN;simp only;rw[show 3+k=k+1+1+1 by omega,dB,dB,dB, <-e,gU]
theorem jt9{rs:vM}(h:rs.length=16){k:Nat}(hk:k < 16)(r:vB)(hr:rs[k]?=some r)(h0:r.size=0):brN rs (k+1)=brN rs k:=by
 have e:r=⟨#[]⟩:=by
  obtain⟨⟨l⟩⟩:=r
  cases l with
  | nil=>rfl
  | cons x y=>exact absurd h0 (iA _)
 unfold brN;rw[bS,hr,e,show 16 - k=(16 - (k+1))+1 by omega];unfold jam;rw[fC];simp
def jyg(w:vW)(g2 g4:Nat)(rs:vM)(i:vV)(wr:vW):Prop:=∃ k:Nat,k<=16/\i=.int .i64 k/\Ext w wr/\Blk wr g2 (.cells jav.cells.toArray 110)/\Blk wr g4 (.cells (brN rs k).cells.toArray 110)
theorem jmm(w:vW)(a:vV)(rs:vM)(v:vB)(hr:rs.length=16)(hv:v.size<=100000)(hne:∀ r∈rs,r.size≠0->r≠jap ⟨#[]⟩)(ha:RdS w a (ja5 rs v)):vR 132 #[a] w (.tuple #[(⟨3,⟨#[]⟩,v,rs⟩:jad).V,.bool true]):=by
 have O:(ja5 rs v).length=17:=by simp[ja5,hr]
 rcases ha with⟨_,_,_,h0⟩ |⟨b,o,c,rfl,hb,hc,hcell⟩
 ·rw[h0]at O;cases O
 rw[O]at hc ⊢;have b4:∀ (k:Nat) r,rs[k]?=some r->w.cell? ⟨b,o+k,none⟩=some (.string (if r.size=0 then jap ⟨#[]⟩else r)):=fun k r hk=>hcell k _ (by
  unfold ja5;rw[cP (by rw[bU];exact (bO.1 hk).1),bV,hk];rfl)
 have b5:w.cell? ⟨b,o+16,none⟩=some (.string (jap v)):=hcell 16 _ (by
  unfold ja5;rw[cV (by rw[bU];omega),bU,hr];rfl)
 obtain⟨q,h1,h2⟩:=jeq v vO
 have z1:(jap v).size<=1000000000:=by have:=jaQ v;omega
 have c3:=Hd b4;have c4:=Hd b5;have H1:=Hd h1;have H2:=Hd h2;have Q:=Hd hr;have c5:=Hd hne;clear b4 b5 h1 h2 O hcell hr hne;go_enter Tryz.func132,Tryz.ntmps132;go_wp2_with (first |(refine jaj Tryz.allocNode rfl rfl ?_;intro W3 b6 a1;refine jag (vs:=jcb 3 ⟨#[]⟩ ⟨#[]⟩ ⟨#[]⟩) rfl rfl rfl rfl b6 rfl Tryz.szNode (jcc _ _ _ _) ?_;intro W4 A a2) |(refine jaj Tryz.allocNode rfl rfl ?_;intro W1 X a3))
 have h4:Ext w W4:=(a3.trans a1).trans' a2 (fun x hx e=>by have e:x=W1.heap.size:=e;have:=a3.size;omega);have h5:=(X.keeps a1 (fun h=>h)).keeps a2 (by have:=X.lt;omega)
 obtain⟨E,b7⟩:∃ g,g=W1.heap.size:=⟨_,rfl⟩
 obtain⟨g2,b8⟩:∃ g,g=w.heap.size:=⟨_,rfl⟩
 have c9:g2 < E:=by have:=X.lt;omega
 have n2:w.heap.size<=g2:=vO
 rw[<-b7]at A ⊢;rw[<-b8]at h5 ⊢;have a4:=Hd h4;have H:=Hd A;have H5:=Hd h5;clear b7 b8 h4 h5 A a3 X b6 a1 a2;go_loopw [9] (fun i wr=>jyg w g2 E rs i wr) (fun i _=>16 - (intOf i).toNat)
 case atStart=>exact⟨0,by omega,rfl,a4.o,H5.o,H.o⟩
 case round =>
  obtain⟨k,hk,rfl,hE,b9,A⟩:=hrel
  have HE:=Hd hE;have a5:=Hd b9;have H:=Hd A;clear hE b9 A
  by_cases hlt:k < 16
  ·obtain⟨r,Z⟩:∃ r,rs[k]?=some r:=⟨_,bA (by have:=Q.o;omega)⟩
   have J:=jaa (c3.o k r Z) HE.o;have b1:(k:Int) < 17:=vO
   have b0:r∈rs:=bE Z
   obtain⟨em,a6⟩:=vE (jap ⟨#[]⟩)
   rw[<-a6]at J;have a7:=Hd a6;have c0:=Hd Z;clear a6 Z
   by_cases h0:r.size=0
   ·rw[if_pos h0]at J
    have QX:=Hd J;clear J;go_wp2_with fail
    refine jah [0,1,2,3,4,5] Ext ExtR ExtT vY vY vY ?_;iterate 3 refine vK ?_
    refine qKL ⟨b,o+k,none⟩ _ rfl (fun w2 h2=>jab Tryz.uStr rfl (jaa (by exact QX.o) h2)) ?_;refine vS ?_;refine qKC _ 120 #[.string ⟨#[]⟩] (.string em) rfl (fun w1=>jat (vX 120) vY) (fun w1 h1=>by rw[a7.o];exact jew w1 ⟨#[]⟩ vI) ?_;refine vS ?_
    refine vK ?_
    refine qKE (fun w3 he=>?_);have K:=(jai wr).trans he;have a8:=Hd (HE.o.trans K);have a9:=Hd (a5.o.keeps K (fun h=>h));have m:=Hd (H.o.keeps K (fun h=>h));clear he K;go_wp2_with fail
    go_roundw
    case rel=>exact⟨k+1,by omega,by go_num,a8.o,a9.o,by rw[jt9 Q.o hlt r c0.o h0];exact m.o⟩
    case measure=>exact vJ
   ·rw[if_neg h0]at J
    have hq:(r.toList == em.toList)=false:=by
     rw[beq_eq_false_iff_ne,bL,bL];intro e;exact c5.o r b0 h0 (by rw[<-a7.o];exact ByteArray.ext (Array.ext' e))
    have QX:=Hd J;clear J;go_wp2_with fail
    refine jah [0,1,2,3,4,5] Ext ExtR ExtT vY vY vY ?_;iterate 3 refine vK ?_
    refine qKL ⟨b,o+k,none⟩ _ rfl (fun w2 h2=>jab Tryz.uStr rfl (jaa (by exact QX.o) h2)) ?_;refine vS ?_;refine qKC _ 120 #[.string ⟨#[]⟩] (.string em) rfl (fun w1=>jat (vX 120) vY) (fun w1 h1=>by rw[a7.o];exact jew w1 ⟨#[]⟩ vI) ?_;refine vS ?_
    refine vK ?_
    refine qKE (fun w3 he=>?_);have K:=(jai wr).trans he;have a8:=Hd (HE.o.trans K);have a9:=Hd (a5.o.keeps K (fun h=>h));have m:=Hd (H.o.keeps K (fun h=>h));have J:=jaa QX.o K
    obtain⟨old,q4⟩:∃ v,w3.cell? ⟨E,3+k,none⟩=some v:=⟨_,m.o.cellL (bA (by rw[jad.cells_len _ (jrd Q.o hk)];omega))⟩
    have f4:w3.frozen? ⟨E,3+k,none⟩=false:=m.o.frozen;have b2:(k:Int) < 16:=vO
    clear he K;go_wp2_with fail
    go_roundw
    case rel =>
     refine⟨k+1,by omega,by go_num,a8.o.setCell (.inr (by show w.heap.size<=E;omega)) _,a9.o.set_other (p:=⟨E,3+k,none⟩) (by show g2≠E;omega) _,?_⟩
     have:=m.o.set_same (i:=3+k) (.string r)
     rw[show (brN rs k).cells.toArray.setIfInBounds (3+k) (.string r)=((brN rs k).cells.set (3+k) (.string r)).toArray by simp,jre Q.o hlt r c0.o]at this;exact this
    case measure=>exact vJ
  ·have b3:k=16:=vO
   subst b3;have J:=jaa c4.o HE.o;go_wp2_with fail
   refine vC (jiT _ _ q z1 H1.o) fun w4 hE=>?_;rw[H2.o];have a0:=H.o.keeps hE (fun h=>h);have q4:w4.cell? ⟨E,2,none⟩=some (.string ⟨#[]⟩):=a0.cellL vF;have f4:w4.frozen? ⟨E,2,none⟩=false:=a0.frozen;have m:=Hd (a0.set_same (i:=2) (.string v));have c1:=(a5.o.keeps hE (fun h=>h)).set_other (p:=⟨E,2,none⟩) (by show g2≠E;omega) (.string v);have c6:=Hd c1;have a4:=Hd (HE.o.trans hE);have c2:brN rs 16=⟨3,⟨#[]⟩,⟨#[]⟩,rs⟩:=by unfold brN jam;rw[bQ (by have:=Q.o;omega)];simp
   rw[c2]at m;have ec:(jad.cells ⟨3,⟨#[]⟩,⟨#[]⟩,rs⟩).toArray.setIfInBounds 2 (.string v)=(jad.cells ⟨3,⟨#[]⟩,v,rs⟩).toArray:=by simp[jad.cells]
   rw[ec]at m;clear hE a0 c1 J ec c2;unfold optV;simp only;go_wp2_with (first |(refine jaf 110 (.tmp 4) rfl rfl _ _ rfl (jaq _ _ ⟨3,⟨#[]⟩,v,rs⟩ Q.o m.o) ?_) |(refine jag (vs:=jad.cells ⟨3,⟨#[]⟩,v,rs⟩) rfl rfl rfl rfl c6.o (by rw[jad.cells_len ⟨3,⟨#[]⟩,v,rs⟩ Q.o];rfl) (by rw[jad.cells_len ⟨3,⟨#[]⟩,v,rs⟩ Q.o];exact Tryz.szNode) (jad.one _) ?_;intro W8 c7 c8))
   refine bodyPost_ret (jaC rfl rfl rfl (jas W8 _ ⟨3,⟨#[]⟩,v,rs⟩ Q.o c7)) rfl ?_
   exact⟨rfl,(a4.o.setCell (.inr (by show w.heap.size<=E;omega)) _).trans' c8 (fun x hx e=>by have e:x=g2:=e;omega)⟩
theorem jeJ(xs:vM)(hn:(catB xs).size<=1048576):jba xs≠jap ⟨#[]⟩:=by
 intro e
 obtain⟨o,m,_⟩:=je7 xs hn
 obtain⟨E,A,_⟩:=jij ⟨#[]⟩ vI
 rw[e,A]at m;cases m
theorem jfq{a b:vB}(h:a≠b):(a.toList == b.toList)=false:=by
 rw[beq_eq_false_iff_ne,bL,bL];exact fun e=>h (ByteArray.ext (Array.ext' e))
theorem jiv(s:vB):s.extract s.size s.size=⟨#[]⟩:=by
 apply ByteArray.ext;apply Array.ext';simp
theorem jcQ(xs:vM):(jba xs).size<=(catB xs).size+9:=by
 unfold jba;rw[bY];have:=jel 192 (catB xs).size;omega
theorem jqj(w:vW):vR 94 #[.string (jap ⟨#[]⟩)] w (.tuple #[jav.V,.bool true]):=by
 obtain⟨Z,m⟩:=vE (jap ⟨#[]⟩)
 rw[<-m];have H:=Hd m;clear m;go_enter Tryz.func94,Tryz.ntmps94;go_wp2_with (refine jaj Tryz.allocNode rfl rfl ?_;intro W1 A E)
 refine vC (jew _ ⟨#[]⟩ vI) fun w2 J=>?_;rw[<-H.o];have K:=A.keeps J (fun h=>h);have O:=Hd (E.trans J);clear A E J;go_wp2_with (refine jag (vs:=jav.cells) rfl rfl rfl rfl K rfl Tryz.szNode (jad.one _) ?_;intro W8 Q X)
 refine bodyPost_ret (jaC rfl rfl rfl (jas W8 _ jav rfl Q)) rfl ?_
 exact⟨rfl,O.o.trans' X (fun x hx e=>by have e:x=w.heap.size:=e;omega)⟩
theorem jlb{P:Program}{o:Oper}{a:Act}{w:vW}{K:Act->vW->Prop}{Q:Exit->Act->vW->Prop}{T T2:TypeId}{x y:Operand}{b:Nat}{old vs:List vV}(ho:o.op=.store T x y)(hx:a.eval x=.pointer (some ⟨b,0,none⟩))(hy:a.eval y=.agg vs.toArray)
  (hB:Blk w b (.cells old.toArray T2)) (hl:old.length=vs.length) (hi:(P.info? T).map (·.size)=some vs.length) (h1:∀ v∈vs,v.oneCell'=true)
  (h:∀ W,Blk W b (.cells vs.toArray T2)->jae (fun z=>z=b) w W->K (a.put o.dst undef) W):o.wp P a w K Q:=by
 refine wp_store_mid T x y ho b 0 vs.toArray hx hy (by have:=jk3 hB;rw[hl]at this;simpa using this) (by simpa using hi) (all_oneCell_toArray h1) (h _ ?_ (jae.oneSetCells b vs 0 w))
 have:=Blk.setCells vs 0 w old hB vO
 rw[gW vO]at this;simpa using this
theorem jmn(w:vW)(x y:vB)(n:jad)(hr:n.refs.length=16)(hx:jf8 x)(hy:jf8 y)(hs:x.size+y.size<=1048576)
  (hc:∀ w,vR 131 #[.string x,.string y] w (.tuple #[n.V,.bool true])) :
  vR 94 #[.string (jba [x,y])] w (.tuple #[n.V,.bool true]):=by
 have A:(catB [x,y]).size=x.size+y.size:=by rw[ja6,ja6,jcD];omega
 obtain⟨o,m,h2,h3⟩:=je7 [x,y] vO
 have E:=jcQ [x,y]
 obtain⟨em,H⟩:=vE (jap ⟨#[]⟩)
 have X:=jfq (jeJ [x,y] vO)
 obtain⟨s,Z⟩:=vE (jba [x,y])
 obtain⟨c,J⟩:=vE (catB [x,y])
 rw[<-Z]at m h2 h3 E X ⊢;rw[<-J]at m h2 h3 E A;rw[<-H]at X;have HS:=Hd (show s.size<=1000000000 by omega);have H1:=Hd m;have H3:=Hd h3;have b3:=Hd H;have a0:=Hd J;have b4:=Hd A;have H2:=Hd h2;have HR:=Hd hr;have HC:=Hd hc;clear m h2 h3 E Z J H A hr hc;go_enter Tryz.func94,Tryz.ntmps94;go_wp2_with (refine jaj Tryz.allocNode rfl rfl ?_;intro W1 a1 a2)
 refine vC (jew _ ⟨#[]⟩ vI) fun w2 O=>?_;rw[<-b3.o];have a3:=Hd (a1.keeps O (fun h=>h));have a4:=Hd (a2.trans O);clear a1 a2 O;go_wp2_with fail
 refine vC (jnM _ s _ HS.o H1.o) fun w3 O=>?_;simp only;rw[H3.o,H2.o,jiv];have a5:=Hd (a3.o.keeps O (fun h=>h));have a6:=Hd (a4.o.trans O);clear O a4 a3;go_wp2_with fail
 rw[a0.o];refine (jr3 w3 [x,y] (by intro z hz;rcases bX.1 hz with rfl | hz;exact hx;rw[cG.1 hz];exact hy) (by rw[<-a0.o,b4.o];omega) (show 2<=1000000 by decide)).mono ?_;rintro e w4 ⟨v,rfl,hv⟩;have a7:=Hd (a5.o.keeps hv.ext (fun h=>h));have a8:=Hd (a6.o.trans hv.ext);rcases hv.rd with⟨_,_,_,h0⟩ |⟨b,o2,c2,rfl,hb,hc,hcell⟩
 ·cases h0
 have QX:=Hd (hcell 0 x rfl);have QY:=Hd (hcell 1 y rfl);clear hv hcell a6 a5;go_wp2_with fail
 refine jay [0,1,2,3,4,5,6,7,8,9,10] [9] Ext ExtR ExtT vY vY vY ?_;iterate 2 refine vP ?_
 refine qL ⟨b,o2,none⟩ _ rfl (fun w1 m=>jab Tryz.uStr rfl (jaa (by exact QX.o) m)) ?_;refine vS ?_;iterate 2 refine vP ?_
 refine qL ⟨b,o2+1,none⟩ _ rfl (fun w1 m=>jab Tryz.uStr rfl (jaa (by exact QY.o) m)) ?_;refine vS ?_;refine jdb _ 131 #[.string x,.string y] (.tuple #[n.V,.bool true]) rfl vY rfl (fun w1=>jat (vX 131) vY) (fun w1 m=>HC.o w1) ?_;refine vS ?_;iterate 2 refine vP ?_
 refine qH _ rfl (fun w5 Q K hK=>?_);have hX:=(jai w4).trans Q;refine jlb (vs:=n.cells) rfl rfl rfl (a7.o.keeps hX (fun h=>h)) (by rw[n.cells_len HR.o];rfl) (by rw[n.cells_len HR.o];exact Tryz.szNode) n.one ?_;intro W6 a9 b0;have b1:=Hd a9;have b2:=Hd ((a8.o.trans hX).trans' b0 (fun x hx e=>by have e:x=w.heap.size:=e;omega));clear Q hX a9 b0 QX QY a7 a8;refine vS ?_;refine hK _ _ ?_;clear hK K
 refine vP ?_
 refine qE (fun w7 Q=>?_);have b5:=Hd (b1.o.keeps Q (fun h=>h));have b6:=Hd (b2.o.trans Q);clear Q b1 b2;go_wp2_with fail
 refine bodyPost_ret (jaC rfl rfl rfl (jas w7 _ n HR.o b5.o)) rfl ?_
 exact⟨rfl,b6.o⟩
theorem jqi(w:vW)(xs:vM)(n:jad)(hr:n.refs.length=16)(hl:xs.length=17)(hx:∀ x∈xs,jf8 x)(hs:(catB xs).size<=1048576)
  (hc:∀ w v,RdS w v xs->vR 132 #[v] w (.tuple #[n.V,.bool true])) :
  vR 94 #[.string (jba xs)] w (.tuple #[n.V,.bool true]):=by
 obtain⟨o,h1,h2,h3⟩:=je7 xs hs
 have E:=jcQ xs
 obtain⟨em,H⟩:=vE (jap ⟨#[]⟩)
 have O:=jfq (jeJ xs hs)
 obtain⟨s,Q⟩:=vE (jba xs)
 obtain⟨c,J⟩:=vE (catB xs)
 rw[<-Q]at h1 h2 h3 E O ⊢;rw[<-J]at h1 h2 h3 E hs;rw[<-H]at O;have HS:=Hd (show s.size<=1000000000 by omega);have H1:=Hd h1;have H3:=Hd h3;have a7:=Hd H;have X:=Hd J;have a8:=Hd hs;have HL:=Hd hl;have H2:=Hd h2;have HR:=Hd hr;have HC:=Hd hc;clear h1 h2 h3 E Q J H hs hr hc hl;go_enter Tryz.func94,Tryz.ntmps94;go_wp2_with (refine jaj Tryz.allocNode rfl rfl ?_;intro W1 Z a0)
 refine vC (jew _ ⟨#[]⟩ vI) fun w2 m=>?_;rw[<-a7.o];have a1:=Hd (Z.keeps m (fun h=>h));have a2:=Hd (a0.trans m);clear Z a0 m;go_wp2_with fail
 refine vC (jnM _ s _ HS.o H1.o) fun w3 m=>?_;simp only;rw[H3.o,H2.o,jiv];have a3:=Hd (a1.o.keeps m (fun h=>h));have a4:=Hd (a2.o.trans m);clear m a2 a1;go_wp2_with fail
 rw[X.o];refine (jr3 w3 xs hx (by rw[<-X.o];have:=a8.o;omega) (by have:=HL.o;omega)).mono ?_;rintro e w4 ⟨v,rfl,hv⟩;have a5:=Hd (a3.o.keeps hv.ext (fun h=>h));have a6:=Hd (a4.o.trans hv.ext);have K:=hv.rd;rcases hv.sl with⟨ad,cp,rfl⟩;rw[HL.o]at K ⊢;have A:=HC.o w4 _ K;have a9:=Hd A;clear hv a4 a3 K A;go_wp2_with fail
 refine a9.o.mono ?_;rintro e w5 ⟨rfl,m⟩;have b0:=Hd (a6.o.trans m);have b1:=a5.o.keeps m (fun h=>h);clear m a6 a5;unfold jad.V;go_wp2_with (refine jag (vs:=n.cells) rfl rfl rfl rfl b1 (by rw[n.cells_len HR.o];rfl) (by rw[n.cells_len HR.o];exact Tryz.szNode) n.one ?_;intro W8 b2 b3)
 refine bodyPost_ret (jaC rfl rfl rfl (jas W8 _ n HR.o b2)) rfl ?_
 exact⟨rfl,b0.o.trans' b3 (fun x hx e=>by have e:x=w.heap.size:=e;omega)⟩
end
section
open Go Go.RowKit
theorem jol:∀ (l:vM) (i:Nat) (m:vM) (j:Nat),i+l.length<=m.length ->
  ((jaw i l).foldl (fun l x=>l.set x.1 x.2) m)[j]?=if i<=j/\j < i+l.length/\(l.getD (j - i) ⟨#[]⟩).size≠0 then some (l.getD (j - i) ⟨#[]⟩)else m[j]?
 | [],i,m,j,_=>by
  rw[if_neg (fun h=>by have O:=h.1;have o:=h.2.1;rw[dD]at o;omega)];rfl
 | r :: l,i,m,j,h=>by
  unfold jaw;simp only[bP]at h ⊢;have H:∀ (E:vM),E.length=m.length->(∀ k,k≠i->E[k]?=m[k]?)->((jaw (i+1) l).foldl (fun l x=>l.set x.1 x.2) E)[j]?=if i<=j/\j < i+(l.length+1)/\((r :: l).getD (j - i) ⟨#[]⟩).size≠0/\j≠i then some ((r :: l).getD (j - i) ⟨#[]⟩)else E[j]?:=by
   intro E K J;rw[jol l (i+1) E j vO]
   by_cases hj:i+1<=j
   ·have e:(r :: l).getD (j - i) ⟨#[]⟩=l.getD (j - (i+1)) ⟨#[]⟩:=by
     rw[show j - i=(j - (i+1))+1 by omega,List.getD_cons_succ]
    rw[e]
    by_cases o:j < i+1+l.length/\(l.getD (j - (i+1)) ⟨#[]⟩).size≠0
    ·rw[if_pos ⟨hj,o.1,o.2⟩,if_pos ⟨by omega,by omega,o.2,by omega⟩]
    ·rw[if_neg (fun A=>o A.2),if_neg (fun A=>o ⟨by omega,A.2.2.1⟩)]
   ·rw[if_neg (fun A=>hj A.1),if_neg (fun A=>hj vO)]
  split
  ·rename_i h0
   rw[H m rfl (fun _ _=>rfl)]
   by_cases hj:j=i
   ·subst hj
    rw[if_neg (fun A=>A.2.2.2 rfl),if_neg (fun A=>A.2.2 (by rw[iU];exact h0))]
   ·by_cases o:i<=j/\j < i+(l.length+1)/\((r :: l).getD (j - i) ⟨#[]⟩).size≠0
    ·rw[if_pos ⟨o.1,o.2.1,o.2.2,hj⟩,if_pos o]
    ·rw[if_neg (fun A=>o ⟨A.1,A.2.1,A.2.2.1⟩),if_neg o]
  ·rename_i h0
   rw[cN,H (m.set i r) (by simp) (fun k J=>List.getElem?_set_ne (Ne.symm J))]
   by_cases hj:j=i
   ·subst hj
    rw[if_neg (fun A=>A.2.2.2 rfl),if_pos ⟨bM _,by omega,by rw[iU];exact h0⟩,iU];rw[List.getElem?_set_self vO];rfl
   ·rw[List.getElem?_set_ne (Ne.symm hj)]
    by_cases o:i<=j/\j < i+(l.length+1)/\((r :: l).getD (j - i) ⟨#[]⟩).size≠0
    ·rw[if_pos ⟨o.1,o.2.1,o.2.2,hj⟩,if_pos o]
    ·rw[if_neg (fun A=>o ⟨A.1,A.2.1,A.2.2.1⟩),if_neg o]
theorem jdy(n:jad)(hr:n.refs.length=16):jbO n=ja5 n.refs n.value:=by
 apply List.ext_getElem?;intro j;unfold jbO jd4 ja5;rw[bQ (bM _)];unfold jad.refsL;have o:((jaw 0 n.refs).foldl (fun l x=>l.set x.1 x.2) (List.replicate 17 (jap ⟨#[]⟩))).length=17:=by
  have:=jh9 n n.refsL.length
  unfold jd4 at this;rw[bQ (bM _)]at this;exact this
 by_cases h16:j=16
 ·subst h16
  rw[List.getElem?_set_self (by rw[o];omega),cV (by rw[bU,hr];omega),bU,hr];rfl
 ·rw[List.getElem?_set_ne vO,jol n.refs 0 _ j (by rw[hr,List.length_replicate];omega),hr]
  by_cases hj:j < 16
  ·have m:j < n.refs.length:=vO
   rw[cP (by rw[bU];exact m),bV,bA m];have e:n.refs.getD (j - 0) ⟨#[]⟩=n.refs[j]:=by rw[bC,Nat.sub_zero,bA m];rfl
   rw[e]
   by_cases h0:n.refs[j].size=0
   ·rw[if_neg (fun A=>A.2.2 h0),List.getElem?_replicate,if_pos vO,gB,if_pos h0]
   ·rw[if_pos ⟨by omega,by omega,h0⟩,gB,if_neg h0]
  ·rw[if_neg (fun A=>hj vO),List.getElem?_replicate,if_neg vO,jB (by simp[hr];omega)]
section
variable {I:vB->jad->Prop} (HI:InlP I)
include HI
theorem MayP.item{r:vB}(h:MayP I r):jf8 r:=by
 rcases h with⟨h,h1,rfl⟩ |⟨m,hm⟩
 ·exact jc6 h vO
 ·obtain⟨xs,rfl,e⟩:=HI.list r m hm
  exact jnn xs e
theorem MayP.ne{r:vB}(h:MayP I r):r≠jap ⟨#[]⟩:=by
 rcases h with h |⟨m,hm⟩
 ·intro e
  have:=h.size
  rw[e]at this;exact absurd this vI
 ·obtain⟨xs,rfl,o⟩:=HI.list r m hm
  exact jeJ xs o
theorem jxA(w:vW)(n:jad)(h:jbI I n):vR 94 #[.string (jaO n)] w (.tuple #[n.V,.bool true]):=by
 have H:=h.one HI;have J:=jdg n H;cases h with
 | none=>exact jqj w
 | leaf p v h2 h3 h4 =>
  obtain⟨a,b,c⟩:=jbQ h2
  have Q:=jbm p true;have X:=jaQ (putB p true);have Z:=jaQ v;simp only at b;exact jmn w (jap (putB p true)) (jap v) _ H.refs (jc6 _ vO) (jc6 _ vO) vO (fun w=>jqh w p v vO vO c)
 | ext p r h2 h3 h4 =>
  obtain⟨a,b,c⟩:=jbQ h2
  have Q:=jbm p false;have X:=jaQ (putB p false);simp only at b;have O:MayP I r:=h4.imp id (fun ⟨m,h,_⟩=>⟨m,h⟩);have Z:=O.size HI;exact jmn w (jap (putB p false)) r _ H.refs (jc6 _ vO) (O.item HI) vO (fun w=>js0 w p r vO c)
 | branch v rs h2 h3 h4 h5 =>
  have e:jbO ⟨3,⟨#[]⟩,v,rs⟩=ja5 rs v:=jdy _ h2;have o:∀ x∈ja5 rs v,jf8 x:=by
   intro x A;unfold ja5 at A;rcases bW.1 A with A | A
   ·obtain⟨r,K,rfl⟩:=bI.1 A
    by_cases E:r.size=0
    ·rw[if_pos E];exact jc6 _ vI
    ·rw[if_neg E];exact (h4 r K E).item HI
   ·rw[cG.1 A];exact jc6 _ vO
  show vQ _ #[.string (jba (jbO ⟨3,⟨#[]⟩,v,rs⟩))] w _;rw[e]at J ⊢;exact jqi w (ja5 rs v) _ h2 (by simp[ja5,h2]) o vO (fun w a ha=>jmm w a rs v h2 vO (fun r K E=>(h4 r K E).ne HI) ha)
end
end
section
open Go Go.RowKit
theorem jhf(n:jad)(h:jpv n):(jaO n).size<=2000:=by
 unfold jaO;have A:=h.path;have E:=h.value;split
 ·exact bG (jaQ _) vI
 ·split
  ·have m:=jbm n.path true
   have o:=jaQ (putB n.path true);have H:=jaQ n.value;have e:=jcQ [jap (putB n.path true),jap n.value];rw[ja6,ja6,jcD]at e;unfold jlW;omega
  ·split
   ·have m:=jbm n.path false
    have o:=jaQ (putB n.path false);have e:=jcQ [jap (putB n.path false),n.refs.getD 0 ⟨#[]⟩];rw[ja6,ja6,jcD]at e;have J:(n.refs.getD 0 ⟨#[]⟩).size<=33:=h.each _ (by
     rw[bC,bA (by rw[h.refs];omega)];exact cY _)
    unfold extB;omega
   ·have z:=jdg n h
    have e:=jcQ (jbO n);unfold jd5;omega
theorem jjK(n:jad)(h:jpv n)(hk:n.kind≠0):∃ xs,jaO n=jba xs/\(catB xs).size<=1048576:=by
 have o:=h.path;have A:=h.value;unfold jaO;rw[if_neg hk];split
 ·have e:=jbm n.path true
  have m:=jaQ (putB n.path true);have E:=jaQ n.value
  exact⟨_,rfl,by rw[ja6,ja6,jcD];omega⟩
 ·split
  ·have e:=jbm n.path false
   have m:=jaQ (putB n.path false);have H:(n.refs.getD 0 ⟨#[]⟩).size<=33:=h.each _ (by
    rw[bC,bA (by rw[h.refs];omega)];exact cY _)
   exact⟨_,rfl,by rw[ja6,ja6,jcD];omega⟩
  ·exact⟨_,rfl,by have:=jdg n h;omega⟩
section
variable {I:vB->jad->Prop} (HI:InlP I)
include HI
theorem jiz(w:vW)(n:jad)(h:jbI I n):vR 65 #[.string (jaO n)] w (.tuple #[n.V,.int .i64 0]):=by
 have h1:=h.one HI
 obtain⟨s,hs⟩:=vE (jaO n)
 rw[<-hs];have HS:=Hd hs;have H:=Hd h;have J:=Hd h1;have HL:=Hd (n.cells_len h1.refs);clear h h1 hs;go_enter Tryz.func65,Tryz.ntmps65;go_wp2_with (refine jaj Tryz.allocNode rfl rfl ?_;intro W1 K O)
 rw[HS.o];refine vC (jxA HI W1 n H.o) fun w2 m=>?_;rw[<-HS.o];have a3:=Hd (K.keeps m (fun h=>h));have a4:=Hd (O.trans m);clear K O m;unfold jad.V;go_wp2_with (first |(refine jaj Tryz.allocNode rfl rfl ?_;intro W3 Q X;refine jag (vs:=n.cells) rfl rfl rfl rfl Q (by rw[HL.o];rfl) (by rw[HL.o];exact Tryz.szNode) n.one ?_;intro W4 A Z) |(refine jaf 110 (.tmp 4) rfl rfl _ _ rfl (jaq _ _ n J.o.refs A) ?_))
 have a1:Ext w2 W4:=X.trans' Z (fun x hx e=>by have e:x=w2.heap.size:=e;omega);refine vC (jk7 HI W4 n H.o) fun w5 m=>?_;have E:=A.keeps m (fun h=>h);have a5:=Hd E;have HX:=Hd (a1.trans m);clear Q X A Z a1 m;go_wp2_with (refine jaf 110 (.tmp 4) rfl rfl _ _ rfl (jaq _ _ n J.o.refs E) ?_)
 refine vC (jsE w5 n J.o) fun w6 m=>?_;rw[<-HS.o];have a6:=a5.o.keeps m (fun h=>h);have a2:=HX.o.trans m;have a0:=a3.o.keeps a2 (fun h=>h);clear E m;go_wp2_with (first |(refine jaf 110 (.tmp 4) rfl rfl _ _ rfl (jaq _ _ n J.o.refs a6) ?_) |(refine jag (vs:=n.cells) rfl rfl rfl rfl a0 (by rw[HL.o];rfl) (by rw[HL.o];exact Tryz.szNode) n.one ?_;intro W8 a7 a8))
 refine bodyPost_ret (jaC rfl rfl rfl (jas W8 _ n J.o.refs a7)) rfl ?_
 exact⟨rfl,(a4.o.trans a2).trans' a8 (fun x hx e=>by have e:x=w.heap.size:=e;omega)⟩
theorem jr1(w:vW)(n:jad)(h:jbI I n)(hk:n.kind≠0)(hsm:(jaO n).size < 32):vR 90 #[.string (jaO n)] w (.tuple #[n.V,.bool true]):=by
 have Z:=h.one HI
 obtain⟨s,hs⟩:=vE (jaO n)
 rw[<-hs]at hsm ⊢;have c1:¬(32:Int)<=(s.size:Int):=vO
 have c2:((n.kind:Int) == 0)=false:=by simp;omega
 have c3:¬(n.kind:Int)=0:=vO
 have HS:=Hd hs;have H:=Hd h;have H1:=Hd Z;have X:=Hd (n.cells_len Z.refs);clear h Z hs hk;go_enter Tryz.func90,Tryz.ntmps90;go_wp2_with (refine jaj Tryz.allocNode rfl rfl ?_;intro W1 m A)
 rw[HS.o];refine vC (jiz HI W1 n H.o) fun w2 hE=>?_;rw[<-HS.o];have E:=m.keeps hE (fun h=>h);have a0:=Hd (A.trans hE);clear m A hE;unfold jad.V;go_wp2_with (first |(refine jaj Tryz.allocNode rfl rfl ?_;intro W3 a1 J;refine jag (vs:=n.cells) rfl rfl rfl rfl a1 (by rw[X.o];rfl) (by rw[X.o];exact Tryz.szNode) n.one ?_;intro W4 K O;have q0:W4.cell? ⟨w2.heap.size,0,none⟩=some (.int .i64 (n.kind:Int)):=K.cellL vF;have Q:=(E.keeps J (fun h=>h)).keeps O (by have:=E.lt;omega)) |(refine jaf 110 (.tmp 4) rfl rfl _ _ rfl (jaq _ _ n H1.o.refs K) ?_) |(refine jag (vs:=n.cells) rfl rfl rfl rfl Q (by rw[X.o];rfl) (by rw[X.o];exact Tryz.szNode) n.one ?_;intro W8 a2 a3))
 refine bodyPost_ret (jaC rfl rfl rfl (jas W8 _ n H1.o.refs a2)) rfl ?_;have a4:Ext w2 W4:=J.trans' O (fun x hx e=>by have e:x=w2.heap.size:=e;omega)
 exact⟨rfl,(a0.o.trans a4).trans' a3 (fun x hx e=>by have e:x=w.heap.size:=e;omega)⟩
end
def InlD:Nat->vB->jad->Prop
 | 0,_,_=>False
 | d+1,r,m=>jbI (InlD d) m/\r=jaO m/\r.size < 32/\m.kind≠0
theorem inlP:∀ d,InlP (InlD d)
 | 0=>⟨fun _ _ h=>h.elim,fun _ _ h=>h.elim,fun _ _ h=>h.elim,fun _ _ h=>h.elim,fun _ _ h=>h.elim,fun _ _ h=>h.elim⟩
 | d+1=>by
  have E:=inlP d;have H:∀ r m,InlD (d+1) r m->∃ xs,r=jba xs/\(catB xs).size<=1048576:=fun r m ⟨J,K,O,Q⟩=>by
   obtain⟨xs,e,A⟩:=jjK m (J.one E) Q
   exact⟨xs,K.trans e,A⟩
  refine⟨fun r m h=>(h.1.one E).refs,fun r m h=>h.2.2.1,fun r m h=>?_,H,fun r m h=>?_,fun r m h w=>?_⟩
  ·obtain⟨xs,e,A⟩:=H r m h
   obtain⟨o,X,_⟩:=je7 xs A
   rw[e]
   have:=(jkj X).1
   omega
  ·obtain⟨xs,e,A⟩:=H r m h
   rw[e];exact jlR xs A
  ·obtain⟨J,K,O,Q⟩:=h
   rw[K]at O ⊢;exact jr1 E w m J Q O
end
end Go.Proofs.YtegloohdmjadoaaGreatDoor
