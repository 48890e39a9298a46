/- Lemmas; each is under no condition but those that it states. -/
import Derived.Test.YtnkdaacmpceghaaGreatDoorPa11
import Derived.RangeFuncCalls
namespace Go.Proofs.YtnkdaacmpceghaaGreatDoor
set_option linter.unusedSimpArgs false
set_option linter.unusedVariables false
set_option maxRecDepth 100000
set_option maxHeartbeats 16000000
variable (xs:vM)(W w:vW)(p r s:vB)(n:jae){a:Act}{af:Array Edge}{lb vs tmps:Array vV}{k b:Nat}{x y:Operand}{g:Option (Nat × Bool)}{d:Option Tmp}{P:Program}{pos:String}{t u:Tmp}{rs:vM}{v:vV}
section
open Go Go.RowKit
attribute [local go_sem] Oper.semAt_some
theorem Tryz.allocNode:∀ w,(Instr.alloc 206 true (.tuple #[])).run Tryz.prog w=.ok (.pointer (some ⟨w.heap.size,0,none⟩)) (w.alloc (.cells jas.cells.toArray 206)):=fun w=>by kernel_rfl
theorem jae.one(n:jae):∀ v∈n.cells,v.oneCell'=true:=by
 intro v e;simp only[jae.cells,bZ,bD]at e;rcases e with rfl | rfl | rfl |⟨_,_,rfl⟩ <;> rfl
def je2(r:vB):Prop:=∃ h:vB,h.size=32/\r=jam h
theorem je2.size{r:vB}(h:je2 r):r.size=33:=by
 obtain⟨h,e,rfl⟩:=h
 unfold jam;rw[if_neg vO,cD,e];rfl
theorem je2.known{r:vB}(hh:je2 r):r.size<=1000000000/\∃ h q,cutN r=some q/\jfA r q=some h:=by
 have K:=hh.size
 obtain⟨h,A,e⟩:=hh
 obtain⟨q,H,J⟩:=jeu h A
 exact⟨by omega,h,q,by rw[e];exact H,by rw[e];exact J⟩
structure InlP(I:vB->jae->Prop):Prop where
 refs:∀ r m,I r m->m.refs.length=16
 small:∀ r m,I r m->r.size < 32
 pos:∀ r m,I r m->r.size≠0
 list:∀ r m,I r m->∃ xs,r=ja6 xs/\(catB xs).size<=1048576
 nohash:∀ r m,I r m->∃ q,cutN r=some q/\jfA r q=none
 inl:∀ r m,I r m->∀ w,vR 120 #[.string r] w (.tuple #[m.V,.bool true])
section
variable {I:vB->jae->Prop} (HI:InlP I)
def MayP(I:vB->jae->Prop)(r:vB):Prop:=je2 r\/∃ m,I r m
include HI
theorem jx9(w:vW)(r:vB)(hr:MayP I r):vR 230 #[.string r] w (.bool true):=by
 rcases hr with hh |⟨m,hm⟩
 ·obtain⟨hs,h,q,A,H⟩:=hh.known
  have K:=Hd A;have O:=Hd H;clear A H hh;unfold vR vQ;go_in;go_wp2_with fail
  refine vH (jfB w r q vO K.o) fun w1 X=>?_;rw[O.o];unfold optV;simp only;go_wp2_with fail
  go_ret
  exact⟨rfl,X.o⟩
 ·have hs:=HI.small r m hm
  obtain⟨q,A,H⟩:=HI.nohash r m hm
  have HC:=Hd (HI.inl r m hm);have J:=Hd (HI.refs r m hm);have K:=Hd A;have O:=Hd H;clear A H;unfold vR vQ;go_in;go_wp2_with fail
  refine vH (jfB w r q vO K.o) fun w1 X=>?_;rw[O.o];unfold optV;simp only;go_wp2_with fail
  refine vH (HC.o w1) fun w2 Z=>?_;have a0:=Hd (X.o.trans Z);unfold jae.V;go_wp2_with (refine jah Tryz.allocNode rfl rfl ?_;intro W3 hB a1;refine jad (vs:=m.cells) rfl rfl rfl rfl hB (by rw[m.cells_len J.o];rfl) (by rw[m.cells_len J.o];exact Tryz.szNode) m.one ?_;intro W4 a4 a2)
  have a3:Ext w2 W4:=a1.trans' a2 (fun x hx e=>by have e:x=w2.heap.size:=e;omega);go_ret
  exact⟨rfl,a0.o.trans a3⟩
theorem jzg(w:vW)(n:jae)(r:vB)(hr:n.refs.length=16)(hp:n.pathOk 1=true)(h0:n.value=⟨#[]⟩)(hb:n.behindN=1)(K:n.refs[0]?=some r)(hm:je2 r\/∃ m,I r m/\m.kind=3):vR 199 #[n.V] w (.bool true):=by
 have a1:n.path.size<=1000000:=by
  simp only[jae.pathOk,cC,decide_eq_true_eq]at hp;omega
 have O:=jbH w n hr;have e2:n.cells[2]?=some (.string ⟨#[]⟩):=by rw[<-h0];rfl
 have e3:n.cells[3]?=some (.string r):=by
  show (n.refs.map Value.string)[0]?=_;rw[bV,K];rfl
 have HP:=Hd hp;have HB:=Hd hb;have E3:=Hd e3;clear hp hb h0 K e3;unfold jae.V at O ⊢;unfold vR vQ;go_in;go_wp2_with (refine jaf 298 (.tmp 1) rfl rfl _ _ rfl O ?_)
 refine vC (jfi _ n hr 1 a1) fun w1 A=>?_;rw[HP.o];have B1:=(Blk.new w (.cells n.cells.toArray 298)).keeps A (fun h=>h);have q2:=B1.cellL e2;have H:=ja7 w1 _ n hr B1;have X:=Hd (((ExtR w).alloc _).trans A);have Z:=Hd B1;unfold jae.V at H;clear O A B1;go_wp2_with (refine jaf 298 (.tmp 1) rfl rfl _ _ rfl H ?_)
 refine vC (jgR _ n hr) fun w2 A=>?_;rw[HB.o];have B2:=Z.o.keeps A (fun h=>h);have J:=Hd (X.o.trans A);have q3:=B2.cellL E3.o;have a2:=Hd B2;clear H A q2 B2 Z X;rcases hm with hh |⟨m,hm,hk⟩
 ·obtain⟨hs,h,q,K,h4⟩:=hh.known
  have H3:=Hd K;have H4:=Hd h4;clear K h4 hh;go_wp2_with fail
  refine vH (jfB w2 r q hs H3.o) fun w3 A=>?_;rw[H4.o];have HE:=Hd (J.o.trans A);unfold optV;simp only;go_wp2_with fail
  go_ret
  exact⟨rfl,HE.o⟩
 ·have hs:=HI.small r m hm
  obtain⟨q,K,h4⟩:=HI.nohash r m hm
  have HC:=Hd (HI.inl r m hm);have a0:=Hd (HI.refs r m hm);have H3:=Hd K;have H4:=Hd h4;have HK:=Hd hk;clear K h4 hk;go_wp2_with fail
  refine vC (jfB w2 r q vO H3.o) fun w3 A=>?_;rw[H4.o];have B3:=a2.o.keeps A (fun h=>h);have HE:=Hd (J.o.trans A);have a3:=B3.cellL E3.o;clear A q3 B3;unfold optV;simp only;go_wp2_with fail
  refine vH (HC.o w3) fun w4 a4=>?_;have J:=Hd (HE.o.trans a4);clear a3;unfold jae.V;go_wp2_with (refine jah Tryz.allocNode rfl rfl ?_;intro W3 hB a5;refine jad (vs:=m.cells) rfl rfl rfl rfl hB (by rw[m.cells_len a0.o];rfl) (by rw[m.cells_len a0.o];exact Tryz.szNode) m.one ?_;intro W4 a7 a8;have q0:W4.cell? ⟨w4.heap.size,0,none⟩=some (.int .i64 3):=a7.cellL (by show some (Value.int .i64 (m.kind:Int))=_;rw[HK.o];rfl))
  have a9:Ext w4 W4:=a5.trans' a8 (fun x hx e=>by have e:x=w4.heap.size:=e;omega);have b0:=Hd (J.o.trans a9);go_ret
  exact⟨rfl,b0.o⟩
structure BraC(w:World)(gn gr gf gi:Nat)(n:jae)(c:Nat)(k:Nat)(W:World):Prop where
 ext:Ext w W
 res:Blk W gr (.cells #[.bool false] 4)
 node:Blk W gn (.cells n.cells.toArray 298)
 full:Blk W gf (.cells #[.int .i64 ((c+k:Nat):Int)] 3)
 it:Blk W gi (.cells n.cells.toArray 298)
theorem jsv(w:vW)(n:jae)(hr:n.refs.length=16)(hp:n.path=⟨#[]⟩)(h8:n.value.size<=80)(hm:∀ r∈n.refs,r.size≠0->MayP I r)(h2:2<=min n.value.size 1+n.refsL.length):vR 200 #[n.V] w (.bool true):=by
 have e1:n.cells[1]?=some (.string ⟨#[]⟩):=by rw[<-hp];rfl
 have e2:n.cells[2]?=some (.string n.value):=rfl;have c1:¬(80:Int) < (n.value.size:Int):=vO
 obtain⟨c,hc⟩:=vE (min n.value.size 1)
 have a1:min (n.value.size:Int) 1=(c:Int):=vO
 rw[<-hc]at h2;have HC:=Hd a1;have H2:=Hd h2;clear hp hc a1 h2;refine (callsIn_wide (n:=0)).1 ?_;refine callsIn_of_wp_marks Tryz.func200 rfl trivial ?_ rfl;simp only[Tryz.ntmps200,cT,bU,dA,Nat.reduceAdd,Nat.reduceSub,cV,cU,dE,cZ,cN,cY]
 obtain⟨W0,A⟩:=vE (((w.alloc (.cells n.cells.toArray 298)).alloc (.cells #[.bool false] 4)).alloc (.cells #[.int .i64 (min (n.value.size:Int) 1)] 3))
 have B0:Blk W0 w.heap.size (.cells n.cells.toArray 298):=by rw[A];exact ((Blk.new w _).alloc _).alloc _
 have B1:Blk W0 (w.heap.size+1) (.cells #[.bool false] 4):=by
  rw[A];have:=(Blk.new (w.alloc (.cells n.cells.toArray 298)) (.cells #[.bool false] 4)).alloc (.cells #[.int .i64 (min (n.value.size:Int) 1)] 3);rwa [bF]at this
 have B2:Blk W0 (w.heap.size+1+1) (.cells #[.int .i64 (c:Int)] 3):=by
  rw[A, <-HC.o];have:=Blk.new ((w.alloc (.cells n.cells.toArray 298)).alloc (.cells #[.bool false] 4)) (.cells #[.int .i64 (min (n.value.size:Int) 1)] 3);rwa [bF,bF]at this
 have E0:Ext w W0:=by rw[A];exact (((ExtR w).alloc _).alloc _).alloc _
 have a2:W0.heap.size=w.heap.size+3:=by rw[A];simp
 have X:=ja7 W0 _ n hr B0;rw[A]at X;have a3:=Hd A;have a4:=Hd E0;have a5:=Hd B0;have a7:=Hd B1;have a8:=Hd B2;have a9:=Hd a2;clear A E0 B0 B1 B2 a2;unfold jae.V at X ⊢;gi_wp2_with (refine jaI rfl 298 (.tmp 1) rfl _ _ rfl X ?_)
 refine⟨trivial,rfl,CallsIn.mono (callsIn_wide.2 (jkU _ n)) ?_⟩
 rintro e w1 ⟨rfl,J,O⟩;rw[<-a3.o]at J O ⊢;rw[a9.o]at J ⊢;have b0:BraC w w.heap.size (w.heap.size+1) (w.heap.size+1+1) (w.heap.size+3) n c 0 w1:=⟨a4.o.trans O,a7.o.keeps O (fun h=>h),a5.o.keeps O (fun h=>h),a8.o.keeps O (fun h=>h),J⟩;have b4:=J.lt;have b1:=Hd b0;have b5:c<=1:=by have:=HC.o;omega
 clear J O X b0 a3 a4 a5 a7 a8 a9;gi_wp2_with fail
 refine' jdm (N:=n.refsL.length) (gf:=205) (lb:=#[.pointer (some ⟨w.heap.size+3,0,none⟩)]) rfl (vX 205) (jhP (w.heap.size+3) n hr)
  (fun k=>rfl) (BraC w w.heap.size (w.heap.size+1) (w.heap.size+1+1) (w.heap.size+3) n c) (fun _ _ _=>False) (fun k W W' h e=>⟨h.ext.trans e,h.res.keeps e (fun h=>h),h.node.keeps e (fun h=>h),h.full.keeps e (fun h=>h),h.it.keeps e (fun h=>h)⟩) (fun _ _ _ _ h _=>h) (fun k W h=>h.it)
  (fun k W o h=>⟨h.ext.putObj (.inr vO) _,h.res.put_other vO _,h.node.put_other vO _,h.full.put_other vO _,h.it.put_other vO _⟩) (fun _ _ _ _ h=>h)
  b1.o _
  ?hassign ?hbody ?hdone ?hstop
 case hassign =>
  intro l j W K _ hK;rw[jry,jkm];simp only[dG,dB];gi_wp2;exact hK
 case hbody =>
  intro l k W hk h b6;have q:=h.full.cell (i:=0) (v:=.int .i64 ((c+k:Nat):Int)) vF;have f:W.frozen? ⟨w.heap.size+1+1,0,none⟩=false:=h.full.frozen;have a0:=jrs n hr hk;have Z:=hm _ (bG a0.2.1) a0.2.2;have b3:k < 16:=bC hk (by
   have:∀ (l:vM) (i:Nat),(jav i l).length<=l.length:=by
    intro l;induction l with
    | nil=>intro i;simp[jav]
    | cons x r ih=>intro i;unfold jav;split <;> simp <;> have:=ih (i+1) <;> omega
   have:=this n.refs 0
   rw[hr]at this;exact this)
  have H:=Hd h;have HM:=Hd Z;clear h a0 Z;clear q f;gi_wp2_with fail
  refine⟨trivial,rfl,CallsIn.mono (CallsIn.inRound l (callsIn_wide.2 (jx9 HI W _ HM.o))) ?_⟩
  rintro e w5 ⟨rfl,O⟩;have q:=(H.o.full.keeps O (fun h=>h)).cell (i:=0) (v:=.int .i64 ((c+k:Nat):Int)) vF;have f:w5.frozen? ⟨w.heap.size+1+1,0,none⟩=false:=(H.o.full.keeps O (fun h=>h)).frozen;have HE:=Hd O;clear O;gi_wp2;rw[show (c:Int)+(k:Int)+1=((c+(k+1):Nat):Int) by omega];have K5:jac (fun b=>b=w.heap.size+1+1) w5 (w5.setCell ⟨w.heap.size+1+1,0,none⟩ (.int .i64 ((c+(k+1):Nat):Int))):=jac.oneSet w5 ⟨w.heap.size+1+1,0,none⟩ _;have K6:jac (fun b=>b=w.heap.size+1+1) W (w5.setCell ⟨w.heap.size+1+1,0,none⟩ (.int .i64 ((c+(k+1):Nat):Int))):=(HE.o.mono (fun _ _ h=>h.elim)).trans K5
  refine⟨K6.mono (fun x hx e=>?_),?_⟩
  ·have e:x=_:=e;show x≠_/\x≠_;omega
  ·exact⟨H.o.ext.trans' K6 (fun x hx e=>by omega),H.o.res.keeps K6 vO,H.o.node.keeps K6 vO,((H.o.full.keeps HE.o (fun h=>h)).set_same (i:=0) _),H.o.it.keeps K6 vO⟩
 case hdone =>
  intro W h hd;have q:=h.full.cell (i:=0) (v:=.int .i64 ((c+n.refsL.length:Nat):Int)) vF;have q2:=h.res.cell (i:=0) (v:=.bool false) vF;have f2:W.frozen? ⟨w.heap.size+1,0,none⟩=false:=h.res.frozen;have c5:(2:Int)<=(c:Int)+(n.refsL.length:Int):=by have:=H2.o;omega
  have H:=Hd h;have HD:=Hd hd;clear h hd;gi_wp2;have B2:=(H.o.res.set_same (i:=0) (.bool true));have BD:=HD.o.set_other (p:=⟨w.heap.size+1,0,none⟩) (by show w1.heap.size≠w.heap.size+1;omega) (.bool true);have hX:Ext w ((W.setCell ⟨w.heap.size+1,0,none⟩ (.bool true)).putObj w1.heap.size (.deferred none)):=(H.o.ext.setCell (.inr (by show w.heap.size<=w.heap.size+1;omega)) _).putObj (.inr vO) _
  obtain⟨W3,b2⟩:=vE (W.setCell ⟨w.heap.size+1,0,none⟩ (.bool true))
  rw[<-b2]at B2 BD hX ⊢;have c2:(W3.putObj w1.heap.size (.deferred none)).cell? ⟨w.heap.size+1,0,none⟩=some (.bool true):=(B2.put_other vO _).cell (i:=0) (by simp)
  refine⟨by simp,.inl ⟨_,_,rfl,run_takeDeferred BD,?_⟩⟩
  exact⟨.bool true,by simp[results,Tryz.results200,go_sem,c2],rfl,hX⟩
 case hstop=>intro c k W _ _ h;exact h.elim
end
end
section
open Go Go.RowKit
theorem jnZ{w:vW}{f:FuncId}{args:Array Operand}{ats:Array TypeId}{ty:TypeId}(hx:a.eval x=.func (.func f) #[] lb)(eg:∀ args w,(callFunc f args).run P w=.ok (.enter f args) w)(hv:args.map a.eval=vs) :
  (execOp a.eval ⟨d,.call { callee:=.value x,args:=args,argTypes:=ats },ty,pos,af,g⟩).run P w=.ok (.enter f (vs++lb)) w:=by
 subst hv;simp[execOp,resolve,hx,Deferred.ofValue,invoke,bK,Result.andThen,cP,eg]
theorem jfd{w:vW}{f:FuncId}{ats:Array TypeId}{ty:TypeId}(hx:a.eval x=.func (.func f) #[] #[])(eg:∀ args w,(callFunc f args).run P w=.ok (.enter f args) w)(hv:a.eval y=v) :
  (execOp a.eval ⟨d,.call { callee:=.value x,args:=#[y],argTypes:=ats },ty,pos,af,g⟩).run P w=.ok (.enter f #[v]) w:=by
 have:=jnZ (P:=P) (w:=w) (d:=d) (ats:=ats) (ty:=ty) (pos:=pos) (af:=af) (g:=g) (args:=#[y]) hx eg rfl
 simpa [hv]using this
theorem Tryz.allocTabV:∀ w,(Instr.alloc 345 true (.tuple #[])).run Tryz.prog w=.ok (.pointer (some ⟨w.heap.size,0,none⟩)) (w.alloc (.cells [Value.nilFunc,.nilFunc,.nilFunc,.nilFunc].toArray 345)):=fun w=>by kernel_rfl
theorem Tryz.szTabV:(Tryz.prog.info? 345).map (·.size)=some 4:=vY
theorem Tryz.allocTabT:∀ w,(Instr.alloc 347 true (.tuple #[])).run Tryz.prog w=.ok (.pointer (some ⟨w.heap.size,0,none⟩)) (w.alloc (.cells [Value.nilFunc,.nilFunc,.nilFunc,.nilFunc].toArray 347)):=fun w=>by kernel_rfl
theorem Tryz.szTabT:(Tryz.prog.info? 347).map (·.size)=some 4:=vY
theorem Tryz.uKind:Tryz.prog.underlying 203=some (.int .i64):=vY
theorem Tryz.aggV:(isAgg 344).run Tryz.prog w=.ok false w:=vY
theorem Tryz.aggT:(isAgg 346).run Tryz.prog w=.ok false w:=vY
theorem jag{t:TypeId}(h:∀ w,(isAgg t).run P w=.ok false w){w:vW}{a:Addr}(hc:w.cell? a=some v):(Instr.loadAt t (.pointer (some a))).run P w=.ok v w:=by
 simp[Instr.loadAt,Instr.sureAddr,loadVar,bK,h w,Result.andThen,hc]
def fnV(f:FuncId):vV:=.func (.func f) #[] #[]
theorem jjN(w:vW)(n:jae)(hr:n.refs.length=16)(hk:n.kind<=3)(f:FuncId)(hf:[fnV 197,fnV 198,fnV 199,fnV 200][n.kind]?=some (fnV f))
  (eg:∀ args w,(callFunc f args).run Tryz.prog w=.ok (.enter f args) w) (hc:∀ w,vR f #[n.V] w (.bool true)) :
  vR 154 #[n.V] w (.bool true):=by
 have e0:n.cells[0]?=some (.int .i64 (n.kind:Int)):=rfl;have c0:¬(n.kind:Int) < 0:=vO
 have c1:¬(3:Int) < (n.kind:Int):=vO
 have c2:(n.kind:Int) < 4:=vO
 have HF:=Hd hf;have HC:=Hd hc;have HR:=Hd hr;clear hf hc hr;unfold jae.V;unfold vR vQ;go_in;go_wp2_with (refine jah Tryz.allocTabV rfl rfl ?_;intro W1 H q;refine jad (vs:=[fnV 197,fnV 198,fnV 199,fnV 200]) rfl rfl rfl rfl H rfl Tryz.szTabV (by simp[fnV,Value.oneCell']) ?_;intro X J A;have q0:X.cell? ⟨w.heap.size,0,none⟩=some (.int .i64 (n.kind:Int)):=(((Blk.new w (.cells n.cells.toArray 206)).keeps q (fun h=>h)).keeps A (by rw[bF];omega)).cellL e0)
 have qt:X.cell? ⟨w.heap.size+1,n.kind,none⟩=some (fnV f):=by
  have:=J.cellL HF.o
  rwa [bF]at this
 have K:=((Blk.new w (.cells n.cells.toArray 206)).keeps q (fun h=>h)).keeps A (by rw[bF];omega);have QT:=Hd qt;have Q0:=Hd q0;have Z:=Hd K;have HE:=Hd ((((ExtR w).alloc (.cells n.cells.toArray 206)).trans q).trans' A (fun x hx e=>by have e:x=(w.alloc (.cells n.cells.toArray 206)).heap.size:=e;rw[bF]at e;omega));clear H q J A q0 qt K;refine jaj [0,1,2,3,4,5,6] Ext ExtR ExtT vY vY vY ?_
 refine vK ?_
 refine qKL ⟨w.heap.size,0,none⟩ _ rfl (fun w2 O=>jab Tryz.uKind rfl (jaa (by exact Q0.o) O)) ?_;refine vS ?_
 refine vK ?_
 refine qKL ⟨w.heap.size+1,n.kind,none⟩ _ rfl (fun w2 O=>jag Tryz.aggV (jaa (by exact QT.o) O)) ?_;refine vS ?_;refine qKL ⟨w.heap.size,0,none⟩ _ rfl (fun w2 O=>jap w2 _ n HR.o (Z.o.keeps ((jak X).trans O) (fun h=>h))) ?_;refine vS ?_;refine qKC _ f #[n.V] (.bool true) rfl (fun w1=>jfd rfl eg rfl) (fun w1 h1=>HC.o w1) ?_;refine vS ?_
 refine vK ?_
 refine qKE (fun w3 he=>?_);go_wp2_with fail
 go_ret
 exact⟨rfl,HE.o.trans ((jak X).trans he)⟩
theorem jnm(w:vW)(n:jae)(hr:n.refs.length=16)(hk:n.kind<=3)(S:vB)(f:FuncId)(hf:[fnV 201,fnV 202,fnV 203,fnV 204][n.kind]?=some (fnV f))
  (eg:∀ args w,(callFunc f args).run Tryz.prog w=.ok (.enter f args) w) (hc:∀ w,vR f #[n.V] w (.string S)) :
  vR 155 #[n.V] w (.string S):=by
 have e0:n.cells[0]?=some (.int .i64 (n.kind:Int)):=rfl;have c2:(n.kind:Int) < 4:=vO
 have HF:=Hd hf;have HC:=Hd hc;have HR:=Hd hr;clear hf hc hr;unfold jae.V;unfold vR vQ;go_in;go_wp2_with (refine jah Tryz.allocTabT rfl rfl ?_;intro W1 H q;refine jad (vs:=[fnV 201,fnV 202,fnV 203,fnV 204]) rfl rfl rfl rfl H rfl Tryz.szTabT (by simp[fnV,Value.oneCell']) ?_;intro X J A)
 have q0:X.cell? ⟨w.heap.size,0,none⟩=some (.int .i64 (n.kind:Int)):=(((Blk.new w (.cells n.cells.toArray 298)).keeps q (fun h=>h)).keeps A (by rw[bF];omega)).cellL e0;have qt:X.cell? ⟨w.heap.size+1,n.kind,none⟩=some (fnV f):=by
  have:=J.cellL HF.o
  rwa [bF]at this
 have K:=((Blk.new w (.cells n.cells.toArray 298)).keeps q (fun h=>h)).keeps A (by rw[bF];omega);have QT:=Hd qt;have Q0:=Hd q0;have Z:=Hd K;have HE:=Hd ((((ExtR w).alloc (.cells n.cells.toArray 298)).trans q).trans' A (fun x hx e=>by have e:x=(w.alloc (.cells n.cells.toArray 298)).heap.size:=e;rw[bF]at e;omega));clear H q J A q0 qt K;simp only[Act.put,fJ,dG,dB,bF];refine jaj [0,1,2,3,4,5,6] Ext ExtR ExtT vY vY vY ?_
 refine vK ?_
 refine qKL ⟨w.heap.size,0,none⟩ _ rfl (fun w2 O=>jab Tryz.uKind rfl (jaa (by exact Q0.o) O)) ?_;refine vS ?_
 refine vK ?_
 refine qKL ⟨w.heap.size+1,n.kind,none⟩ _ rfl (fun w2 O=>jag Tryz.aggT (jaa (by exact QT.o) O)) ?_;refine vS ?_;refine qKL ⟨w.heap.size,0,none⟩ _ rfl (fun w2 O=>ja7 w2 _ n HR.o (Z.o.keeps ((jak X).trans O) (fun h=>h))) ?_;refine vS ?_;refine qKC _ f #[n.V] (.string S) rfl (fun w1=>jfd rfl eg rfl) (fun w1 h1=>HC.o w1) ?_;refine vS ?_
 refine vK ?_
 refine qKE (fun w3 he=>?_);go_wp2_with fail
 go_ret
 exact⟨rfl,HE.o.trans ((jak X).trans he)⟩
structure jjS(n:jae):Prop where
 refs:n.refs.length=16
 kind:n.kind<=3
 path:n.path.size<=12
 value:n.value.size<=80
 valid:jaE n.path=true
 each:∀ r∈n.refs,r.size<=33
def jaV(n:jae):vB:=if n.kind=0 then jam ⟨#[]⟩else if n.kind=1 then joc n else if n.kind=2 then extB n else jhb n
theorem jj0(h:jjS n):∀ x∈jbB n,x.size<=89:=by
 have A:∀ (l:List (Nat × vB)) (m:vM),(∀ x∈l,x.2.size<=89)->(∀ x∈m,x.size<=89)->∀ x∈l.foldl (fun l x=>l.set x.1 x.2) m,x.size<=89:=by
  intro l;induction l with
  | nil=>intro m _ H;exact H
  | cons y r ih =>
   intro m q H;rw[iD];refine ih _ (fun x e=>q x (bW _ e)) (fun x e=>?_);rcases gE e with e | rfl
   ·exact H x e
   ·exact q y (cJ ..)
 intro x e;unfold jbB at e;rcases gE e with e | rfl
 ·refine A _ _ (fun y J=>?_) (fun y J=>?_) x e
  ·have q:=(jeE n.refs 0 y (iA J)).2.2.1
   have:=h.each y.2 (bG q)
   omega
  ·rw[fD J]
   have:=jaS ⟨#[]⟩
   have K:(⟨#[]⟩:vB).size=0:=rfl;omega
 ·have:=jaS n.value
  have:=h.value
  omega
theorem jpp(c:Nat):∀ (l:vM),(∀ x∈l,x.size<=c)->(catB l).size<=c * l.length
 | [],_=>by rw[jdq];omega
 | x :: r,h=>by
  rw[jbe];have q:=h x (cJ ..);have A:=jpp c r (fun y e=>h y (bW _ e));rw[bU,Nat.mul_add];omega
theorem jdp(h:jjS n):(catB (jbB n)).size<=1513:=by
 have:=jpp 89 _ (jj0 n h)
 have e:(jbB n).length=17:=by unfold jbB;rw[iC,jha]
 rw[e]at this;omega
theorem jq6(h:jjS n):vR 155 #[n.V] w (.string (jaV n)):=by
 have A:=h.kind;have O:=h.path;have X:=h.value
 by_cases k0:n.kind=0
 ·have e:jaV n=jam ⟨#[]⟩:=by unfold jaV;rw[if_pos k0]
  rw[e];exact jnm w n h.refs A _ 201 (by rw[k0];rfl) (vX 201) (fun w=>jok w n)
 ·by_cases k1:n.kind=1
  ·have e:jaV n=joc n:=by unfold jaV;rw[if_neg k0,if_pos k1]
   rw[e];exact jnm w n h.refs A _ 202 (by rw[k1];rfl) (vX 202) (fun w=>jod w n vO vO h.valid)
  ·by_cases k2:n.kind=2
   ·have e:jaV n=extB n:=by unfold jaV;rw[if_neg k0,if_neg k1,if_pos k2]
    rw[e]
    obtain⟨r,H,q⟩:∃ r H,n.refs=r :: H:=by
     cases hx:n.refs with
     | nil=>have:=h.refs;rw[hx]at this;cases this
     | cons r H=>exact⟨r,H,rfl⟩
    have J:=h.each r (by rw[q];exact cJ ..);exact jnm w n h.refs A _ 203 (by rw[k2];rfl) (vX 203) (fun w=>jp1 w n vO r (by rw[q];rfl) vO h.valid)
   ·have K:n.kind=3:=vO
    have e:jaV n=jhb n:=by unfold jaV;rw[if_neg k0,if_neg k1,if_neg k2]
    rw[e];exact jnm w n h.refs A _ 204 (by rw[K];rfl) (vX 204) (fun w=>jj1 w n h.refs vO (by have:=jdp n h;omega))
theorem jvG(hs:s.size<=1000000)(leaf:Bool)(x:vB)(hx:jaJ s=x)(h2:2<=x.size)(h0:x[0].toNat=if leaf then 3 else 1) :
  vR 227 #[.string s] w (.tuple #[.string (x.extract 1 x.size),.bool leaf,.bool true]):=by
 go_enter Tryz.func227,Tryz.ntmps227;go_wp2_with fail
 refine vH (je3 w s hs) fun w1 e=>?_;rw[hx];clear hx hs;have q:=jbq (s:=x) vO;have H:(0:Int) < (x.size:Int):=vO
 have J:(1:Int)<=(x.size:Int):=vO
 cases leaf with
 | true =>
  have A:(x[0].toNat:Int)=3:=by simp at h0;omega
  clear h0;go_wp2_with fail
  exact bodyPost_ret (v:=.tuple #[.string (x.extract 1 x.size),.bool true,.bool true]) vY rfl ⟨rfl,e.o⟩
 | false =>
  have A:(x[0].toNat:Int)=1:=by simp at h0;omega
  clear h0;go_wp2_with fail
  exact bodyPost_ret (v:=.tuple #[.string (x.extract 1 x.size),.bool false,.bool true]) vY rfl ⟨rfl,e.o⟩
theorem js9(hs:s.size<=1000000)(leaf:Bool)(x:vB)(hx:jaJ s=x)(h2:2<=x.size)(h0:x[0].toNat=if leaf then 2 else 0)(h1:x[1].toNat=0) :
  vR 227 #[.string s] w (.tuple #[.string (x.extract 2 x.size),.bool leaf,.bool true]):=by
 go_enter Tryz.func227,Tryz.ntmps227;go_wp2_with fail
 refine vH (je3 w s hs) fun w1 e=>?_;rw[hx];clear hx hs;have q:=jbq (s:=x) vO;have J:(0:Int) < (x.size:Int):=vO
 have K:(1:Int) < (x.size:Int):=vO
 have O:(2:Int)<=(x.size:Int):=vO
 have A:(x[1].toNat:Int)=0:=vO
 clear h1;cases leaf with
 | true =>
  have H:(x[0].toNat:Int)=2:=by simp at h0;omega
  clear h0;go_wp2_with fail
  exact bodyPost_ret (v:=.tuple #[.string (x.extract 2 x.size),.bool true,.bool true]) vY rfl ⟨rfl,e.o⟩
 | false =>
  have H:(x[0].toNat:Int)=0:=by simp at h0;omega
  clear h0;go_wp2_with fail
  exact bodyPost_ret (v:=.tuple #[.string (x.extract 2 x.size),.bool false,.bool true]) vY rfl ⟨rfl,e.o⟩
end
section
open Go Go.RowKit
def jaw(k:Nat):vM:=List.replicate k ⟨#[]⟩
inductive jaW (I:vB->jae->Prop):jae->Prop
 | none:jaW I jas
 | leaf (p v:vB):(⟨1,p,v,jaw 16⟩:jae).pathOk 0=true->0 < v.size->v.size<=80->jaW I ⟨1,p,v,jaw 16⟩
 | ext (p r:vB):(⟨2,p,⟨#[]⟩,r :: jaw 15⟩:jae).pathOk 1=true->r.size≠0->(je2 r\/∃ m,I r m/\m.kind=3)->jaW I ⟨2,p,⟨#[]⟩,r :: jaw 15⟩
 | branch (v:vB) (rs:vM):rs.length=16->v.size<=80->(∀ r∈rs,r.size≠0->MayP I r)->2<=min v.size 1+(jav 0 rs).length->jaW I ⟨3,⟨#[]⟩,v,rs⟩
theorem jd1{n:jae}{k:Nat}(h:n.pathOk k=true):k<=n.path.size/\n.path.size<=12/\jaE n.path=true:=by
 simp only[jae.pathOk,cC,decide_eq_true_eq]at h;exact⟨h.1.1,h.1.2,h.2⟩
theorem jdh:∀ (k i:Nat),jav i (jaw k)=[]
 | 0,_=>rfl
 | k+1,i=>by
  unfold jaw;rw[dQ];unfold jav;rw[if_pos (show (⟨#[]⟩:vB).size=0 from rfl)];exact jdh k (i+1)
section
variable {I:vB->jae->Prop} (HI:InlP I)
include HI
theorem MayP.size{r:vB}(h:MayP I r):r.size<=33:=by
 rcases h with h |⟨m,h⟩
 ·rw[h.size];omega
 ·have:=HI.small r m h;omega
theorem jaW.one{n:jae}(h:jaW I n):jjS n:=by
 have A:(⟨#[]⟩:vB).size=0:=rfl;cases h with
 | none=>exact⟨rfl,by decide,by decide,by decide,rfl,fun r e=>by rw[fD e];decide⟩
 | leaf p v h1 h2 h3 =>
  obtain⟨a,b,c⟩:=jd1 h1
  exact⟨by simp[jaw],by simp,b,h3,c,fun r e=>by rw[fD e];decide⟩
 | ext p r h1 h2 h3 =>
  obtain⟨a,b,c⟩:=jd1 h1
  refine⟨by simp[jaw],by simp,b,by show (⟨#[]⟩:vB).size<=80;omega,c,fun x q=>?_⟩
  rcases bZ.1 q with rfl | q
  ·exact MayP.size HI (h3.imp id (fun ⟨m,h,_⟩=>⟨m,h⟩))
  ·rw[fD q];decide
 | branch v rs h1 h2 h3 h4 =>
  refine⟨h1,by simp,by show (⟨#[]⟩:vB).size<=12;omega,h2,rfl,fun r e=>?_⟩
  by_cases h0:r.size=0
  ·omega
  ·exact MayP.size HI (h3 r e h0)
theorem jjM(w:vW)(n:jae)(h:jaW I n):vR 154 #[n.V] w (.bool true):=by
 have q:=h.one HI;cases h with
 | none=>exact jjN w jas q.refs q.kind 197 rfl (vX 197) (fun w=>jyd w)
 | leaf p v h2 h3 h4=>exact jjN w _ q.refs q.kind 198 rfl (vX 198) (fun w=>jx3 w _ q.refs h2 h3 h4 (by unfold jae.behindN jae.refsL;rw[jdh];rfl))
 | ext p r h2 h3 h4=>exact jjN w _ q.refs q.kind 199 rfl (vX 199) (fun w=>jzg HI w _ r q.refs h2 rfl (by
   have e:jav 0 (r :: jaw 15)=[(0,r)]:=by unfold jav;rw[if_neg h3,jdh]
   unfold jae.behindN;have A:jae.refsL ⟨2,p,⟨#[]⟩,r :: jaw 15⟩=[(0,r)]:=e;rw[A];show jae.ri _ 0+1=1;unfold jae.ri;rw[A];rfl) rfl h4)
 | branch v rs h2 h3 h4 h5=>exact jjN w _ q.refs q.kind 200 rfl (vX 200) (fun w=>jsv HI w _ q.refs rfl h3 h4 h5)
theorem jiH(w:vW)(n:jae)(h:jaW I n):vR 136 #[n.V] w (.tuple #[.string (jaV n),.int .i64 0]):=by
 have J:=h.one HI;have q:=jap (w.alloc (.cells n.cells.toArray 206)) _ n J.refs (Blk.new w _);have H:=Hd h;have X:=Hd J;clear h J;unfold jae.V at q ⊢;unfold vR vQ;go_in;go_wp2_with (refine jaf 206 (.tmp 1) rfl rfl _ _ rfl q ?_)
 refine vC (jjM HI _ n H.o) fun w1 A=>?_;have Z:=(Blk.new w (.cells n.cells.toArray 206)).keeps A (fun h=>h);have e:=jap w1 _ n X.o.refs Z;have K:=Hd (((ExtR w).alloc _).trans A);unfold jae.V at e;clear q A Z;go_wp2_with (refine jaf 206 (.tmp 1) rfl rfl _ _ rfl e ?_)
 refine vH (jq6 w1 n X.o) fun w2 A=>?_;have O:=Hd (K.o.trans A);clear e;go_wp2_with fail
 go_ret2
 exact⟨rfl,O.o⟩
end
theorem jiK:∀ (l:vN),l.length % 2=0->(∀ b∈l,b<=15)->jef (jcP l)=l
 | [],_,_=>rfl
 | [x],h,_=>by simp at h
 | x :: y :: r,h,hb=>by
  have H:=hb x (cJ ..);have J:=hb y (bW _ (cJ ..));have A:=jiK r (by simp at h;omega) (fun b e=>hb b (bW _ (bW _ e)));show jef ((x <<< 4 ||| y) :: jcP r)=_;unfold jef at A ⊢;rw[dY,A];have K:x.toNat<=15:=fB.1 H;have O:y.toNat<=15:=fB.1 J
  have:∀ a b:Fin 16,((UInt8.ofNat a.1 <<< 4 ||| UInt8.ofNat b.1) >>> 4=UInt8.ofNat a.1)/\((UInt8.ofNat a.1 <<< 4 ||| UInt8.ofNat b.1) &&& 15=UInt8.ofNat b.1):=by decide
  have q:=this ⟨x.toNat,by omega⟩ ⟨y.toNat,by omega⟩;simp only[UInt8.ofNat_toNat]at q;rw[q.1,q.2];rfl
theorem jtQ(p:vB)(leaf:Bool)(hv:jaE p=true):jaJ (putB p leaf)=⟨(jdr p leaf++p.data.toList).toArray⟩:=by
 unfold jaJ putB jbF;rw[jiK]
 ·show (jdr p leaf++p.data.toList).length % 2=0
  rw[bI,show p.data.toList.length=p.size from rfl];unfold jdr oddB
  by_cases h:p.size % 2=1
  ·simp[h];omega
  ·have:(p.size % 2 == 1)=false:=by simpa using h
   rw[this];simp;omega
 ·intro b hb
  have hb:b∈jdr p leaf++p.data.toList:=hb;rcases bQ.1 hb with hb | hb
  ·unfold jdr jkl oddB at hb
   rcases bZ.1 hb with rfl | hb
   ·cases leaf <;> cases (p.size % 2 == 1) <;> decide
   ·split at hb
    ·cases hb
    ·rw[bM.1 hb];decide
  ·exact of_decide_eq_true (dI.1 hv b hb)
theorem jmD(w:vW)(p:vB)(leaf:Bool)(hs:p.size<=900000)(hv:jaE p=true):vR 227 #[.string (putB p leaf)] w (.tuple #[.string p,.bool leaf,.bool true]):=by
 have q:=jtQ p leaf hv;have J:=jbD p leaf;have K:∀ a:vU,(⟨(a :: p.data.toList).toArray⟩:vB).extract 1 (⟨(a :: p.data.toList).toArray⟩:vB).size=p:=fun a=>by
  have:=jhr ⟨#[a]⟩ p
  have A:(⟨#[a]⟩:vB)++p=⟨(a :: p.data.toList).toArray⟩:=by rw[jsi (_++p),dL,fQ];rfl
  rw[A]at this;exact this
 have O:∀ a b:vU,(⟨(a :: b :: p.data.toList).toArray⟩:vB).extract 2 (⟨(a :: b :: p.data.toList).toArray⟩:vB).size=p:=fun a b=>by
  have:=jhr ⟨#[a,b]⟩ p
  have A:(⟨#[a,b]⟩:vB)++p=⟨(a :: b :: p.data.toList).toArray⟩:=by rw[jsi (_++p),dL,fQ];rfl
  rw[A]at this;exact this
 by_cases ho:p.size % 2=1
 ·have e:oddB p=true:=by unfold oddB;simpa using ho
  have H:jdr p leaf=[jkl leaf true]:=by unfold jdr;rw[e];rfl
  rw[H]at q
  have:=jvG w (putB p leaf) vO leaf ⟨(jkl leaf true :: p.data.toList).toArray⟩ q (by show 2<=p.data.toList.length+1;have:p.data.toList.length=p.size:=rfl;omega) (by cases leaf <;> rfl)
  rw[K]at this;exact this
 ·have e:oddB p=false:=by unfold oddB;simpa using ho
  have H:jdr p leaf=[jkl leaf false,0]:=by unfold jdr;rw[e];rfl
  rw[H]at q
  have:=js9 w (putB p leaf) vO leaf ⟨(jkl leaf false :: 0 :: p.data.toList).toArray⟩ q (by show 2<=p.data.toList.length+2;omega) (by cases leaf <;> rfl) rfl
  rw[O]at this;exact this
end
section
open Go Go.RowKit
theorem jan{fn:Func}{ty:TypeId}(h:fn.results=#[.cell t ty,.tmp u]){a:Addr}(ha:tmps.getD t undef=.pointer (some a)){w:vW}{x:vV}(hx:tmps.getD u undef=x)(hl:(loadVar ty a).run P w=.ok v w) :
  (results fn tmps).run P w=.ok (.tuple #[v,x]) w:=by
 have e:tmps[t]?.getD undef=.pointer (some a):=by simpa using ha
 have q:tmps[u]?.getD undef=x:=by simpa using hx
 simp[results,h,e,q,asAddr,bK,Result.andThen,hl]
theorem jat(b:Nat)(n:jae)(hr:n.refs.length=16)(hB:Blk W b (.cells n.cells.toArray 206)):(loadVar 206 ⟨b,0,none⟩).run Tryz.prog W=.ok n.V W:=by
 have:=jap W b n hr hB
 simpa [Instr.loadAt,Instr.sureAddr,bK,Result.andThen]using this
def jbW(k:Int)(p v:vB)(r:vB):List vV:=[.int .i64 k,.string p,.string v,.string r,.string ⟨#[]⟩,.string ⟨#[]⟩,.string ⟨#[]⟩,.string ⟨#[]⟩,.string ⟨#[]⟩,.string ⟨#[]⟩,.string ⟨#[]⟩,.string ⟨#[]⟩,.string ⟨#[]⟩,.string ⟨#[]⟩,.string ⟨#[]⟩,.string ⟨#[]⟩,.string ⟨#[]⟩,.string ⟨#[]⟩,.string ⟨#[]⟩]
theorem jbX(k:Int)(p v r:vB):∀ x∈jbW k p v r,x.oneCell'=true:=by simp[jbW,Value.oneCell']
theorem jor(v:vB)(hp:p.size<=900000)(hv:v.size<=100000)(hok:jaE p=true):vR 195 #[.string (jam (putB p true)),.string (jam v)] w (.tuple #[(⟨1,p,v,jaw 16⟩:jae).V,.bool true]):=by
 obtain⟨q,h1,h2⟩:=jdL (putB p true) (by have:=jbD p true;omega)
 obtain⟨q',h3,h4⟩:=jdL v vO
 have z1:(jam (putB p true)).size<=1000000000:=by have:=jbD p true;have:=jaS (putB p true);omega
 have z2:(jam v).size<=1000000000:=by have:=jaS v;omega
 have H1:=Hd h1;have H2:=Hd h2;have H3:=Hd h3;have H4:=Hd h4;clear h1 h2 h3 h4;unfold vR vQ;go_in;go_wp2_with (refine jah Tryz.allocNode rfl rfl ?_;intro W1 H J)
 refine vC (jhK _ _ q z1 H1.o) fun w2 A=>?_;rw[H2.o];have K:=H.keeps A (fun h=>h);have O:=Hd (J.trans A);have X:=Hd K;clear H J A K;unfold optV;simp only;go_wp2_with fail
 refine vC (jmD _ p true hp hok) fun w3 A=>?_;have Z:=Hd (O.o.trans A);have a0:=Hd (X.o.keeps A (fun h=>h));clear A O X;go_wp2_with fail
 refine vC (jhK _ _ q' z2 H3.o) fun w4 A=>?_;rw[H4.o];have a1:=Hd (Z.o.trans A);have a2:=a0.o.keeps A (fun h=>h);clear A Z a0;unfold optV;simp only;go_wp2_with (refine jad (vs:=jbW 1 p v ⟨#[]⟩) rfl rfl rfl rfl a2 rfl Tryz.szNode (jbX _ _ _ _) ?_;intro W5 a3 a4)
 refine bodyPost_ret (jan rfl rfl rfl (jat W5 _ ⟨1,p,v,jaw 16⟩ rfl a3)) rfl ?_
 exact⟨rfl,a1.o.trans' a4 (fun x hx e=>by have e:x=w.heap.size:=e;omega)⟩
theorem jrl(hp:p.size<=900000)(hok:jaE p=true):vR 195 #[.string (jam (putB p false)),.string r] w (.tuple #[(⟨2,p,⟨#[]⟩,r :: jaw 15⟩:jae).V,.bool true]):=by
 obtain⟨q,h1,h2⟩:=jdL (putB p false) (by have:=jbD p false;omega)
 have z1:(jam (putB p false)).size<=1000000000:=by have:=jbD p false;have:=jaS (putB p false);omega
 have H1:=Hd h1;have H2:=Hd h2;clear h1 h2;unfold vR vQ;go_in;go_wp2_with (refine jah Tryz.allocNode rfl rfl ?_;intro W1 O X)
 refine vC (jhK _ _ q z1 H1.o) fun w2 A=>?_;rw[H2.o];have Z:=O.keeps A (fun h=>h);have a0:=Hd (X.trans A);have a1:=Hd Z;clear O X A Z;unfold optV;simp only;go_wp2_with fail
 refine vC (jmD _ p false hp hok) fun H A=>?_;have a4:=Hd (a0.o.trans A);have J:=Hd (a1.o.keeps A (fun h=>h));clear A a0 a1;go_wp2_with (first |(refine jah Tryz.allocNode rfl rfl ?_;intro W5 a5 a2;refine jad (vs:=jbW 2 p ⟨#[]⟩ ⟨#[]⟩) rfl rfl rfl rfl a5 rfl Tryz.szNode (jbX _ _ _ _) ?_;intro W6 K a3;have q3:W6.cell? ⟨H.heap.size,3,none⟩=some (.string ⟨#[]⟩):=K.cell (i:=3) vF;have f3:W6.frozen? ⟨H.heap.size,3,none⟩=false:=K.frozen;have a7:=Hd (K.set_same (i:=3) (.string r))) |(refine jaf 206 (.tmp 10) rfl rfl _ _ rfl (jap _ _ ⟨2,p,⟨#[]⟩,r :: jaw 15⟩ rfl a7.o) ?_;refine jad (vs:=jae.cells ⟨2,p,⟨#[]⟩,r :: jaw 15⟩) rfl rfl rfl rfl (((J.o.keeps a2 (fun h=>h)).keeps a3 (by have:=J.o.lt;omega)).set_other (p:=⟨H.heap.size,3,none⟩) (by have:=J.o.lt;show w.heap.size≠H.heap.size;omega) (.string r)) rfl Tryz.szNode (jae.one _) ?_;intro W8 a8 a9))
 refine bodyPost_ret (jan rfl rfl rfl (jat W8 _ ⟨2,p,⟨#[]⟩,r :: jaw 15⟩ rfl a8)) rfl ?_;have k1:Ext H (W6.setCell ⟨H.heap.size,3,none⟩ (.string r)):=(a2.trans' a3 (fun x hx e=>by have e:x=H.heap.size:=e;omega)).setCell (.inr (bL _)) _
 exact⟨rfl,(a4.o.trans k1).trans' a9 (fun x hx e=>by have e:x=w.heap.size:=e;omega)⟩
def jbJ(rs:vM)(v:vB):vM:=rs.map (fun r=>if r.size=0 then jam ⟨#[]⟩else r)++[jam v]
def brN(rs:vM)(k:Nat):jae:=⟨3,⟨#[]⟩,⟨#[]⟩,rs.take k++jaw (16 - k)⟩
theorem jph(h:rs.length=16)(hk:k<=16):(brN rs k).refs.length=16:=by simp[brN,jaw,h];omega
theorem jpi(h:rs.length=16)(hk:k < 16)(r:vB)(hr:rs[k]?=some r):(brN rs k).cells.set (3+k) (.string r)=(brN rs (k+1)).cells:=by
 have e:(rs.take k++jaw (16 - k)).set k r=rs.take (k+1)++jaw (16 - (k+1)):=by
  rw[dK _ _ (by simp[h];omega)]
  have:k - (rs.take k).length=0:=by simp[h];omega
  rw[this,show 16 - k=(16 - (k+1))+1 by omega];unfold jaw;rw[dQ,dG,bX,hr];simp
 unfold jae.cells brN;simp only;rw[show 3+k=k+1+1+1 by omega,dB,dB,dB, <-e,gB]
theorem jst(h:rs.length=16)(hk:k < 16)(r:vB)(hr:rs[k]?=some r)(h0:r.size=0):brN rs (k+1)=brN rs k:=by
 have e:r=⟨#[]⟩:=by
  obtain⟨⟨l⟩⟩:=r
  cases l with
  | nil=>rfl
  | cons x y=>exact absurd h0 (gV _)
 unfold brN;rw[bX,hr,e,show 16 - k=(16 - (k+1))+1 by omega];unfold jaw;rw[dQ];simp
def jwU(w:vW)(g2 g4:Nat)(rs:vM)(i:vV)(wr:vW):Prop:=∃ k:Nat,k<=16/\i=.int .i64 k/\Ext w wr/\Blk wr g2 (.cells jas.cells.toArray 206)/\Blk wr g4 (.cells (brN rs k).cells.toArray 206)
theorem jkP(a:vV)(rs:vM)(v:vB)(hr:rs.length=16)(hv:v.size<=100000)(hne:∀ r∈rs,r.size≠0->r≠jam ⟨#[]⟩)(ha:RdS w a (jbJ rs v)):vR 196 #[a] w (.tuple #[(⟨3,⟨#[]⟩,v,rs⟩:jae).V,.bool true]):=by
 have Z:(jbJ rs v).length=17:=by simp[jbJ,hr]
 rcases ha with⟨_,_,_,h0⟩ |⟨b,o,c,rfl,hb,hc,hcell⟩
 ·rw[h0]at Z;cases Z
 rw[Z]at hc ⊢;have b7:∀ (k:Nat) r,rs[k]?=some r->w.cell? ⟨b,o+k,none⟩=some (.string (if r.size=0 then jam ⟨#[]⟩else r)):=fun k r hk=>hcell k _ (by
  unfold jbJ;rw[cR (by rw[bS];exact (bH.1 hk).1),bV,hk];rfl)
 have b8:w.cell? ⟨b,o+16,none⟩=some (.string (jam v)):=hcell 16 _ (by
  unfold jbJ;rw[cO (by rw[bS];omega),bS,hr];rfl)
 obtain⟨q,h1,h2⟩:=jdL v vO
 have z1:(jam v).size<=1000000000:=by have:=jaS v;omega
 have c7:=Hd b7;have c8:=Hd b8;have H1:=Hd h1;have H2:=Hd h2;have HR:=Hd hr;have c9:=Hd hne;clear b7 b8 h1 h2 Z hcell hr hne;unfold vR vQ;go_in;go_wp2_with (first |(refine jah Tryz.allocNode rfl rfl ?_;intro W3 b9 a3;refine jad (vs:=jbW 3 ⟨#[]⟩ ⟨#[]⟩ ⟨#[]⟩) rfl rfl rfl rfl b9 rfl Tryz.szNode (jbX _ _ _ _) ?_;intro W4 H a4) |(refine jah Tryz.allocNode rfl rfl ?_;intro W1 a0 a5))
 have h4:Ext w W4:=(a5.trans a3).trans' a4 (fun x hx e=>by have e:x=W1.heap.size:=e;have:=a5.size;omega);have h5:=(a0.keeps a3 (fun h=>h)).keeps a4 (by have:=a0.lt;omega)
 obtain⟨J,c0⟩:∃ g,g=W1.heap.size:=⟨_,rfl⟩
 obtain⟨g2,c1⟩:∃ g,g=w.heap.size:=⟨_,rfl⟩
 have d3:g2 < J:=by have:=a0.lt;omega
 have n2:w.heap.size<=g2:=vO
 rw[<-c0]at H ⊢;rw[<-c1]at h5 ⊢;have a7:=Hd h4;have K:=Hd H;have H5:=Hd h5;clear c0 c1 h4 h5 H a5 a0 b9 a3 a4;go_loopw [9] (fun i wr=>jwU w g2 J rs i wr) (fun i _=>16 - (intOf i).toNat)
 case atStart=>exact⟨0,by omega,rfl,a7.o,H5.o,K.o⟩
 case round =>
  obtain⟨k,hk,rfl,hE,c2,H⟩:=hrel
  have HE:=Hd hE;have a8:=Hd c2;have K:=Hd H;clear hE c2 H
  by_cases hlt:k < 16
  ·obtain⟨r,a1⟩:∃ r,rs[k]?=some r:=⟨_,bB (by have:=HR.o;omega)⟩
   have O:=jaa (c7.o k r a1) HE.o;have b1:(k:Int) < 17:=vO
   have b5:r∈rs:=bG a1
   obtain⟨em,a9⟩:=vE (jam ⟨#[]⟩)
   rw[<-a9]at O;have b0:=Hd a9;have c3:=Hd a1;clear a9 a1
   by_cases h0:r.size=0
   ·rw[if_pos h0]at O
    have QX:=Hd O;clear O;go_wp2_with fail
    refine jaj [0,1,2,3,4,5] Ext ExtR ExtT vY vY vY ?_;iterate 3 refine vK ?_
    refine qKL ⟨b,o+k,none⟩ _ rfl (fun w2 h2=>jab Tryz.uStr rfl (jaa (by exact QX.o) h2)) ?_;refine vS ?_;refine qKC _ 29 #[.string ⟨#[]⟩] (.string em) rfl (fun w1=>jal (vX 29) vY) (fun w1 h1=>by rw[b0.o];exact jct w1 ⟨#[]⟩ vI) ?_;refine vS ?_
    refine vK ?_
    refine qKE (fun w3 he=>?_);have X:=(jak wr).trans he;have b3:=Hd (HE.o.trans X);have b4:=Hd (a8.o.keeps X (fun h=>h));have A:=Hd (K.o.keeps X (fun h=>h));clear he X;go_wp2_with fail
    go_roundw
    case rel=>exact⟨k+1,by omega,by go_num,b3.o,b4.o,by rw[jst HR.o hlt r c3.o h0];exact A.o⟩
    case measure=>exact vJ
   ·rw[if_neg h0]at O
    have hq:(r.toList == em.toList)=false:=by
     rw[beq_eq_false_iff_ne,bR,bR];intro e;exact c9.o r b5 h0 (by rw[<-b0.o];exact ByteArray.ext (Array.ext' e))
    have QX:=Hd O;clear O;go_wp2_with fail
    refine jaj [0,1,2,3,4,5] Ext ExtR ExtT vY vY vY ?_;iterate 3 refine vK ?_
    refine qKL ⟨b,o+k,none⟩ _ rfl (fun w2 h2=>jab Tryz.uStr rfl (jaa (by exact QX.o) h2)) ?_;refine vS ?_;refine qKC _ 29 #[.string ⟨#[]⟩] (.string em) rfl (fun w1=>jal (vX 29) vY) (fun w1 h1=>by rw[b0.o];exact jct w1 ⟨#[]⟩ vI) ?_;refine vS ?_
    refine vK ?_
    refine qKE (fun w3 he=>?_);have X:=(jak wr).trans he;have b3:=Hd (HE.o.trans X);have b4:=Hd (a8.o.keeps X (fun h=>h));have A:=Hd (K.o.keeps X (fun h=>h));have O:=jaa QX.o X
    obtain⟨old,q4⟩:∃ v,w3.cell? ⟨J,3+k,none⟩=some v:=⟨_,A.o.cellL (bB (by rw[jae.cells_len _ (jph HR.o hk)];omega))⟩
    have f4:w3.frozen? ⟨J,3+k,none⟩=false:=A.o.frozen;have b2:(k:Int) < 16:=vO
    clear he X;go_wp2_with fail
    go_roundw
    case rel =>
     refine⟨k+1,by omega,by go_num,b3.o.setCell (.inr (by show w.heap.size<=J;omega)) _,b4.o.set_other (p:=⟨J,3+k,none⟩) (by show g2≠J;omega) _,?_⟩
     have:=A.o.set_same (i:=3+k) (.string r)
     rw[show (brN rs k).cells.toArray.setIfInBounds (3+k) (.string r)=((brN rs k).cells.set (3+k) (.string r)).toArray by simp,jpi HR.o hlt r c3.o]at this;exact this
    case measure=>exact vJ
  ·have b6:k=16:=vO
   subst b6;have O:=jaa c8.o HE.o;go_wp2_with fail
   refine vC (jhK _ _ q z1 H1.o) fun w4 hE=>?_;rw[H2.o];have a2:=K.o.keeps hE (fun h=>h);have q4:w4.cell? ⟨J,2,none⟩=some (.string ⟨#[]⟩):=a2.cellL vF;have f4:w4.frozen? ⟨J,2,none⟩=false:=a2.frozen;have A:=Hd (a2.set_same (i:=2) (.string v));have c4:=(a8.o.keeps hE (fun h=>h)).set_other (p:=⟨J,2,none⟩) (by show g2≠J;omega) (.string v);have d0:=Hd c4;have a7:=Hd (HE.o.trans hE);have c5:brN rs 16=⟨3,⟨#[]⟩,⟨#[]⟩,rs⟩:=by unfold brN jaw;rw[cF (by have:=HR.o;omega)];simp
   rw[c5]at A;have ec:(jae.cells ⟨3,⟨#[]⟩,⟨#[]⟩,rs⟩).toArray.setIfInBounds 2 (.string v)=(jae.cells ⟨3,⟨#[]⟩,v,rs⟩).toArray:=by simp[jae.cells]
   rw[ec]at A;clear hE a2 c4 O ec c5;unfold optV;simp only;go_wp2_with (first |(refine jaf 206 (.tmp 4) rfl rfl _ _ rfl (jap _ _ ⟨3,⟨#[]⟩,v,rs⟩ HR.o A.o) ?_) |(refine jad (vs:=jae.cells ⟨3,⟨#[]⟩,v,rs⟩) rfl rfl rfl rfl d0.o (by rw[jae.cells_len ⟨3,⟨#[]⟩,v,rs⟩ HR.o];rfl) (by rw[jae.cells_len ⟨3,⟨#[]⟩,v,rs⟩ HR.o];exact Tryz.szNode) (jae.one _) ?_;intro W8 d1 d2))
   refine bodyPost_ret (jan rfl rfl rfl (jat W8 _ ⟨3,⟨#[]⟩,v,rs⟩ HR.o d1)) rfl ?_
   exact⟨rfl,(a7.o.setCell (.inr (by show w.heap.size<=J;omega)) _).trans' d2 (fun x hx e=>by have e:x=g2:=e;omega)⟩
theorem jd0(hn:(catB xs).size<=1048576):ja6 xs≠jam ⟨#[]⟩:=by
 intro e
 obtain⟨o,q,_⟩:=jdB xs hn
 obtain⟨H,A,_⟩:=jem ⟨#[]⟩ vI
 rw[e,A]at q;cases q
theorem jeJ{a b:vB}(h:a≠b):(a.toList == b.toList)=false:=by
 rw[beq_eq_false_iff_ne,bR,bR];exact fun e=>h (ByteArray.ext (Array.ext' e))
theorem jhs:s.extract s.size s.size=⟨#[]⟩:=by
 apply ByteArray.ext;apply Array.ext';simp
theorem jdJ:(ja6 xs).size<=(catB xs).size+9:=by
 unfold ja6;rw[cD];have:=jci 192 (catB xs).size;omega
theorem jot:vR 153 #[.string (jam ⟨#[]⟩)] w (.tuple #[jas.V,.bool true]):=by
 obtain⟨em,q⟩:=vE (jam ⟨#[]⟩)
 rw[<-q];have J:=Hd q;clear q;unfold vR vQ;go_in;go_wp2_with (refine jah Tryz.allocNode rfl rfl ?_;intro W1 A H)
 refine vC (jct _ ⟨#[]⟩ vI) fun w2 K=>?_;rw[<-J.o];have O:=A.keeps K (fun h=>h);have X:=Hd (H.trans K);clear A H K;go_wp2_with (refine jad (vs:=jas.cells) rfl rfl rfl rfl O rfl Tryz.szNode (jae.one _) ?_;intro W8 Z a0)
 refine bodyPost_ret (jan rfl rfl rfl (jat W8 _ jas rfl Z)) rfl ?_
 exact⟨rfl,X.o.trans' a0 (fun x hx e=>by have e:x=w.heap.size:=e;omega)⟩
theorem jdl{o:Oper}{w:vW}{K:Act->vW->Prop}{Q:Exit->Act->vW->Prop}{T T2:TypeId}{old vs:List vV}(ho:o.op=.store T x y)(hx:a.eval x=.pointer (some ⟨b,0,none⟩))(hy:a.eval y=.agg vs.toArray)
  (hB:Blk w b (.cells old.toArray T2)) (hl:old.length=vs.length) (hi:(P.info? T).map (·.size)=some vs.length) (h1:∀ v∈vs,v.oneCell'=true)
  (h:∀ W,Blk W b (.cells vs.toArray T2)->jac (fun z=>z=b) w W->K (a.put o.dst undef) W):o.wp P a w K Q:=by
 refine wp_store_mid T x y ho b 0 vs.toArray hx hy (by have:=jhU hB;rw[hl]at this;simpa using this) (by simpa using hi) (all_oneCell_toArray h1) (h _ ?_ (jac.oneSetCells b vs 0 w))
 have:=Blk.setCells vs 0 w old hB vO
 rw[fG vO]at this;simpa using this
theorem jkR(w:vW)(x y:vB)(n:jae)(hr:n.refs.length=16)(hx:jd9 x)(hy:jd9 y)(hs:x.size+y.size<=1048576)
  (hc:∀ w,vR 195 #[.string x,.string y] w (.tuple #[n.V,.bool true])) :
  vR 153 #[.string (ja6 [x,y])] w (.tuple #[n.V,.bool true]):=by
 have A:(catB [x,y]).size=x.size+y.size:=by rw[jbe,jbe,jdq];omega
 obtain⟨o,q,h2,h3⟩:=jdB [x,y] vO
 have H:=jdJ [x,y]
 obtain⟨em,J⟩:=vE (jam ⟨#[]⟩)
 have a0:=jeJ (jd0 [x,y] vO)
 obtain⟨s,a1⟩:=vE (ja6 [x,y])
 obtain⟨c,O⟩:=vE (catB [x,y])
 rw[<-a1]at q h2 h3 H a0 ⊢;rw[<-O]at q h2 h3 H A;rw[<-J]at a0;have HS:=Hd (show s.size<=1000000000 by omega);have H1:=Hd q;have H3:=Hd h3;have b6:=Hd J;have a2:=Hd O;have b7:=Hd A;have H2:=Hd h2;have HR:=Hd hr;have HC:=Hd hc;clear q h2 h3 H a1 O J A hr hc;unfold vR vQ;go_in;go_wp2_with (refine jah Tryz.allocNode rfl rfl ?_;intro W1 a3 a4)
 refine vC (jct _ ⟨#[]⟩ vI) fun w2 X=>?_;rw[<-b6.o];have a5:=Hd (a3.keeps X (fun h=>h));have a7:=Hd (a4.trans X);clear a3 a4 X;go_wp2_with fail
 refine vC (jgw _ s _ HS.o H1.o) fun w3 X=>?_;simp only;rw[H3.o,H2.o,jhs];have a8:=Hd (a5.o.keeps X (fun h=>h));have a9:=Hd (a7.o.trans X);clear X a7 a5;go_wp2_with fail
 rw[a2.o];refine (jls w3 [x,y] (by intro z hz;rcases bZ.1 hz with rfl | hz;exact hx;rw[bM.1 hz];exact hy) (by rw[<-a2.o,b7.o];omega) (show 2<=1000000 by decide)).mono ?_;rintro e w4 ⟨v,rfl,hv⟩;have b0:=Hd (a8.o.keeps hv.ext (fun h=>h));have b1:=Hd (a9.o.trans hv.ext);rcases hv.rd with⟨_,_,_,h0⟩ |⟨b,o2,c2,rfl,hb,hc,hcell⟩
 ·cases h0
 have QX:=Hd (hcell 0 x rfl);have QY:=Hd (hcell 1 y rfl);clear hv hcell a9 a8;go_wp2_with fail
 refine jaq [0,1,2,3,4,5,6,7,8,9,10] [9] Ext ExtR ExtT vY vY vY ?_;iterate 2 refine vP ?_
 refine qL ⟨b,o2,none⟩ _ rfl (fun w1 q=>jab Tryz.uStr rfl (jaa (by exact QX.o) q)) ?_;refine vS ?_;iterate 2 refine vP ?_
 refine qL ⟨b,o2+1,none⟩ _ rfl (fun w1 q=>jab Tryz.uStr rfl (jaa (by exact QY.o) q)) ?_;refine vS ?_;refine jcC _ 195 #[.string x,.string y] (.tuple #[n.V,.bool true]) rfl vY rfl (fun w1=>jal (vX 195) vY) (fun w1 q=>HC.o w1) ?_;refine vS ?_;iterate 2 refine vP ?_
 refine qH _ rfl (fun w5 Z K hK=>?_);have hX:=(jak w4).trans Z;refine jdl (vs:=n.cells) rfl rfl rfl (b0.o.keeps hX (fun h=>h)) (by rw[n.cells_len HR.o];rfl) (by rw[n.cells_len HR.o];exact Tryz.szNode) n.one ?_;intro W6 b2 b3;have b4:=Hd b2;have b5:=Hd ((b1.o.trans hX).trans' b3 (fun x hx e=>by have e:x=w.heap.size:=e;omega));clear Z hX b2 b3 QX QY b0 b1;refine vS ?_;refine hK _ _ ?_;clear hK K
 refine vP ?_
 refine qE (fun w7 Z=>?_);have b8:=Hd (b4.o.keeps Z (fun h=>h));have b9:=Hd (b5.o.trans Z);clear Z b4 b5;go_wp2_with fail
 refine bodyPost_ret (jan rfl rfl rfl (jat w7 _ n HR.o b8.o)) rfl ?_
 exact⟨rfl,b9.o⟩
theorem jos(w:vW)(xs:vM)(n:jae)(hr:n.refs.length=16)(hl:xs.length=17)(hx:∀ x∈xs,jd9 x)(hs:(catB xs).size<=1048576)
  (hc:∀ w v,RdS w v xs->vR 196 #[v] w (.tuple #[n.V,.bool true])) :
  vR 153 #[.string (ja6 xs)] w (.tuple #[n.V,.bool true]):=by
 obtain⟨o,h1,h2,h3⟩:=jdB xs hs
 have H:=jdJ xs
 obtain⟨em,J⟩:=vE (jam ⟨#[]⟩)
 have X:=jeJ (jd0 xs hs)
 obtain⟨s,Z⟩:=vE (ja6 xs)
 obtain⟨c,K⟩:=vE (catB xs)
 rw[<-Z]at h1 h2 h3 H X ⊢;rw[<-K]at h1 h2 h3 H hs;rw[<-J]at X;have HS:=Hd (show s.size<=1000000000 by omega);have H1:=Hd h1;have H3:=Hd h3;have b0:=Hd J;have a0:=Hd K;have b1:=Hd hs;have HL:=Hd hl;have H2:=Hd h2;have HR:=Hd hr;have HC:=Hd hc;clear h1 h2 h3 H Z K J hs hr hc hl;go_enter Tryz.func153,Tryz.ntmps153;go_wp2_with (refine jah Tryz.allocNode rfl rfl ?_;intro W1 a1 a2)
 refine vC (jct _ ⟨#[]⟩ vI) fun w2 q=>?_;rw[<-b0.o];have a3:=Hd (a1.keeps q (fun h=>h));have a4:=Hd (a2.trans q);clear a1 a2 q;go_wp2_with fail
 refine vC (jgw _ s _ HS.o H1.o) fun w3 q=>?_;simp only;rw[H3.o,H2.o,jhs];have a5:=Hd (a3.o.keeps q (fun h=>h));have a7:=Hd (a4.o.trans q);clear q a4 a3;go_wp2_with fail
 rw[a0.o];refine (jls w3 xs hx (by rw[<-a0.o];have:=b1.o;omega) (by have:=HL.o;omega)).mono ?_;rintro e w4 ⟨v,rfl,hv⟩;have a8:=Hd (a5.o.keeps hv.ext (fun h=>h));have a9:=Hd (a7.o.trans hv.ext);have O:=hv.rd;rcases hv.sl with⟨ad,cp,rfl⟩;rw[HL.o]at O ⊢;have A:=HC.o w4 _ O;have b2:=Hd A;clear hv a7 a5 O A;go_wp2_with fail
 refine b2.o.mono ?_;rintro e w5 ⟨rfl,q⟩;have b3:=Hd (a9.o.trans q);have b4:=a8.o.keeps q (fun h=>h);clear q a9 a8;unfold jae.V;go_wp2_with (refine jad (vs:=n.cells) rfl rfl rfl rfl b4 (by rw[n.cells_len HR.o];rfl) (by rw[n.cells_len HR.o];exact Tryz.szNode) n.one ?_;intro W8 b5 b6)
 refine bodyPost_ret (jan rfl rfl rfl (jat W8 _ n HR.o b5)) rfl ?_
 exact⟨rfl,b3.o.trans' b6 (fun x hx e=>by have e:x=w.heap.size:=e;omega)⟩
end
section
open Go Go.RowKit
theorem jmx:∀ (l:vM) (i:Nat) (m:vM) (j:Nat),i+l.length<=m.length ->
  ((jav i l).foldl (fun l x=>l.set x.1 x.2) m)[j]?=if i<=j/\j < i+l.length/\(l.getD (j - i) ⟨#[]⟩).size≠0 then some (l.getD (j - i) ⟨#[]⟩)else m[j]?
 | [],i,m,j,_=>by
  rw[if_neg (fun h=>by have X:=h.1;have q:=h.2.1;rw[dA]at q;omega)];rfl
 | r :: l,i,m,j,h=>by
  unfold jav;simp only[bU]at h ⊢;have J:∀ (H:vM),H.length=m.length->(∀ k,k≠i->H[k]?=m[k]?)->((jav (i+1) l).foldl (fun l x=>l.set x.1 x.2) H)[j]?=if i<=j/\j < i+(l.length+1)/\((r :: l).getD (j - i) ⟨#[]⟩).size≠0/\j≠i then some ((r :: l).getD (j - i) ⟨#[]⟩)else H[j]?:=by
   intro H O K;rw[jmx l (i+1) H j vO]
   by_cases hj:i+1<=j
   ·have e:(r :: l).getD (j - i) ⟨#[]⟩=l.getD (j - (i+1)) ⟨#[]⟩:=by
     rw[show j - i=(j - (i+1))+1 by omega,List.getD_cons_succ]
    rw[e]
    by_cases q:j < i+1+l.length/\(l.getD (j - (i+1)) ⟨#[]⟩).size≠0
    ·rw[if_pos ⟨hj,q.1,q.2⟩,if_pos ⟨by omega,by omega,q.2,by omega⟩]
    ·rw[if_neg (fun A=>q A.2),if_neg (fun A=>q ⟨by omega,A.2.2.1⟩)]
   ·rw[if_neg (fun A=>hj A.1),if_neg (fun A=>hj vO)]
  split
  ·rename_i h0
   rw[J m rfl (fun _ _=>rfl)]
   by_cases hj:j=i
   ·subst hj
    rw[if_neg (fun A=>A.2.2.2 rfl),if_neg (fun A=>A.2.2 (by rw[iK];exact h0))]
   ·by_cases q:i<=j/\j < i+(l.length+1)/\((r :: l).getD (j - i) ⟨#[]⟩).size≠0
    ·rw[if_pos ⟨q.1,q.2.1,q.2.2,hj⟩,if_pos q]
    ·rw[if_neg (fun A=>q ⟨A.1,A.2.1,A.2.2.1⟩),if_neg q]
  ·rename_i h0
   rw[iD,J (m.set i r) (by simp) (fun k K=>List.getElem?_set_ne (Ne.symm K))]
   by_cases hj:j=i
   ·subst hj
    rw[if_neg (fun A=>A.2.2.2 rfl),if_pos ⟨bL _,by omega,by rw[iK];exact h0⟩,iK];rw[gQ vO];rfl
   ·rw[List.getElem?_set_ne (Ne.symm hj)]
    by_cases q:i<=j/\j < i+(l.length+1)/\((r :: l).getD (j - i) ⟨#[]⟩).size≠0
    ·rw[if_pos ⟨q.1,q.2.1,q.2.2,hj⟩,if_pos q]
    ·rw[if_neg (fun A=>q ⟨A.1,A.2.1,A.2.2.1⟩),if_neg q]
theorem jf3(n:jae)(hr:n.refs.length=16):jbB n=jbJ n.refs n.value:=by
 apply iI;intro j;unfold jbB jdu jbJ;rw[cF (bL _)];unfold jae.refsL;have A:((jav 0 n.refs).foldl (fun l x=>l.set x.1 x.2) (List.replicate 17 (jam ⟨#[]⟩))).length=17:=by
  have:=jha n n.refsL.length
  unfold jdu at this;rw[cF (bL _)]at this;exact this
 by_cases h16:j=16
 ·subst h16
  rw[gQ (by rw[A];omega),cO (by rw[bS,hr];omega),bS,hr];rfl
 ·rw[List.getElem?_set_ne vO,jmx n.refs 0 _ j (by rw[hr,gT];omega),hr]
  by_cases hj:j < 16
  ·have q:j < n.refs.length:=vO
   rw[cR (by rw[bS];exact q),bV,bB q];have e:n.refs.getD (j - 0) ⟨#[]⟩=n.refs[j]:=by rw[bJ,Nat.sub_zero,bB q];rfl
   rw[e]
   by_cases h0:n.refs[j].size=0
   ·rw[if_neg (fun H=>H.2.2 h0),List.getElem?_replicate,if_pos vO,fM,if_pos h0]
   ·rw[if_pos ⟨by omega,by omega,h0⟩,fM,if_neg h0]
  ·rw[if_neg (fun H=>hj vO),List.getElem?_replicate,if_neg vO,iO (by simp[hr];omega)]
section
variable {I:vB->jae->Prop} (HI:InlP I)
include HI
theorem MayP.item{r:vB}(h:MayP I r):jd9 r:=by
 rcases h with⟨h,h1,rfl⟩ |⟨m,hm⟩
 ·exact jbo h vO
 ·obtain⟨xs,rfl,e⟩:=HI.list r m hm
  exact jhA xs e
theorem MayP.ne{r:vB}(h:MayP I r):r≠jam ⟨#[]⟩:=by
 rcases h with h |⟨m,hm⟩
 ·intro e
  have:=h.size
  rw[e]at this;exact absurd this vI
 ·obtain⟨xs,rfl,q⟩:=HI.list r m hm
  exact jd0 xs q
theorem jwg(w:vW)(n:jae)(h:jaW I n):vR 153 #[.string (jaV n)] w (.tuple #[n.V,.bool true]):=by
 have J:=h.one HI;have K:=jdp n J;cases h with
 | none=>exact jot w
 | leaf p v h2 h3 h4 =>
  obtain⟨a,b,c⟩:=jd1 h2
  have Z:=jbD p true;have z2:=jaS (putB p true);have z3:=jaS v;simp only at b;exact jkR w (jam (putB p true)) (jam v) _ J.refs (jbo _ vO) (jbo _ vO) vO (fun w=>jor w p v vO vO c)
 | ext p r h2 h3 h4 =>
  obtain⟨a,b,c⟩:=jd1 h2
  have Z:=jbD p false;have z2:=jaS (putB p false);simp only at b;have X:MayP I r:=h4.imp id (fun ⟨m,h,_⟩=>⟨m,h⟩);have z3:=X.size HI;exact jkR w (jam (putB p false)) r _ J.refs (jbo _ vO) (X.item HI) vO (fun w=>jrl w p r vO c)
 | branch v rs h2 h3 h4 h5 =>
  have e:jbB ⟨3,⟨#[]⟩,v,rs⟩=jbJ rs v:=jf3 _ h2;have q:∀ x∈jbJ rs v,jd9 x:=by
   intro x A;unfold jbJ at A;rcases bQ.1 A with A | A
   ·obtain⟨r,O,rfl⟩:=bD.1 A
    by_cases H:r.size=0
    ·rw[if_pos H];exact jbo _ vI
    ·rw[if_neg H];exact (h4 r O H).item HI
   ·rw[bM.1 A];exact jbo _ vO
  show vQ _ #[.string (ja6 (jbB ⟨3,⟨#[]⟩,v,rs⟩))] w _;rw[e]at K ⊢;exact jos w (jbJ rs v) _ h2 (by simp[jbJ,h2]) q vO (fun w a ha=>jkP w a rs v h2 vO (fun r O H=>(h4 r O H).ne HI) ha)
end
end
section
open Go Go.RowKit
theorem jiG(n:jae)(h:jjS n):(jaV n).size<=2000:=by
 unfold jaV;have H:=h.path;have J:=h.value;split
 ·exact bE (jaS _) vI
 ·split
  ·have q:=jbD n.path true
   have A:=jaS (putB n.path true);have K:=jaS n.value;have e:=jdJ [jam (putB n.path true),jam n.value];rw[jbe,jbe,jdq]at e;unfold joc;omega
  ·split
   ·have q:=jbD n.path false
    have A:=jaS (putB n.path false);have e:=jdJ [jam (putB n.path false),n.refs.getD 0 ⟨#[]⟩];rw[jbe,jbe,jdq]at e;have O:(n.refs.getD 0 ⟨#[]⟩).size<=33:=h.each _ (by
     rw[bJ,bB (by rw[h.refs];omega)];exact dW _)
    unfold extB;omega
   ·have z:=jdp n h
    have e:=jdJ (jbB n);unfold jhb;omega
theorem jiF(n:jae)(h:jjS n)(hk:n.kind≠0):∃ xs,jaV n=ja6 xs/\(catB xs).size<=1048576:=by
 have A:=h.path;have H:=h.value;unfold jaV;rw[if_neg hk];split
 ·have e:=jbD n.path true
  have q:=jaS (putB n.path true);have J:=jaS n.value
  exact⟨_,rfl,by rw[jbe,jbe,jdq];omega⟩
 ·split
  ·have e:=jbD n.path false
   have q:=jaS (putB n.path false);have K:(n.refs.getD 0 ⟨#[]⟩).size<=33:=h.each _ (by
    rw[bJ,bB (by rw[h.refs];omega)];exact dW _)
   exact⟨_,rfl,by rw[jbe,jbe,jdq];omega⟩
  ·exact⟨_,rfl,by have:=jdp n h;omega⟩
section
variable {I:vB->jae->Prop} (HI:InlP I)
include HI
theorem jer(w:vW)(n:jae)(h:jaW I n):vR 108 #[.string (jaV n)] w (.tuple #[n.V,.int .i64 0]):=by
 have h1:=h.one HI
 obtain⟨s,hs⟩:=vE (jaV n)
 rw[<-hs];have HS:=Hd hs;have H:=Hd h;have K:=Hd h1;have HL:=Hd (n.cells_len h1.refs);clear h h1 hs;unfold vR vQ;go_in;go_wp2_with (refine jah Tryz.allocNode rfl rfl ?_;intro W1 O X)
 rw[HS.o];refine vC (jwg HI W1 n H.o) fun w2 q=>?_;rw[<-HS.o];have a5:=Hd (O.keeps q (fun h=>h));have a7:=Hd (X.trans q);clear O X q;unfold jae.V;go_wp2_with (first |(refine jah Tryz.allocNode rfl rfl ?_;intro W3 Z a1;refine jad (vs:=n.cells) rfl rfl rfl rfl Z (by rw[HL.o];rfl) (by rw[HL.o];exact Tryz.szNode) n.one ?_;intro W4 A a2) |(refine jaf 206 (.tmp 4) rfl rfl _ _ rfl (jap _ _ n K.o.refs A) ?_))
 have a3:Ext w2 W4:=a1.trans' a2 (fun x hx e=>by have e:x=w2.heap.size:=e;omega);refine vC (jjM HI W4 n H.o) fun w5 q=>?_;have J:=A.keeps q (fun h=>h);have a8:=Hd J;have HX:=Hd (a3.trans q);clear Z a1 A a2 a3 q;go_wp2_with (refine jaf 206 (.tmp 4) rfl rfl _ _ rfl (jap _ _ n K.o.refs J) ?_)
 refine vC (jq6 w5 n K.o) fun w6 q=>?_;rw[<-HS.o];have a9:=a8.o.keeps q (fun h=>h);have a4:=HX.o.trans q;have a0:=a5.o.keeps a4 (fun h=>h);clear J q;go_wp2_with (first |(refine jaf 206 (.tmp 4) rfl rfl _ _ rfl (jap _ _ n K.o.refs a9) ?_) |(refine jad (vs:=n.cells) rfl rfl rfl rfl a0 (by rw[HL.o];rfl) (by rw[HL.o];exact Tryz.szNode) n.one ?_;intro W8 b0 b1))
 refine bodyPost_ret (jan rfl rfl rfl (jat W8 _ n K.o.refs b0)) rfl ?_
 exact⟨rfl,(a7.o.trans a4).trans' b1 (fun x hx e=>by have e:x=w.heap.size:=e;omega)⟩
theorem jqu(w:vW)(n:jae)(h:jaW I n)(hk:n.kind≠0)(hsm:(jaV n).size < 32):vR 120 #[.string (jaV n)] w (.tuple #[n.V,.bool true]):=by
 have h1:=h.one HI
 obtain⟨s,hs⟩:=vE (jaV n)
 rw[<-hs]at hsm ⊢;have c1:¬(32:Int)<=(s.size:Int):=vO
 have c2:((n.kind:Int) == 0)=false:=by simp;omega
 have c3:¬(n.kind:Int)=0:=vO
 have HS:=Hd hs;have H:=Hd h;have H1:=Hd h1;have HL:=Hd (n.cells_len h1.refs);clear h h1 hs hk;unfold vR vQ;go_in;go_wp2_with (refine jah Tryz.allocNode rfl rfl ?_;intro W1 q A)
 rw[HS.o];refine vC (jer HI W1 n H.o) fun w2 hE=>?_;rw[<-HS.o];have J:=q.keeps hE (fun h=>h);have a0:=Hd (A.trans hE);clear q A hE;unfold jae.V;go_wp2_with (first |(refine jah Tryz.allocNode rfl rfl ?_;intro W3 a1 K;refine jad (vs:=n.cells) rfl rfl rfl rfl a1 (by rw[HL.o];rfl) (by rw[HL.o];exact Tryz.szNode) n.one ?_;intro W4 O X;have q0:W4.cell? ⟨w2.heap.size,0,none⟩=some (.int .i64 (n.kind:Int)):=O.cellL vF;have Z:=(J.keeps K (fun h=>h)).keeps X (by have:=J.lt;omega)) |(refine jaf 206 (.tmp 4) rfl rfl _ _ rfl (jap _ _ n H1.o.refs O) ?_) |(refine jad (vs:=n.cells) rfl rfl rfl rfl Z (by rw[HL.o];rfl) (by rw[HL.o];exact Tryz.szNode) n.one ?_;intro W8 a2 a3))
 refine bodyPost_ret (jan rfl rfl rfl (jat W8 _ n H1.o.refs a2)) rfl ?_;have a4:Ext w2 W4:=K.trans' X (fun x hx e=>by have e:x=w2.heap.size:=e;omega)
 exact⟨rfl,(a0.o.trans a4).trans' a3 (fun x hx e=>by have e:x=w.heap.size:=e;omega)⟩
end
def InlD:Nat->vB->jae->Prop
 | 0,_,_=>False
 | d+1,r,m=>jaW (InlD d) m/\r=jaV m/\r.size < 32/\m.kind≠0
theorem inlP:∀ d,InlP (InlD d)
 | 0=>⟨fun _ _ h=>h.elim,fun _ _ h=>h.elim,fun _ _ h=>h.elim,fun _ _ h=>h.elim,fun _ _ h=>h.elim,fun _ _ h=>h.elim⟩
 | d+1=>by
  have A:=inlP d;have H:∀ r m,InlD (d+1) r m->∃ xs,r=ja6 xs/\(catB xs).size<=1048576:=fun r m ⟨J,K,O,X⟩=>by
   obtain⟨xs,e,q⟩:=jiF m (J.one A) X
   exact⟨xs,K.trans e,q⟩
  refine⟨fun r m h=>(h.1.one A).refs,fun r m h=>h.2.2.1,fun r m h=>?_,H,fun r m h=>?_,fun r m h w=>?_⟩
  ·obtain⟨xs,e,q⟩:=H r m h
   obtain⟨o,Z,_⟩:=jdB xs q
   rw[e]
   have:=(ji6 Z).1
   omega
  ·obtain⟨xs,e,q⟩:=H r m h
   rw[e];exact jks xs q
  ·obtain⟨J,K,O,X⟩:=h
   rw[K]at O ⊢;exact jqu A w m J X O
end
