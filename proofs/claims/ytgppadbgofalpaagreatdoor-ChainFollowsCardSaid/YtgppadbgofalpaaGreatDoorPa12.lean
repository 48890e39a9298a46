/- Lemmas; each is under no condition but those that it states. -/
import Derived.Test.YtgppadbgofalpaaGreatDoorPa0
import Derived.Test.YtgppadbgofalpaaGreatDoorPa11
import Derived.RangeFuncCalls
namespace Go.Proofs.YtgppadbgofalpaaGreatDoor
set_option linter.unusedSimpArgs false
set_option linter.unusedVariables false
set_option maxRecDepth 100000
set_option maxHeartbeats 16000000
variable (xs:vM)(W w:vW)(p r s:vB)(n:Ai){a:Act}{af:Array Edge}{lb vs tmps:Array vV}{k b:Nat}{x y:Operand}{g:Option (Nat × Bool)}{d:Option Tmp}{P:Program}{pos:String}{t u:Tmp}{rs:vM}{v:vV}
section
open Go Go.RowKit
attribute [local go_sem] Oper.semAt_some
theorem Ac:∀ w,(Instr.alloc 215 true (.tuple #[])).run Tryz.prog w=.ok w (w.alloc (.cells Db.cells.toArray 215)):=fun w=>by kernel_rfl
theorem Ai.one(n:Ai):∀ v∈n.cells,v.oneCell'=true:=by
 intro v e;simp only[Ai.cells,bT,bC]at e;rcases e with rfl | rfl | rfl |⟨_,_,rfl⟩ <;> rfl
def Zr(r:vB):Prop:=∃ h:vB,h.size=32/\r=Ay h
theorem Zr.size{r:vB}(h:Zr r):r.size=33:=by
 obtain⟨h,e,rfl⟩:=h
 unfold Ay;rw[if_neg vO,cM,e];rfl
theorem Zr.known{r:vB}(hh:Zr r):r.size<=1000000000/\∃ h q,Dq r=some q/\Vg r q=some h:=by
 have K:=hh.size
 obtain⟨h,A,e⟩:=hh
 obtain⟨q,H,J⟩:=JO h A
 exact⟨by omega,h,q,by rw[e];exact H,by rw[e];exact J⟩
structure Vp(I:vB->Ai->Prop):Prop where
 refs:∀ r m,I r m->m.refs.length=16
 small:∀ r m,I r m->r.size < 32
 pos:∀ r m,I r m->r.size≠0
 list:∀ r m,I r m->∃ xs,r=Fj xs/\(Aw xs).size<=1048576
 nohash:∀ r m,I r m->∃ q,Dq r=some q/\Vg r q=none
 inl:∀ r m,I r m->∀ w,vR 144 #[r] w (.tuple #[m.V,true])
section
variable {I:vB->Ai->Prop} (HI:Vp I)
def Gf(I:vB->Ai->Prop)(r:vB):Prop:=Zr r\/∃ m,I r m
include HI
theorem xH(w:vW)(r:vB)(hr:Gf I r):vR 234 #[r] w true:=by
 rcases hr with hh |⟨m,hm⟩
 ·obtain⟨hs,h,q,A,H⟩:=hh.known;(have K:=Hd A;have O:=Hd H;clear A H hh;unfold vR vQ;go_in;go_wp2_with fail);(refine vH (BE w r q vO K.o) fun w1 X=>?_;rw[O.o];unfold Dg;simp only;go_wp2_with fail);go_ret;exact⟨rfl,X.o⟩
 ·have hs:=HI.small r m hm;obtain⟨q,A,H⟩:=HI.nohash r m hm;(have HC:=Hd (HI.inl r m hm);have J:=Hd (HI.refs r m hm);have K:=Hd A;have O:=Hd H;clear A H;unfold vR vQ;go_in;go_wp2_with fail);(refine vH (BE w r q vO K.o) fun w1 X=>?_;rw[O.o];unfold Dg;simp only;go_wp2_with fail);(refine vH (HC.o w1) fun w2 Z=>?_;have a0:=Hd (X.o.trans Z);unfold Ai.V;go_wp2_with (refine Di Ac rfl rfl ?_;intro W3 hB a1;refine Bv (vs:=m.cells) rfl rfl rfl rfl hB (by rw[m.cells_len J.o];rfl) (by rw[m.cells_len J.o];exact Ab) m.one ?_;intro W4 a4 a2));have a3:Af w2 W4:=a1.trans' a2 kJ;go_ret;exact⟨rfl,a0.o.trans a3⟩
theorem xC(w:vW)(n:Ai)(r:vB)(hr:n.refs.length=16)(hp:n.pathOk 1=true)(h0:n.value=⟨#[]⟩)(hb:n.behindN=1)(K:n.refs[0]?=some r)(hm:Zr r\/∃ m,I r m/\m.kind=3):vR 204 #[n.V] w true:=by
 have a1:n.path.size<=1000000:=by simp only[Ai.pathOk,cI,decide_eq_true_eq]at hp;omega
 have O:=RP w n hr;have e2:n.cells[2]?=some (.string ⟨#[]⟩):=by rw[<-h0];rfl
 have e3:n.cells[3]?=some (.string r):=by show (n.refs.map Value.string)[0]?=_;rw[bY,K];rfl
 have HP:=Hd hp;have HB:=Hd hb;have E3:=Hd e3;clear hp hb h0 K e3;unfold Ai.V at O ⊢;unfold vR vQ;go_in;go_wp2_with (refine Gv 302 (.tmp 1) rfl rfl _ _ rfl O ?_)
 refine vC (rB _ n hr 1 a1) fun w1 A=>?_;rw[HP.o];have B1:=(Ae.new w (.cells n.cells.toArray 302)).keeps A kI;have q2:=B1.cellL e2;have H:=DJ w1 _ n hr B1;have X:=Hd (((Aa w).alloc _).trans A);have Z:=Hd B1;unfold Ai.V at H;clear O A B1;go_wp2_with (refine Gv 302 (.tmp 1) rfl rfl _ _ rfl H ?_)
 refine vC (lQ _ n hr) fun w2 A=>?_;rw[HB.o];have B2:=Z.o.keeps A kI;have J:=Hd (X.o.trans A);have q3:=B2.cellL E3.o;have a2:=Hd B2;clear H A q2 B2 Z X;rcases hm with hh |⟨m,hm,hk⟩
 ·obtain⟨hs,h,q,K,h4⟩:=hh.known;(have H3:=Hd K;have H4:=Hd h4;clear K h4 hh;go_wp2_with fail);(refine vH (BE w2 r q hs H3.o) fun w3 A=>?_;rw[H4.o];have HE:=Hd (J.o.trans A);unfold Dg;simp only;go_wp2_with fail);go_ret;exact⟨rfl,HE.o⟩
 ·have hs:=HI.small r m hm;obtain⟨q,K,h4⟩:=HI.nohash r m hm;(have HC:=Hd (HI.inl r m hm);have a0:=Hd (HI.refs r m hm);have H3:=Hd K;have H4:=Hd h4;have HK:=Hd hk;clear K h4 hk;go_wp2_with fail);(refine vC (BE w2 r q vO H3.o) fun w3 A=>?_;rw[H4.o];have B3:=a2.o.keeps A kI;have HE:=Hd (J.o.trans A);have a3:=B3.cellL E3.o;clear A q3 B3;unfold Dg;simp only;go_wp2_with fail);(refine vH (HC.o w3) fun w4 a4=>?_;have J:=Hd (HE.o.trans a4);clear a3;unfold Ai.V;go_wp2_with (refine Di Ac rfl rfl ?_;intro W3 hB a5;refine Bv (vs:=m.cells) rfl rfl rfl rfl hB (by rw[m.cells_len a0.o];rfl) (by rw[m.cells_len a0.o];exact Ab) m.one ?_;intro W4 a7 a8;have q0:W4.cell? w4=some (.int .i64 3):=a7.cellL (by show some (Value.int .i64 (m.kind:Int))=_;rw[HK.o];rfl)));have a9:Af w4 W4:=a5.trans' a8 kJ;have b0:=Hd (J.o.trans a9);go_ret;exact⟨rfl,b0.o⟩
structure IF(w:World)(gn gr gf gi:Nat)(n:Ai)(c:Nat)(k:Nat)(W:World):Prop where
 ext:Af w W
 res:Ae W gr (.cells #[false] 4)
 node:Ae W gn (.cells n.cells.toArray 302)
 full:Ae W gf (.cells #[((c+k:Nat):Int)] 3)
 it:Ae W gi (.cells n.cells.toArray 302)
theorem juJ(w:vW)(n:Ai)(hr:n.refs.length=16)(hp:n.path=⟨#[]⟩)(h8:n.value.size<=80)(hm:∀ r∈n.refs,r.size≠0->Gf I r)(h2:2<=min n.value.size 1+n.refsL.length):vR 205 #[n.V] w true:=by
 have e1:n.cells[1]?=some (.string ⟨#[]⟩):=by rw[<-hp];rfl
 have e2:n.cells[2]?=some (.string n.value):=rfl;have c1:¬(80:Int) < (n.value.size:Int):=vO
 obtain⟨c,hc⟩:=vE (min n.value.size 1)
 have a1:min (n.value.size:Int) 1=(c:Int):=vO
 rw[<-hc]at h2;have HC:=Hd a1;have H2:=Hd h2;clear hp hc a1 h2;refine (callsIn_wide (n:=0)).1 ?_;refine callsIn_of_wp_marks Tryz.func205 rfl trivial ?_ rfl;simp only[Tryz.ntmps205,cQ,bS,cY,Nat.reduceAdd,Nat.reduceSub,cT,cS,dC,cW,cL,cR]
 obtain⟨W0,A⟩:=vE (((w.alloc (.cells n.cells.toArray 302)).alloc (.cells #[false] 4)).alloc (.cells #[.int .i64 (min (n.value.size:Int) 1)] 3))
 have B0:Ae W0 w (.cells n.cells.toArray 302):=by rw[A];exact ((Ae.new w _).alloc _).alloc _
 have B1:Ae W0 (w.heap.size+1) (.cells #[false] 4):=by rw[A];have:=(Ae.new (w.alloc (.cells n.cells.toArray 302)) (.cells #[false] 4)).alloc (.cells #[.int .i64 (min (n.value.size:Int) 1)] 3);rwa [bG]at this
 have B2:Ae W0 (w.heap.size+1+1) (.cells #[(c:Int)] 3):=by rw[A, <-HC.o];have:=Ae.new ((w.alloc (.cells n.cells.toArray 302)).alloc (.cells #[false] 4)) (.cells #[.int .i64 (min (n.value.size:Int) 1)] 3);rwa [bG,bG]at this
 have E0:Af w W0:=by rw[A];exact (((Aa w).alloc _).alloc _).alloc _
 have a2:W0.heap.size=w.heap.size+3:=by rw[A];simp
 have X:=DJ W0 _ n hr B0;rw[A]at X;have a3:=Hd A;have a4:=Hd E0;have a5:=Hd B0;have a7:=Hd B1;have a8:=Hd B2;have a9:=Hd a2;clear A E0 B0 B1 B2 a2;unfold Ai.V at X ⊢;gi_wp2_with (refine AJ rfl 302 (.tmp 1) rfl _ _ rfl X ?_)
 refine⟨trivial,rfl,CallsIn.mono (callsIn_wide.2 (OZ _ n)) ?_⟩
 rintro e w1 ⟨rfl,J,O⟩;rw[<-a3.o]at J O ⊢;rw[a9.o]at J ⊢;have b0:IF w w.heap.size (w.heap.size+1) (w.heap.size+1+1) (w.heap.size+3) n c 0 w1:=⟨a4.o.trans O,a7.o.keeps O kI,a5.o.keeps O kI,a8.o.keeps O kI,J⟩;have b4:=J.lt;have b1:=Hd b0;have b5:c<=1:=kL HC.o
 clear J O X b0 a3 a4 a5 a7 a8 a9;gi_wp2_with fail
 refine' DK (N:=n.refsL.length) (gf:=210) (lb:=#[(w.heap.size+3:)]) rfl (vX 210) (OC (w.heap.size+3) n hr) (fun k=>rfl) (IF w w.heap.size (w.heap.size+1) (w.heap.size+1+1) (w.heap.size+3) n c) (fun _ _ _=>False) (fun k W W' h e=>⟨h.ext.trans e,h.res.keeps e kI,h.node.keeps e kI,h.full.keeps e kI,h.it.keeps e kI⟩) (fun _ _ _ _ h _=>h) (fun k W h=>h.it) (fun k W o h=>⟨h.ext.putObj (.inr vO) _,h.res.put_other vO _,h.node.put_other vO _,h.full.put_other vO _,h.it.put_other vO _⟩) (fun _ _ _ _ h=>h) b1.o _ ?hassign ?hbody ?hdone ?hstop
 case hassign =>intro l j W K _ hK;rw[PP,EL];simp only[dJ,dE];gi_wp2;exact hK
 case hbody =>intro l k W hk h b6;have q:=h.full.cell (i:=0) (v:=.int .i64 ((c+k:Nat):Int)) vF;have f:W.frozen? (w.heap.size+1+1:)=false:=h.full.frozen;have a0:=PO n hr hk;have Z:=hm _ (bD a0.2.1) a0.2.2;have b3:k < 16:=bE hk (by(have:∀ (l:vM) (i:Nat),(Gt i l).length<=l.length:=by intro l;induction l with| nil=>intro i;simp[Gt]| cons x r ih=>intro i;unfold Gt;split <;> simp <;> have:=ih (i+1) <;> omega);have:=this n.refs 0;rw[hr]at this;exact this);(have H:=Hd h;have HM:=Hd Z;clear h a0 Z;clear q f;gi_wp2_with fail);refine⟨trivial,rfl,CallsIn.mono (CallsIn.inRound l (callsIn_wide.2 (xH HI W _ HM.o))) ?_⟩;rintro e w5 ⟨rfl,O⟩;have q:=(H.o.full.keeps O kI).cell (i:=0) (v:=.int .i64 ((c+k:Nat):Int)) vF;have f:w5.frozen? (w.heap.size+1+1:)=false:=(H.o.full.keeps O kI).frozen;have HE:=Hd O;clear O;gi_wp2;rw[show (c:Int)+(k:Int)+1=((c+(k+1):Nat):Int) by omega];have K5:Ad (fun b=>b=w.heap.size+1+1) w5 (w5.setCell (w.heap.size+1+1:) ((c+(k+1):Nat):Int)):=Ad.oneSet w5 (w.heap.size+1+1:) _;have K6:Ad (fun b=>b=w.heap.size+1+1) W (w5.setCell (w.heap.size+1+1:) ((c+(k+1):Nat):Int)):=(HE.o.mono kZ).trans K5;refine⟨K6.mono (fun x hx e=>?_),?_⟩;{have e:x=_:=e;show x≠_/\x≠_;omega};exact⟨H.o.ext.trans' K6 (fun x hx e=>by omega),H.o.res.keeps K6 vO,H.o.node.keeps K6 vO,((H.o.full.keeps HE.o kI).set_same (i:=0) _),H.o.it.keeps K6 vO⟩
 case hdone =>intro W h hd;have q:=h.full.cell (i:=0) (v:=.int .i64 ((c+n.refsL.length:Nat):Int)) vF;have q2:=h.res.cell (i:=0) (v:=.bool false) vF;have f2:W.frozen? (w.heap.size+1:)=false:=h.res.frozen;have c5:(2:Int)<=(c:Int)+(n.refsL.length:Int):=kL H2.o;have H:=Hd h;have HD:=Hd hd;clear h hd;gi_wp2;have B2:=(H.o.res.set_same (i:=0) true);have BD:=HD.o.set_other (p:=(w.heap.size+1:)) (by show w1.heap.size≠w.heap.size+1;omega) true;have hX:Af w ((W.setCell (w.heap.size+1:) true).putObj w1 (.deferred none)):=(H.o.ext.setCell (.inr (by show w.heap.size<=w.heap.size+1;omega)) _).putObj (.inr vO) _;obtain⟨W3,b2⟩:=vE (W.setCell (w.heap.size+1:) true);rw[<-b2]at B2 BD hX ⊢;have c2:(W3.putObj w1 (.deferred none)).cell? (w.heap.size+1:)=some (.bool true):=(B2.put_other vO _).cell (i:=0) (by simp);refine⟨by simp,.inl ⟨_,_,rfl,run_takeDeferred BD,?_⟩⟩;exact⟨true,by simp[results,Tryz.results205,go_sem,c2],rfl,hX⟩
 case hstop=>intro c k W _ _ h;exact h.elim
end
end
section
open Go Go.RowKit
theorem Y_{w:vW}{f:FuncId}{args:Array Operand}{ats:Array TypeId}{ty:TypeId}(hx:a.eval x=.func (.func f) #[] lb)(eg:∀ args w,(callFunc f args).run P w=.ok (.enter f args) w)(hv:args.map a.eval=vs):(execOp a.eval ⟨d,.call { callee:=.value x,args:=args,argTypes:=ats },ty,pos,af,g⟩).run P w=.ok (.enter f (vs++lb)) w:=by
 subst hv;simp[execOp,resolve,hx,Deferred.ofValue,invoke,bQ,Result.andThen,cU,eg]
theorem YK{w:vW}{f:FuncId}{ats:Array TypeId}{ty:TypeId}(hx:a.eval x=.func (.func f) #[] #[])(eg:∀ args w,(callFunc f args).run P w=.ok (.enter f args) w)(hv:a.eval y=v):(execOp a.eval ⟨d,.call { callee:=.value x,args:=#[y],argTypes:=ats },ty,pos,af,g⟩).run P w=.ok (.enter f #[v]) w:=by
 have:=Y_ (P:=P) (w:=w) (d:=d) (ats:=ats) (ty:=ty) (pos:=pos) (af:=af) (g:=g) (args:=#[y]) hx eg rfl
 simpa [hv]using this
theorem Np:∀ w,(Instr.alloc 349 true (.tuple #[])).run Tryz.prog w=.ok w (w.alloc (.cells [Value.nilFunc,.nilFunc,.nilFunc,.nilFunc].toArray 349)):=fun w=>by kernel_rfl
theorem Si:(Tryz.prog.info? 349).map (·.size)=some 4:=vY
theorem Nn:∀ w,(Instr.alloc 351 true (.tuple #[])).run Tryz.prog w=.ok w (w.alloc (.cells [Value.nilFunc,.nilFunc,.nilFunc,.nilFunc].toArray 351)):=fun w=>by kernel_rfl
theorem Sh:(Tryz.prog.info? 351).map (·.size)=some 4:=vY
theorem Ob:Tryz.prog.underlying 212=some (.int .i64):=vY
theorem Vv:(isAgg 348).run Tryz.prog w=.ok false w:=vY
theorem Vu:(isAgg 350).run Tryz.prog w=.ok false w:=vY
theorem Dt{t:TypeId}(h:∀ w,(isAgg t).run P w=.ok false w){w:vW}{a:Addr}(hc:w.cell? a=some v):(Instr.loadAt t a).run P w=.ok v w:=by
 simp[Instr.loadAt,Instr.sureAddr,loadVar,bQ,h w,Result.andThen,hc]
def Oo(f:FuncId):vV:=.func (.func f) #[] #[]
theorem ON(w:vW)(n:Ai)(hr:n.refs.length=16)(hk:n.kind<=3)(f:FuncId)(hf:[Oo 202,Oo 203,Oo 204,Oo 205][n.kind]?=some (Oo f))
  (eg:∀ args w,(callFunc f args).run Tryz.prog w=.ok (.enter f args) w) (hc:∀ w,vR f #[n.V] w true) :
  vR 161 #[n.V] w true:=by
 have e0:n.cells[0]?=some (.int .i64 (n.kind:Int)):=rfl;have c0:¬(n.kind:Int) < 0:=vO
 have c1:¬(3:Int) < (n.kind:Int):=vO
 have c2:(n.kind:Int) < 4:=vO
 have HF:=Hd hf;have HC:=Hd hc;have HR:=Hd hr;clear hf hc hr;unfold Ai.V;unfold vR vQ;go_in;go_wp2_with (refine Di Np rfl rfl ?_;intro W1 H q;refine Bv (vs:=[Oo 202,Oo 203,Oo 204,Oo 205]) rfl rfl rfl rfl H rfl Si (by simp[Oo,Value.oneCell']) ?_;intro X J A;have q0:X.cell? w=some (.int .i64 (n.kind:Int)):=(((Ae.new w (.cells n.cells.toArray 215)).keeps q kI).keeps A (by rw[bG];omega)).cellL e0)
 have qt:X.cell? ⟨w.heap.size+1,n.kind,none⟩=some (Oo f):=by have:=J.cellL HF.o;rwa [bG]at this
 have K:=((Ae.new w (.cells n.cells.toArray 215)).keeps q kI).keeps A (by rw[bG];omega);have QT:=Hd qt;have Q0:=Hd q0;have Z:=Hd K;have HE:=Hd ((((Aa w).alloc (.cells n.cells.toArray 215)).trans q).trans' A (fun x hx e=>by have e:x=(w.alloc (.cells n.cells.toArray 215)).heap.size:=e;rw[bG]at e;omega));clear H q J A q0 qt K;refine Ij [0,1,2,3,4,5,6] Af Aa Aq vY vY vY ?_
 refine vK ?_
 refine Dc w _ rfl (fun w2 O=>Bq Ob rfl (Am (by exact Q0.o) O)) (vS ?_)
 refine vK ?_
 refine Dc ⟨w.heap.size+1,n.kind,none⟩ _ rfl (fun w2 O=>Dt Vv (Am (by exact QT.o) O)) (vS ?_);refine Dc w _ rfl (fun w2 O=>Jq w2 _ n HR.o (Z.o.keeps ((Ap X).trans O) kI)) (vS ?_);refine Ls _ f #[n.V] true rfl (fun w1=>YK rfl eg rfl) (fun w1 h1=>HC.o w1) (vS ?_)
 refine vK ?_
 refine Hv (fun w3 he=>?_);go_wp2_with fail
 go_ret
 exact⟨rfl,HE.o.trans ((Ap X).trans he)⟩
theorem PB(w:vW)(n:Ai)(hr:n.refs.length=16)(hk:n.kind<=3)(S:vB)(f:FuncId)(hf:[Oo 206,Oo 207,Oo 208,Oo 209][n.kind]?=some (Oo f))
  (eg:∀ args w,(callFunc f args).run Tryz.prog w=.ok (.enter f args) w) (hc:∀ w,vR f #[n.V] w S) :
  vR 162 #[n.V] w S:=by
 have e0:n.cells[0]?=some (.int .i64 (n.kind:Int)):=rfl;have c2:(n.kind:Int) < 4:=vO
 have HF:=Hd hf;have HC:=Hd hc;have HR:=Hd hr;clear hf hc hr;unfold Ai.V;unfold vR vQ;go_in;go_wp2_with (refine Di Nn rfl rfl ?_;intro W1 H q;refine Bv (vs:=[Oo 206,Oo 207,Oo 208,Oo 209]) rfl rfl rfl rfl H rfl Sh (by simp[Oo,Value.oneCell']) ?_;intro X J A)
 have q0:X.cell? w=some (.int .i64 (n.kind:Int)):=(((Ae.new w (.cells n.cells.toArray 302)).keeps q kI).keeps A (by rw[bG];omega)).cellL e0;have qt:X.cell? ⟨w.heap.size+1,n.kind,none⟩=some (Oo f):=by have:=J.cellL HF.o;rwa [bG]at this
 have K:=((Ae.new w (.cells n.cells.toArray 302)).keeps q kI).keeps A (by rw[bG];omega);have QT:=Hd qt;have Q0:=Hd q0;have Z:=Hd K;have HE:=Hd ((((Aa w).alloc (.cells n.cells.toArray 302)).trans q).trans' A (fun x hx e=>by have e:x=(w.alloc (.cells n.cells.toArray 302)).heap.size:=e;rw[bG]at e;omega));clear H q J A q0 qt K;simp only[Act.put,fT,dJ,dE,bG];refine Ij [0,1,2,3,4,5,6] Af Aa Aq vY vY vY ?_
 refine vK ?_
 refine Dc w _ rfl (fun w2 O=>Bq Ob rfl (Am (by exact Q0.o) O)) (vS ?_)
 refine vK ?_
 refine Dc ⟨w.heap.size+1,n.kind,none⟩ _ rfl (fun w2 O=>Dt Vu (Am (by exact QT.o) O)) (vS ?_);refine Dc w _ rfl (fun w2 O=>DJ w2 _ n HR.o (Z.o.keeps ((Ap X).trans O) kI)) (vS ?_);refine Ls _ f #[n.V] S rfl (fun w1=>YK rfl eg rfl) (fun w1 h1=>HC.o w1) (vS ?_)
 refine vK ?_
 refine Hv (fun w3 he=>?_);go_wp2_with fail
 go_ret
 exact⟨rfl,HE.o.trans ((Ap X).trans he)⟩
structure GU(n:Ai):Prop where
 refs:n.refs.length=16
 kind:n.kind<=3
 path:n.path.size<=12
 value:n.value.size<=80
 valid:Dz n.path=true
 each:∀ r∈n.refs,r.size<=33
def Cr(n:Ai):vB:=if n.kind=0 then Ay ⟨#[]⟩else if n.kind=1 then CQ n else if n.kind=2 then Qy n else CH n
theorem e_(h:GU n):∀ x∈Po n,x.size<=89:=by
 have A:∀ (l:List (Nat × vB)) (m:vM),(∀ x∈l,x.2.size<=89)->(∀ x∈m,x.size<=89)->∀ x∈l.foldl (fun l x=>l.set x.1 x.2) m,x.size<=89:=by intro l;induction l with| nil=>intro m _ H;exact H| cons y r ih =>intro m q H;rw[dM];refine ih _ (fun x e=>q x (bM _ e)) (fun x e=>?_);rcases gS e with e | rfl;{exact H x e};exact q y (bO ..)
 intro x e;unfold Po at e;rcases gS e with e | rfl
 ·refine A _ _ (fun y J=>?_) (fun y J=>?_) x e;{have q:=(RO n.refs 0 y (iK J)).2.2.1;have:=h.each y.2 (bD q);omega};rw[fP J];have:=Pw ⟨#[]⟩;have K:(⟨#[]⟩:vB).size=0:=rfl;omega
 ·have:=Pw n.value;have:=h.value;omega
theorem pC(c:Nat):∀ (l:vM),(∀ x∈l,x.size<=c)->(Aw l).size<=c * l.length
 | [],_=>by rw[BZ];omega
 | x :: r,h=>by
  rw[Ti];have q:=h x (bO ..);have A:=pC c r (fun y e=>h y (bM _ e));rw[bS,Nat.mul_add];omega
theorem LS(h:GU n):(Aw (Po n)).size<=1513:=by
 have:=pC 89 _ (e_ n h)
 have e:(Po n).length=17:=by unfold Po;rw[gV,YS]
 rw[e]at this;omega
theorem rC(h:GU n):vR 162 #[n.V] w (Cr n):=by
 have A:=h.kind;have O:=h.path;have X:=h.value
 by_cases k0:n.kind=0
 ·(have e:Cr n=Ay ⟨#[]⟩:=by unfold Cr;rw[if_pos k0]);rw[e];exact PB w n h.refs A _ 206 (by rw[k0];rfl) (vX 206) (fun w=>jqr w n)
 ·by_cases k1:n.kind=1;{(have e:Cr n=CQ n:=by unfold Cr;rw[if_neg k0,if_pos k1]);rw[e];exact PB w n h.refs A _ 207 (by rw[k1];rfl) (vX 207) (fun w=>jqh w n vO vO h.valid)};by_cases k2:n.kind=2;{(have e:Cr n=Qy n:=by unfold Cr;rw[if_neg k0,if_neg k1,if_pos k2]);rw[e];(obtain⟨r,H,q⟩:∃ r H,n.refs=r :: H:=by cases hx:n.refs with| nil=>have:=h.refs;rw[hx]at this;cases this| cons r H=>exact⟨r,H,rfl⟩);have J:=h.each r (by rw[q];exact bO ..);exact PB w n h.refs A _ 208 (by rw[k2];rfl) (vX 208) (fun w=>jsd w n vO r (by rw[q];rfl) vO h.valid)};have K:n.kind=3:=vO;(have e:Cr n=CH n:=by unfold Cr;rw[if_neg k0,if_neg k1,if_neg k2]);rw[e];exact PB w n h.refs A _ 209 (by rw[K];rfl) (vX 209) (fun w=>f_ w n h.refs vO (kL (LS n h)))
theorem jx3(hs:s.size<=1000000)(leaf:Bool)(x:vB)(hx:Ci s=x)(h2:2<=x.size)(h0:x[0].toNat=if leaf then 3 else 1):vR 231 #[s] w (.tuple #[x.extract 1 x.size,leaf,true]):=by
 unfold vR vQ;go_in;go_wp2_with fail
 refine vH (Zu w s hs) fun w1 e=>?_;rw[hx];clear hx hs;have q:=Rq (s:=x) vO;have H:(0:Int) < (x.size:Int):=vO
 have J:(1:Int)<=(x.size:Int):=vO
 cases leaf with
 | true =>(have A:(x[0].toNat:Int)=3:=by simp at h0;omega);(clear h0;go_wp2_with fail);exact bodyPost_ret (v:=.tuple #[x.extract 1 x.size,true,true]) vY rfl ⟨rfl,e.o⟩
 | false =>(have A:(x[0].toNat:Int)=1:=by simp at h0;omega);(clear h0;go_wp2_with fail);exact bodyPost_ret (v:=.tuple #[x.extract 1 x.size,false,true]) vY rfl ⟨rfl,e.o⟩
theorem jvy(hs:s.size<=1000000)(leaf:Bool)(x:vB)(hx:Ci s=x)(h2:2<=x.size)(h0:x[0].toNat=if leaf then 2 else 0)(h1:x[1].toNat=0):vR 231 #[s] w (.tuple #[x.extract 2 x.size,leaf,true]):=by
 unfold vR vQ;go_in;go_wp2_with fail
 refine vH (Zu w s hs) fun w1 e=>?_;rw[hx];clear hx hs;have q:=Rq (s:=x) vO;have J:(0:Int) < (x.size:Int):=vO
 have K:(1:Int) < (x.size:Int):=vO
 have O:(2:Int)<=(x.size:Int):=vO
 have A:(x[1].toNat:Int)=0:=vO
 clear h1;cases leaf with
 | true =>(have H:(x[0].toNat:Int)=2:=by simp at h0;omega);(clear h0;go_wp2_with fail);exact bodyPost_ret (v:=.tuple #[x.extract 2 x.size,true,true]) vY rfl ⟨rfl,e.o⟩
 | false =>(have H:(x[0].toNat:Int)=0:=by simp at h0;omega);(clear h0;go_wp2_with fail);exact bodyPost_ret (v:=.tuple #[x.extract 2 x.size,false,true]) vY rfl ⟨rfl,e.o⟩
end
section
open Go Go.RowKit
def Cv(k:Nat):vM:=List.replicate k ⟨#[]⟩
inductive Gi (I:vB->Ai->Prop):Ai->Prop
 | none:Gi I Db
 | leaf (p v:vB):(⟨1,p,v,Cv 16⟩:Ai).pathOk 0=true->0 < v.size->v.size<=80->Gi I ⟨1,p,v,Cv 16⟩
 | ext (p r:vB):(⟨2,p,⟨#[]⟩,r :: Cv 15⟩:Ai).pathOk 1=true->r.size≠0->(Zr r\/∃ m,I r m/\m.kind=3)->Gi I ⟨2,p,⟨#[]⟩,r :: Cv 15⟩
 | branch (v:vB) (rs:vM):rs.length=16->v.size<=80->(∀ r∈rs,r.size≠0->Gf I r)->2<=min v.size 1+(Gt 0 rs).length->Gi I ⟨3,⟨#[]⟩,v,rs⟩
theorem MD{n:Ai}{k:Nat}(h:n.pathOk k=true):k<=n.path.size/\n.path.size<=12/\Dz n.path=true:=by
 simp only[Ai.pathOk,cI,decide_eq_true_eq]at h;exact⟨h.1.1,h.1.2,h.2⟩
theorem SC:∀ (k i:Nat),Gt i (Cv k)=[]
 | 0,_=>rfl
 | k+1,i=>by
  unfold Cv;rw[dV];unfold Gt;rw[if_pos (show (⟨#[]⟩:vB).size=0 from rfl)];exact SC k (i+1)
section
variable {I:vB->Ai->Prop} (HI:Vp I)
include HI
theorem Gf.size{r:vB}(h:Gf I r):r.size<=33:=by
 rcases h with h |⟨m,h⟩
 ·rw[h.size];omega
 ·have:=HI.small r m h;omega
theorem Gi.one{n:Ai}(h:Gi I n):GU n:=by
 have A:(⟨#[]⟩:vB).size=0:=rfl;cases h with
 | none=>exact⟨rfl,by decide,by decide,by decide,rfl,fun r e=>by rw[fP e];decide⟩
 | leaf p v h1 h2 h3 =>obtain⟨a,b,c⟩:=MD h1;exact⟨by simp[Cv],by simp,b,h3,c,fun r e=>by rw[fP e];decide⟩
 | ext p r h1 h2 h3 =>(obtain⟨a,b,c⟩:=MD h1;refine⟨by simp[Cv],by simp,b,by show (⟨#[]⟩:vB).size<=80;omega,c,fun x q=>?_⟩;rcases bT.1 q with rfl | q;{exact Gf.size HI (h3.imp id (fun ⟨m,h,_⟩=>⟨m,h⟩))};rw[fP q];decide)
 | branch v rs h1 h2 h3 h4 =>refine⟨h1,by simp,by show (⟨#[]⟩:vB).size<=12;omega,h2,rfl,fun r e=>?_⟩;by_cases h0:r.size=0;{omega};exact Gf.size HI (h3 r e h0)
theorem UY(w:vW)(n:Ai)(h:Gi I n):vR 161 #[n.V] w true:=by
 have q:=h.one HI;cases h with
 | none=>exact ON w Db q.refs q.kind 202 rfl (vX 202) (fun w=>uL w)
 | leaf p v h2 h3 h4=>exact ON w _ q.refs q.kind 203 rfl (vX 203) (fun w=>wT w _ q.refs h2 h3 h4 (by unfold Ai.behindN Ai.refsL;rw[SC];rfl))
 | ext p r h2 h3 h4=>exact ON w _ q.refs q.kind 204 rfl (vX 204) (fun w=>xC HI w _ r q.refs h2 rfl (by(have e:Gt 0 (r :: Cv 15)=[(0,r)]:=by unfold Gt;rw[if_neg h3,SC]);unfold Ai.behindN;have A:Ai.refsL ⟨2,p,⟨#[]⟩,r :: Cv 15⟩=[(0,r)]:=e;rw[A];show Ai.ri _ 0+1=1;unfold Ai.ri;rw[A];rfl) rfl h4)
 | branch v rs h2 h3 h4 h5=>exact ON w _ q.refs q.kind 205 rfl (vX 205) (fun w=>juJ HI w _ q.refs rfl h3 h4 h5)
theorem GL(w:vW)(n:Ai)(h:Gi I n):vR 125 #[n.V] w (.tuple #[Cr n,.int .i64 0]):=by
 have J:=h.one HI;have q:=Jq (w.alloc (.cells n.cells.toArray 215)) _ n J.refs (Ae.new w _);have H:=Hd h;have X:=Hd J;clear h J;unfold Ai.V at q ⊢;unfold vR vQ;go_in;go_wp2_with (refine Gv 215 (.tmp 1) rfl rfl _ _ rfl q ?_)
 refine vC (UY HI _ n H.o) fun w1 A=>?_;have Z:=(Ae.new w (.cells n.cells.toArray 215)).keeps A kI;have e:=Jq w1 _ n X.o.refs Z;have K:=Hd (((Aa w).alloc _).trans A);unfold Ai.V at e;clear q A Z;go_wp2_with (refine Gv 215 (.tmp 1) rfl rfl _ _ rfl e ?_)
 refine vH (rC w1 n X.o) fun w2 A=>?_;have O:=Hd (K.o.trans A);clear e;go_wp2_with fail
 go_ret2
 exact⟨rfl,O.o⟩
end
theorem ZB:∀ (l:vN),l.length % 2=0->(∀ b∈l,b<=15)->Mg (Rd l)=l
 | [],_,_=>rfl
 | [x],h,_=>by simp at h
 | x :: y :: r,h,hb=>by
  have H:=hb x (bO ..);have J:=hb y (bM _ (bO ..));have A:=ZB r (by simp at h;omega) (fun b e=>hb b (bM _ (bM _ e)));show Mg ((x <<< 4 ||| y) :: Rd r)=_;unfold Mg at A ⊢;rw[dN,A];have K:x.toNat<=15:=fN.1 H;have O:y.toNat<=15:=fN.1 J
  have:∀ a b:Fin 16,((UInt8.ofNat a.1 <<< 4 ||| UInt8.ofNat b.1) >>> 4=UInt8.ofNat a.1)/\((UInt8.ofNat a.1 <<< 4 ||| UInt8.ofNat b.1) &&& 15=UInt8.ofNat b.1):=by decide
  have q:=this ⟨x.toNat,by omega⟩ ⟨y.toNat,by omega⟩;simp only[iR]at q;rw[q.1,q.2];rfl
theorem jwa(p:vB)(leaf:Bool)(hv:Dz p=true):Ci (Cs p leaf)=⟨(Ve p leaf++p.data.toList).toArray⟩:=by
 unfold Ci Cs Iz;rw[ZB]
 ·show (Ve p leaf++p.data.toList).length % 2=0;rw[bK,show p.data.toList.length=p.size from rfl];unfold Ve Mj;by_cases h:p.size % 2=1;{simp[h];omega};(have:(p.size % 2 == 1)=false:=by simpa using h);rw[this];simp;omega
 ·intro b hb;have hb:b∈Ve p leaf++p.data.toList:=hb;rcases bR.1 hb with hb | hb;{unfold Ve CR Mj at hb;rcases bT.1 hb with rfl | hb;{cases leaf <;> cases (p.size % 2 == 1) <;> decide};split at hb;{cases hb};rw[bL.1 hb];decide};exact of_decide_eq_true (fD.1 hv b hb)
theorem mB(w:vW)(p:vB)(leaf:Bool)(hs:p.size<=900000)(hv:Dz p=true):vR 231 #[Cs p leaf] w (.tuple #[p,leaf,true]):=by
 have q:=jwa p leaf hv;have J:=Wh p leaf;have K:∀ a:vU,(⟨(a :: p.data.toList).toArray⟩:vB).extract 1 (⟨(a :: p.data.toList).toArray⟩:vB).size=p:=fun a=>by have:=TK ⟨#[a]⟩ p;(have A:(⟨#[a]⟩:vB)++p=⟨(a :: p.data.toList).toArray⟩:=by rw[PM (_++p),dK,fK];rfl);rw[A]at this;exact this
 have O:∀ a b:vU,(⟨(a :: b :: p.data.toList).toArray⟩:vB).extract 2 (⟨(a :: b :: p.data.toList).toArray⟩:vB).size=p:=fun a b=>by have:=TK ⟨#[a,b]⟩ p;(have A:(⟨#[a,b]⟩:vB)++p=⟨(a :: b :: p.data.toList).toArray⟩:=by rw[PM (_++p),dK,fK];rfl);rw[A]at this;exact this
 by_cases ho:p.size % 2=1
 ·(have e:Mj p=true:=by unfold Mj;simpa using ho);(have H:Ve p leaf=[CR leaf true]:=by unfold Ve;rw[e];rfl);rw[H]at q;have:=jx3 w (Cs p leaf) vO leaf ⟨(CR leaf true :: p.data.toList).toArray⟩ q (by show 2<=p.data.toList.length+1;have:p.data.toList.length=p.size:=rfl;omega) (by cases leaf <;> rfl);rw[K]at this;exact this
 ·(have e:Mj p=false:=by unfold Mj;simpa using ho);(have H:Ve p leaf=[CR leaf false,0]:=by unfold Ve;rw[e];rfl);rw[H]at q;have:=jvy w (Cs p leaf) vO leaf ⟨(CR leaf false :: 0 :: p.data.toList).toArray⟩ q (by show 2<=p.data.toList.length+2;omega) (by cases leaf <;> rfl) rfl;rw[O]at this;exact this
end
section
open Go Go.RowKit
theorem Od{fn:Func}{ty:TypeId}(h:fn.results=#[.cell t ty,.tmp u]){a:Addr}(ha:tmps.getD t undef=.pointer (some a)){w:vW}{x:vV}(hx:tmps.getD u undef=x)(hl:(loadVar ty a).run P w=.ok v w):(results fn tmps).run P w=.ok (.tuple #[v,x]) w:=by
 have e:tmps[t]?.getD undef=.pointer (some a):=by simpa using ha
 have q:tmps[u]?.getD undef=x:=by simpa using hx
 simp[results,h,e,q,asAddr,bQ,Result.andThen,hl]
theorem Pm(b:Nat)(n:Ai)(hr:n.refs.length=16)(hB:Ae W b (.cells n.cells.toArray 215)):(loadVar 215 b).run Tryz.prog W=.ok n.V W:=by
 have:=Jq W b n hr hB
 simpa [Instr.loadAt,Instr.sureAddr,bQ,Result.andThen]using this
def Uk(k:Int)(p v:vB)(r:vB):List vV:=[.int .i64 k,p,v,r,.string ⟨#[]⟩,.string ⟨#[]⟩,.string ⟨#[]⟩,.string ⟨#[]⟩,.string ⟨#[]⟩,.string ⟨#[]⟩,.string ⟨#[]⟩,.string ⟨#[]⟩,.string ⟨#[]⟩,.string ⟨#[]⟩,.string ⟨#[]⟩,.string ⟨#[]⟩,.string ⟨#[]⟩,.string ⟨#[]⟩,.string ⟨#[]⟩]
theorem BY(k:Int)(p v r:vB):∀ x∈Uk k p v r,x.oneCell'=true:=by simp[Uk,Value.oneCell']
theorem jqz(v:vB)(hp:p.size<=900000)(hv:v.size<=100000)(hok:Dz p=true):vR 200 #[Ay (Cs p true),Ay v] w (.tuple #[(⟨1,p,v,Cv 16⟩:Ai).V,true]):=by
 obtain⟨q,h1,h2⟩:=JC (Cs p true) (kL (Wh p true))
 obtain⟨q',h3,h4⟩:=JC v vO
 have z1:(Ay (Cs p true)).size<=1000000000:=by have:=Wh p true;have:=Pw (Cs p true);omega
 have z2:(Ay v).size<=1000000000:=kL (Pw v)
 have H1:=Hd h1;have H2:=Hd h2;have H3:=Hd h3;have H4:=Hd h4;clear h1 h2 h3 h4;unfold vR vQ;go_in;go_wp2_with (refine Di Ac rfl rfl ?_;intro W1 H J)
 refine vC (KD _ _ q z1 H1.o) fun w2 A=>?_;rw[H2.o];have K:=H.keeps A kI;have O:=Hd (J.trans A);have X:=Hd K;clear H J A K;unfold Dg;simp only;go_wp2_with fail
 refine vC (mB _ p true hp hok) fun w3 A=>?_;have Z:=Hd (O.o.trans A);have a0:=Hd (X.o.keeps A kI);clear A O X;go_wp2_with fail
 refine vC (KD _ _ q' z2 H3.o) fun w4 A=>?_;rw[H4.o];have a1:=Hd (Z.o.trans A);have a2:=a0.o.keeps A kI;clear A Z a0;unfold Dg;simp only;go_wp2_with (refine Bv (vs:=Uk 1 p v ⟨#[]⟩) rfl rfl rfl rfl a2 rfl Ab (BY _ _ _ _) ?_;intro W5 a3 a4)
 refine bodyPost_ret (Od rfl rfl rfl (Pm W5 _ ⟨1,p,v,Cv 16⟩ rfl a3)) rfl ?_
 exact⟨rfl,a1.o.trans' a4 kJ⟩
theorem jtB(hp:p.size<=900000)(hok:Dz p=true):vR 200 #[Ay (Cs p false),r] w (.tuple #[(⟨2,p,⟨#[]⟩,r :: Cv 15⟩:Ai).V,true]):=by
 obtain⟨q,h1,h2⟩:=JC (Cs p false) (kL (Wh p false))
 have z1:(Ay (Cs p false)).size<=1000000000:=by have:=Wh p false;have:=Pw (Cs p false);omega
 have H1:=Hd h1;have H2:=Hd h2;clear h1 h2;unfold vR vQ;go_in;go_wp2_with (refine Di Ac rfl rfl ?_;intro W1 O X)
 refine vC (KD _ _ q z1 H1.o) fun w2 A=>?_;rw[H2.o];have Z:=O.keeps A kI;have a0:=Hd (X.trans A);have a1:=Hd Z;clear O X A Z;unfold Dg;simp only;go_wp2_with fail
 refine vC (mB _ p false hp hok) fun H A=>?_;have a4:=Hd (a0.o.trans A);have J:=Hd (a1.o.keeps A kI);clear A a0 a1;go_wp2_with (first |(refine Di Ac rfl rfl ?_;intro W5 a5 a2;refine Bv (vs:=Uk 2 p ⟨#[]⟩ ⟨#[]⟩) rfl rfl rfl rfl a5 rfl Ab (BY _ _ _ _) ?_;intro W6 K a3;have q3:W6.cell? ⟨H.heap.size,3,none⟩=some (.string ⟨#[]⟩):=K.cell (i:=3) vF;have f3:W6.frozen? ⟨H.heap.size,3,none⟩=false:=K.frozen;have a7:=Hd (K.set_same (i:=3) r)) |(refine Gv 215 (.tmp 10) rfl rfl _ _ rfl (Jq _ _ ⟨2,p,⟨#[]⟩,r :: Cv 15⟩ rfl a7.o) ?_;refine Bv (vs:=Ai.cells ⟨2,p,⟨#[]⟩,r :: Cv 15⟩) rfl rfl rfl rfl (((J.o.keeps a2 kI).keeps a3 (kL J.o.lt)).set_other (p:=⟨H.heap.size,3,none⟩) (by have:=J.o.lt;show w.heap.size≠H.heap.size;omega) r) rfl Ab (Ai.one _) ?_;intro W8 a8 a9))
 refine bodyPost_ret (Od rfl rfl rfl (Pm W8 _ ⟨2,p,⟨#[]⟩,r :: Cv 15⟩ rfl a8)) rfl ?_;have k1:Af H (W6.setCell ⟨H.heap.size,3,none⟩ r):=(a2.trans' a3 kJ).setCell (.inr (bP _)) _
 exact⟨rfl,(a4.o.trans k1).trans' a9 kJ⟩
def Oq(rs:vM)(v:vB):vM:=rs.map (fun r=>if r.size=0 then Ay ⟨#[]⟩else r)++[Ay v]
def Qv(rs:vM)(k:Nat):Ai:=⟨3,⟨#[]⟩,⟨#[]⟩,rs.take k++Cv (16 - k)⟩
theorem pQ(h:rs.length=16)(hk:k<=16):(Qv rs k).refs.length=16:=by simp[Qv,Cv,h];omega
theorem pR(h:rs.length=16)(hk:k < 16)(r:vB)(hr:rs[k]?=some r):(Qv rs k).cells.set (3+k) r=(Qv rs (k+1)).cells:=by
 have e:(rs.take k++Cv (16 - k)).set k r=rs.take (k+1)++Cv (16 - (k+1)):=by rw[dR _ _ (by simp[h];omega)];(have:k - (rs.take k).length=0:=by simp[h];omega);rw[this,show 16 - k=(16 - (k+1))+1 by omega];unfold Cv;rw[dV,dJ,cA,hr];simp
 unfold Ai.cells Qv;simp only;rw[show 3+k=k+1+1+1 by omega,dE,dE,dE, <-e,gO]
theorem juI(h:rs.length=16)(hk:k < 16)(r:vB)(hr:rs[k]?=some r)(h0:r.size=0):Qv rs (k+1)=Qv rs k:=by
 have e:r=⟨#[]⟩:=by obtain⟨⟨l⟩⟩:=r;cases l with| nil=>rfl| cons x y=>exact absurd h0 (iG _)
 unfold Qv;rw[cA,hr,e,show 16 - k=(16 - (k+1))+1 by omega];unfold Cv;rw[dV];simp
def jzl(w:vW)(g2 g4:Nat)(rs:vM)(i:vV)(wr:vW):Prop:=∃ k:Nat,k<=16/\i=.int .i64 k/\Af w wr/\Ae wr g2 (.cells Db.cells.toArray 215)/\Ae wr g4 (.cells (Qv rs k).cells.toArray 215)
theorem z_(a:vV)(rs:vM)(v:vB)(hr:rs.length=16)(hv:v.size<=100000)(hne:∀ r∈rs,r.size≠0->r≠Ay ⟨#[]⟩)(ha:Ic w a (Oq rs v)):vR 201 #[a] w (.tuple #[(⟨3,⟨#[]⟩,v,rs⟩:Ai).V,true]):=by
 have Z:(Oq rs v).length=17:=by simp[Oq,hr]
 rcases ha with⟨_,_,_,h0⟩ |⟨b,o,c,rfl,hb,hc,hcell⟩
 ·rw[h0]at Z;cases Z
 rw[Z]at hc ⊢;have b6:∀ (k:Nat) r,rs[k]?=some r->w.cell? ⟨b,o+k,none⟩=some (.string (if r.size=0 then Ay ⟨#[]⟩else r)):=fun k r hk=>hcell k _ (by unfold Oq;rw[cN (by rw[bU];exact (bI.1 hk).1),bY,hk];rfl)
 have b7:w.cell? ⟨b,o+16,none⟩=some (.string (Ay v)):=hcell 16 _ (by unfold Oq;rw[cO (by rw[bU];omega),bU,hr];rfl)
 obtain⟨q,h1,h2⟩:=JC v vO
 have z1:(Ay v).size<=1000000000:=kL (Pw v)
 have c5:=Hd b6;have c7:=Hd b7;have H1:=Hd h1;have H2:=Hd h2;have HR:=Hd hr;have c8:=Hd hne;clear b6 b7 h1 h2 Z hcell hr hne;unfold vR vQ;go_in;go_wp2_with (first |(refine Di Ac rfl rfl ?_;intro W3 b8 a3;refine Bv (vs:=Uk 3 ⟨#[]⟩ ⟨#[]⟩ ⟨#[]⟩) rfl rfl rfl rfl b8 rfl Ab (BY _ _ _ _) ?_;intro W4 H a4) |(refine Di Ac rfl rfl ?_;intro W1 a0 a5))
 have h4:Af w W4:=(a5.trans a3).trans' a4 (fun x hx e=>by have e:x=W1.heap.size:=e;have:=a5.size;omega);have h5:=(a0.keeps a3 kI).keeps a4 (kL a0.lt)
 obtain⟨J,b9⟩:∃ g,g=W1.heap.size:=⟨_,rfl⟩
 obtain⟨g2,c0⟩:∃ g,g=w.heap.size:=⟨_,rfl⟩
 have d2:g2 < J:=kL a0.lt
 have n2:w.heap.size<=g2:=vO
 rw[<-b9]at H ⊢;rw[<-c0]at h5 ⊢;have a7:=Hd h4;have K:=Hd H;have H5:=Hd h5;clear b9 c0 h4 h5 H a5 a0 b8 a3 a4;go_loopw [9] (fun i wr=>jzl w g2 J rs i wr) (fun i _=>16 - (intOf i).toNat)
 case atStart=>exact⟨0,by omega,rfl,a7.o,H5.o,K.o⟩
 case round =>obtain⟨k,hk,rfl,hE,c1,H⟩:=hrel;have HE:=Hd hE;have a8:=Hd c1;have K:=Hd H;clear hE c1 H;by_cases hlt:k < 16;{obtain⟨r,a1⟩:∃ r,rs[k]?=some r:=⟨_,bB (kL HR.o)⟩;have O:=Am (c5.o k r a1) HE.o;have b1:(k:Int) < 17:=vO;have b4:r∈rs:=bD a1;obtain⟨em,a9⟩:=vE (Ay ⟨#[]⟩);rw[<-a9]at O;have b0:=Hd a9;have c2:=Hd a1;clear a9 a1;by_cases h0:r.size=0;{rw[if_pos h0]at O;(have QX:=Hd O;clear O;go_wp2_with fail);(refine Ij [0,1,2,3,4,5] Af Aa Aq vY vY vY ?_;iterate 3 refine vK ?_);refine Dc ⟨b,o+k,none⟩ _ rfl (fun w2 h2=>Bq Ag rfl (Am (by exact QX.o) h2)) (vS ?_);refine Ls _ 29 #[.string ⟨#[]⟩] em rfl (fun w1=>Ex (vX 29) vY) (fun w1 h1=>by rw[b0.o];exact Rf w1 ⟨#[]⟩ vI) ?_;refine vS ?_;refine vK ?_;(refine Hv (fun w3 he=>?_);have X:=(Ap wr).trans he;have b2:=Hd (HE.o.trans X);have b3:=Hd (a8.o.keeps X kI);have A:=Hd (K.o.keeps X kI);clear he X;go_wp2_with fail);go_roundw;(case rel=>exact⟨k+1,by omega,by go_num,b2.o,b3.o,by rw[juI HR.o hlt r c2.o h0];exact A.o⟩);case measure=>exact vJ};rw[if_neg h0]at O;(have hq:(r.toList == em.toList)=false:=by rw[beq_eq_false_iff_ne,cC,cC];intro e;exact c8.o r b4 h0 (by rw[<-b0.o];exact ByteArray.ext (Array.ext' e)));(have QX:=Hd O;clear O;go_wp2_with fail);(refine Ij [0,1,2,3,4,5] Af Aa Aq vY vY vY ?_;iterate 3 refine vK ?_);refine Dc ⟨b,o+k,none⟩ _ rfl (fun w2 h2=>Bq Ag rfl (Am (by exact QX.o) h2)) (vS ?_);refine Ls _ 29 #[.string ⟨#[]⟩] em rfl (fun w1=>Ex (vX 29) vY) (fun w1 h1=>by rw[b0.o];exact Rf w1 ⟨#[]⟩ vI) ?_;refine vS ?_;refine vK ?_;refine Hv (fun w3 he=>?_);have X:=(Ap wr).trans he;have b2:=Hd (HE.o.trans X);have b3:=Hd (a8.o.keeps X kI);have A:=Hd (K.o.keeps X kI);have O:=Am QX.o X;obtain⟨old,q4⟩:∃ v,w3.cell? ⟨J,3+k,none⟩=some v:=⟨_,A.o.cellL (bB (by rw[Ai.cells_len _ (pQ HR.o hk)];omega))⟩;(have f4:w3.frozen? ⟨J,3+k,none⟩=false:=A.o.frozen;clear he X;go_wp2_with fail);go_roundw;(case rel =>refine⟨k+1,by omega,by go_num,b2.o.setCell (.inr (by show w.heap.size<=J;omega)) _,b3.o.set_other (p:=⟨J,3+k,none⟩) (by show g2≠J;omega) _,?_⟩;have:=A.o.set_same (i:=3+k) r;rw[show (Qv rs k).cells.toArray.setIfInBounds (3+k) r=((Qv rs k).cells.set (3+k) r).toArray by simp,pR HR.o hlt r c2.o]at this;exact this);case measure=>exact vJ};have b5:k=16:=vO;(subst b5;have O:=Am c7.o HE.o;go_wp2_with fail);(refine vC (KD _ _ q z1 H1.o) fun w4 hE=>?_;rw[H2.o];have a2:=K.o.keeps hE kI;have q4:w4.cell? ⟨J,2,none⟩=some (.string ⟨#[]⟩):=a2.cellL vF;have f4:w4.frozen? ⟨J,2,none⟩=false:=a2.frozen;have A:=Hd (a2.set_same (i:=2) v);have c3:=(a8.o.keeps hE kI).set_other (p:=⟨J,2,none⟩) (by show g2≠J;omega) v;have c9:=Hd c3;have a7:=Hd (HE.o.trans hE);have c4:Qv rs 16=⟨3,⟨#[]⟩,⟨#[]⟩,rs⟩:=by unfold Qv Cv;rw[cF (kL HR.o)];simp);(rw[c4]at A;have ec:(Ai.cells ⟨3,⟨#[]⟩,⟨#[]⟩,rs⟩).toArray.setIfInBounds 2 v=(Ai.cells ⟨3,⟨#[]⟩,v,rs⟩).toArray:=by simp[Ai.cells]);(rw[ec]at A;clear hE a2 c3 O ec c4;unfold Dg;simp only;go_wp2_with (first |(refine Gv 215 (.tmp 4) rfl rfl _ _ rfl (Jq _ _ ⟨3,⟨#[]⟩,v,rs⟩ HR.o A.o) ?_) |(refine Bv (vs:=Ai.cells ⟨3,⟨#[]⟩,v,rs⟩) rfl rfl rfl rfl c9.o (by rw[Ai.cells_len ⟨3,⟨#[]⟩,v,rs⟩ HR.o];rfl) (by rw[Ai.cells_len ⟨3,⟨#[]⟩,v,rs⟩ HR.o];exact Ab) (Ai.one _) ?_;intro W8 d0 d1)));refine bodyPost_ret (Od rfl rfl rfl (Pm W8 _ ⟨3,⟨#[]⟩,v,rs⟩ HR.o d0)) rfl ?_;exact⟨rfl,(a7.o.setCell (.inr (by show w.heap.size<=J;omega)) _).trans' d1 kJ⟩
theorem RF(hn:(Aw xs).size<=1048576):Fj xs≠Ay ⟨#[]⟩:=by
 intro e
 obtain⟨o,q,_⟩:=FG xs hn
 obtain⟨H,A,_⟩:=JK ⟨#[]⟩ vI
 rw[e,A]at q;cases q
theorem NE{a b:vB}(h:a≠b):(a.toList == b.toList)=false:=by
 rw[beq_eq_false_iff_ne,cC,cC];exact fun e=>h (ByteArray.ext (Array.ext' e))
theorem YL:s.extract s.size s.size=⟨#[]⟩:=by
 apply ByteArray.ext;apply Array.ext';simp
theorem IZ:(Fj xs).size<=(Aw xs).size+9:=by
 unfold Fj;rw[cM];have:=BV 192 (Aw xs).size;omega
theorem jqB:vR 160 #[Ay ⟨#[]⟩] w (.tuple #[Db.V,true]):=by
 obtain⟨em,q⟩:=vE (Ay ⟨#[]⟩)
 rw[<-q];have J:=Hd q;clear q;unfold vR vQ;go_in;go_wp2_with (refine Di Ac rfl rfl ?_;intro W1 A H)
 refine vC (Rf _ ⟨#[]⟩ vI) fun w2 K=>?_;rw[<-J.o];have O:=A.keeps K kI;have X:=Hd (H.trans K);clear A H K;go_wp2_with (refine Bv (vs:=Db.cells) rfl rfl rfl rfl O rfl Ab (Ai.one _) ?_;intro W8 Z a0)
 refine bodyPost_ret (Od rfl rfl rfl (Pm W8 _ Db rfl Z)) rfl ?_
 exact⟨rfl,X.o.trans' a0 kJ⟩
theorem Yk{o:Oper}{w:vW}{K:Act->vW->Prop}{Q:Exit->Act->vW->Prop}{T T2:TypeId}{old vs:List vV}(ho:o.op=.store T x y)(hx:a.eval x=.pointer (some b))(hy:a.eval y=.agg vs.toArray)
  (hB:Ae w b (.cells old.toArray T2)) (hl:old.length=vs.length) (hi:(P.info? T).map (·.size)=some vs.length) (h1:∀ v∈vs,v.oneCell'=true)
  (h:∀ W,Ae W b (.cells vs.toArray T2)->Ad (fun z=>z=b) w W->K (a.put o.dst undef) W):o.wp P a w K Q:=by
 refine wp_store_mid T x y ho b 0 vs.toArray hx hy (by have:=KP hB;rw[hl]at this;simpa using this) (by simpa using hi) (all_oneCell_toArray h1) (h _ ?_ (Ad.oneSetCells b vs 0 w))
 have:=Ae.setCells vs 0 w old hB vO
 rw[fS vO]at this;simpa using this
theorem jT(w:vW)(x y:vB)(n:Ai)(hr:n.refs.length=16)(hx:Xj x)(hy:Xj y)(hs:x.size+y.size<=1048576)
  (hc:∀ w,vR 200 #[x,y] w (.tuple #[n.V,true])) :
  vR 160 #[Fj [x,y]] w (.tuple #[n.V,true]):=by
 have A:(Aw [x,y]).size=x.size+y.size:=by rw[Ti,Ti,BZ];omega
 obtain⟨o,q,h2,h3⟩:=FG [x,y] vO
 have H:=IZ [x,y]
 obtain⟨em,J⟩:=vE (Ay ⟨#[]⟩)
 have a0:=NE (RF [x,y] vO)
 obtain⟨s,a1⟩:=vE (Fj [x,y])
 obtain⟨c,O⟩:=vE (Aw [x,y])
 rw[<-a1]at q h2 h3 H a0 ⊢;rw[<-O]at q h2 h3 H A;rw[<-J]at a0;have HS:=Hd (show s.size<=1000000000 by omega);have H1:=Hd q;have H3:=Hd h3;have b6:=Hd J;have a2:=Hd O;have b7:=Hd A;have H2:=Hd h2;have HR:=Hd hr;have HC:=Hd hc;clear q h2 h3 H a1 O J A hr hc;unfold vR vQ;go_in;go_wp2_with (refine Di Ac rfl rfl ?_;intro W1 a3 a4)
 refine vC (Rf _ ⟨#[]⟩ vI) fun w2 X=>?_;rw[<-b6.o];have a5:=Hd (a3.keeps X kI);have a7:=Hd (a4.trans X);clear a3 a4 X;go_wp2_with fail
 refine vC (GB _ s _ HS.o H1.o) fun w3 X=>?_;simp only;rw[H3.o,H2.o,YL];have a8:=Hd (a5.o.keeps X kI);have a9:=Hd (a7.o.trans X);clear X a7 a5;go_wp2_with fail
 rw[a2.o];refine (VY w3 [x,y] (by intro z hz;rcases bT.1 hz with rfl | hz;exact hx;rw[bL.1 hz];exact hy) (by rw[<-a2.o,b7.o];omega) (show 2<=1000000 by decide)).mono ?_;rintro e w4 ⟨v,rfl,hv⟩;have b0:=Hd (a8.o.keeps hv.ext kI);have b1:=Hd (a9.o.trans hv.ext);rcases hv.rd with⟨_,_,_,h0⟩ |⟨b,o2,c2,rfl,hb,hc,hcell⟩
 ·cases h0
 have QX:=Hd (hcell 0 x rfl);have QY:=Hd (hcell 1 y rfl);clear hv hcell a9 a8;go_wp2_with fail
 refine Kr [0,1,2,3,4,5,6,7,8,9,10] [9] Af Aa Aq vY vY vY ?_;iterate 2 refine vP ?_
 refine qL ⟨b,o2,none⟩ _ rfl (fun w1 q=>Bq Ag rfl (Am (by exact QX.o) q)) (vS ?_);iterate 2 refine vP ?_
 refine qL ⟨b,o2+1,none⟩ _ rfl (fun w1 q=>Bq Ag rfl (Am (by exact QY.o) q)) (vS ?_);refine Zn _ 200 #[x,y] (.tuple #[n.V,true]) rfl vY rfl (fun w1=>Ex (vX 200) vY) (fun w1 q=>HC.o w1) (vS ?_);iterate 2 refine vP ?_
 refine qH _ rfl (fun w5 Z K hK=>?_);have hX:=(Ap w4).trans Z;refine Yk (vs:=n.cells) rfl rfl rfl (b0.o.keeps hX kI) (by rw[n.cells_len HR.o];rfl) (by rw[n.cells_len HR.o];exact Ab) n.one ?_;intro W6 b2 b3;have b4:=Hd b2;have b5:=Hd ((b1.o.trans hX).trans' b3 kJ);clear Z hX b2 b3 QX QY b0 b1;refine vS ?_;refine hK _ _ ?_;clear hK K
 refine vP ?_
 refine qE (fun w7 Z=>?_);have b8:=Hd (b4.o.keeps Z kI);have b9:=Hd (b5.o.trans Z);clear Z b4 b5;go_wp2_with fail
 refine bodyPost_ret (Od rfl rfl rfl (Pm w7 _ n HR.o b8.o)) rfl ?_
 exact⟨rfl,b9.o⟩
theorem jqA(w:vW)(xs:vM)(n:Ai)(hr:n.refs.length=16)(hl:xs.length=17)(hx:∀ x∈xs,Xj x)(hs:(Aw xs).size<=1048576)
  (hc:∀ w v,Ic w v xs->vR 201 #[v] w (.tuple #[n.V,true])) :
  vR 160 #[Fj xs] w (.tuple #[n.V,true]):=by
 obtain⟨o,h1,h2,h3⟩:=FG xs hs
 have H:=IZ xs
 obtain⟨em,J⟩:=vE (Ay ⟨#[]⟩)
 have X:=NE (RF xs hs)
 obtain⟨s,Z⟩:=vE (Fj xs)
 obtain⟨c,K⟩:=vE (Aw xs)
 rw[<-Z]at h1 h2 h3 H X ⊢;rw[<-K]at h1 h2 h3 H hs;rw[<-J]at X;have HS:=Hd (show s.size<=1000000000 by omega);have H1:=Hd h1;have H3:=Hd h3;have b0:=Hd J;have a0:=Hd K;have b1:=Hd hs;have HL:=Hd hl;have H2:=Hd h2;have HR:=Hd hr;have HC:=Hd hc;clear h1 h2 h3 H Z K J hs hr hc hl;unfold vR vQ;go_in;go_wp2_with (refine Di Ac rfl rfl ?_;intro W1 a1 a2)
 refine vC (Rf _ ⟨#[]⟩ vI) fun w2 q=>?_;rw[<-b0.o];have a3:=Hd (a1.keeps q kI);have a4:=Hd (a2.trans q);clear a1 a2 q;go_wp2_with fail
 refine vC (GB _ s _ HS.o H1.o) fun w3 q=>?_;simp only;rw[H3.o,H2.o,YL];have a5:=Hd (a3.o.keeps q kI);have a7:=Hd (a4.o.trans q);clear q a4 a3;go_wp2_with fail
 rw[a0.o];refine (VY w3 xs hx (by rw[<-a0.o];have:=b1.o;omega) (kL HL.o)).mono ?_;rintro e w4 ⟨v,rfl,hv⟩;have a8:=Hd (a5.o.keeps hv.ext kI);have a9:=Hd (a7.o.trans hv.ext);have O:=hv.rd;rcases hv.sl with⟨ad,cp,rfl⟩;rw[HL.o]at O ⊢;have A:=HC.o w4 _ O;have b2:=Hd A;clear hv a7 a5 O A;go_wp2_with fail
 refine b2.o.mono ?_;rintro e w5 ⟨rfl,q⟩;have b3:=Hd (a9.o.trans q);have b4:=a8.o.keeps q kI;clear q a9 a8;unfold Ai.V;go_wp2_with (refine Bv (vs:=n.cells) rfl rfl rfl rfl b4 (by rw[n.cells_len HR.o];rfl) (by rw[n.cells_len HR.o];exact Ab) n.one ?_;intro W8 b5 b6)
 refine bodyPost_ret (Od rfl rfl rfl (Pm W8 _ n HR.o b5)) rfl ?_
 exact⟨rfl,b3.o.trans' b6 kJ⟩
end
section
open Go Go.RowKit
theorem nS:∀ (l:vM) (i:Nat) (m:vM) (j:Nat),i+l.length<=m.length ->
  ((Gt i l).foldl (fun l x=>l.set x.1 x.2) m)[j]?=if i<=j/\j < i+l.length/\(l.getD (j - i) ⟨#[]⟩).size≠0 then some (l.getD (j - i) ⟨#[]⟩)else m[j]?
 | [],i,m,j,_=>by
  rw[if_neg (fun h=>by have X:=h.1;have q:=h.2.1;rw[cY]at q;omega)];rfl
 | r :: l,i,m,j,h=>by
  unfold Gt;simp only[bS]at h ⊢;have J:∀ (H:vM),H.length=m.length->(∀ k,k≠i->H[k]?=m[k]?)->((Gt (i+1) l).foldl (fun l x=>l.set x.1 x.2) H)[j]?=if i<=j/\j < i+(l.length+1)/\((r :: l).getD (j - i) ⟨#[]⟩).size≠0/\j≠i then some ((r :: l).getD (j - i) ⟨#[]⟩)else H[j]?:=by
   intro H O K;rw[nS l (i+1) H j vO]
   by_cases hj:i+1<=j
   ·have e:(r :: l).getD (j - i) ⟨#[]⟩=l.getD (j - (i+1)) ⟨#[]⟩:=by
     rw[show j - i=(j - (i+1))+1 by omega,List.getD_cons_succ]
    rw[e]
    by_cases q:j < i+1+l.length/\(l.getD (j - (i+1)) ⟨#[]⟩).size≠0
    ·rw[if_pos ⟨hj,q.1,q.2⟩,if_pos ⟨by omega,by omega,q.2,by omega⟩]
    ·rw[if_neg (fun A=>q A.2),if_neg (fun A=>q ⟨by omega,A.2.2.1⟩)]
   ·rw[if_neg (fun A=>hj A.1),if_neg (fun A=>hj vO)]
  split
  ·rename_i h0
   rw[J m rfl (fun _ _=>rfl)]
   by_cases hj:j=i
   ·subst hj
    rw[if_neg (fun A=>A.2.2.2 rfl),if_neg (fun A=>A.2.2 (by rw[iY];exact h0))]
   ·by_cases q:i<=j/\j < i+(l.length+1)/\((r :: l).getD (j - i) ⟨#[]⟩).size≠0
    ·rw[if_pos ⟨q.1,q.2.1,q.2.2,hj⟩,if_pos q]
    ·rw[if_neg (fun A=>q ⟨A.1,A.2.1,A.2.2.1⟩),if_neg q]
  ·rename_i h0
   rw[dM,J (m.set i r) (by simp) (fun k K=>List.getElem?_set_ne (Ne.symm K))]
   by_cases hj:j=i
   ·subst hj
    rw[if_neg (fun A=>A.2.2.2 rfl),if_pos ⟨bP _,by omega,by rw[iY];exact h0⟩,iY];rw[iC vO];rfl
   ·rw[List.getElem?_set_ne (Ne.symm hj)]
    by_cases q:i<=j/\j < i+(l.length+1)/\((r :: l).getD (j - i) ⟨#[]⟩).size≠0
    ·rw[if_pos ⟨q.1,q.2.1,q.2.2,hj⟩,if_pos q]
    ·rw[if_neg (fun A=>q ⟨A.1,A.2.1,A.2.2.1⟩),if_neg q]
theorem MF(n:Ai)(hr:n.refs.length=16):Po n=Oq n.refs n.value:=by
 apply iV;intro j;unfold Po Zq Oq;rw[cF (bP _)];unfold Ai.refsL;have A:((Gt 0 n.refs).foldl (fun l x=>l.set x.1 x.2) (List.replicate 17 (Ay ⟨#[]⟩))).length=17:=by have:=YS n n.refsL.length;unfold Zq at this;rw[cF (bP _)]at this;exact this
 by_cases h16:j=16
 ·subst h16;rw[iC (by rw[A];omega),cO (by rw[bU,hr];omega),bU,hr];rfl
 ·rw[List.getElem?_set_ne vO,nS n.refs 0 _ j (by rw[hr,iE];omega),hr];by_cases hj:j < 16;{have q:j < n.refs.length:=vO;(rw[cN (by rw[bU];exact q),bY,bB q];have e:n.refs.getD (j - 0) ⟨#[]⟩=n.refs[j]:=by rw[bJ,Nat.sub_zero,bB q];rfl);rw[e];by_cases h0:n.refs[j].size=0;{rw[if_neg (fun H=>H.2.2 h0),List.getElem?_replicate,if_pos vO,fW,if_pos h0]};rw[if_pos ⟨by omega,by omega,h0⟩,fW,if_neg h0]};rw[if_neg (fun H=>hj vO),List.getElem?_replicate,if_neg vO,jB (by simp[hr];omega)]
section
variable {I:vB->Ai->Prop} (HI:Vp I)
include HI
theorem Gf.item{r:vB}(h:Gf I r):Xj r:=by
 rcases h with⟨h,h1,rfl⟩ |⟨m,hm⟩
 ·exact Yf h vO
 ·obtain⟨xs,rfl,e⟩:=HI.list r m hm;exact YP xs e
theorem Gf.ne{r:vB}(h:Gf I r):r≠Ay ⟨#[]⟩:=by
 rcases h with h |⟨m,hm⟩
 ·intro e;have:=h.size;rw[e]at this;exact absurd this vI
 ·obtain⟨xs,rfl,q⟩:=HI.list r m hm;exact RF xs q
theorem jyG(w:vW)(n:Ai)(h:Gi I n):vR 160 #[Cr n] w (.tuple #[n.V,true]):=by
 have J:=h.one HI;have K:=LS n J;cases h with
 | none=>exact jqB w
 | leaf p v h2 h3 h4 =>obtain⟨a,b,c⟩:=MD h2;have Z:=Wh p true;have z2:=Pw (Cs p true);have z3:=Pw v;simp only at b;exact jT w (Ay (Cs p true)) (Ay v) _ J.refs (Yf _ vO) (Yf _ vO) vO (fun w=>jqz w p v vO vO c)
 | ext p r h2 h3 h4 =>obtain⟨a,b,c⟩:=MD h2;have Z:=Wh p false;have z2:=Pw (Cs p false);simp only at b;have X:Gf I r:=h4.imp id (fun ⟨m,h,_⟩=>⟨m,h⟩);have z3:=X.size HI;exact jT w (Ay (Cs p false)) r _ J.refs (Yf _ vO) (X.item HI) vO (fun w=>jtB w p r vO c)
 | branch v rs h2 h3 h4 h5 =>(have e:Po ⟨3,⟨#[]⟩,v,rs⟩=Oq rs v:=MF _ h2;have q:∀ x∈Oq rs v,Xj x:=by intro x A;unfold Oq at A;rcases bR.1 A with A | A;{obtain⟨r,O,rfl⟩:=bC.1 A;by_cases H:r.size=0;{rw[if_pos H];exact Yf _ vI};rw[if_neg H];exact (h4 r O H).item HI};rw[bL.1 A];exact Yf _ vO);show vQ _ #[Fj (Po ⟨3,⟨#[]⟩,v,rs⟩)] w _;rw[e]at K ⊢;exact jqA w (Oq rs v) _ h2 (by simp[Oq,h2]) q vO (fun w a ha=>z_ w a rs v h2 vO (fun r O H=>(h4 r O H).ne HI) ha)
end
end
section
open Go Go.RowKit
theorem jqp(n:Ai)(h:GU n):(Cr n).size<=2000:=by
 unfold Cr;have H:=h.path;have J:=h.value;split
 ·exact bF (Pw _) vI
 ·split;{have q:=Wh n.path true;have A:=Pw (Cs n.path true);have K:=Pw n.value;have e:=IZ [Ay (Cs n.path true),Ay n.value];rw[Ti,Ti,BZ]at e;unfold CQ;omega};split;{have q:=Wh n.path false;have A:=Pw (Cs n.path false);have e:=IZ [Ay (Cs n.path false),n.refs.getD 0 ⟨#[]⟩];rw[Ti,Ti,BZ]at e;have O:(n.refs.getD 0 ⟨#[]⟩).size<=33:=h.each _ (by rw[bJ,bB (by rw[h.refs];omega)];exact fB _);unfold Qy;omega};have z:=LS n h;have e:=IZ (Po n);unfold CH;omega
theorem YY(n:Ai)(h:GU n)(hk:n.kind≠0):∃ xs,Cr n=Fj xs/\(Aw xs).size<=1048576:=by
 have A:=h.path;have H:=h.value;unfold Cr;rw[if_neg hk];split
 ·have e:=Wh n.path true;have q:=Pw (Cs n.path true);have J:=Pw n.value;exact⟨_,rfl,by rw[Ti,Ti,BZ];omega⟩
 ·split;{have e:=Wh n.path false;have q:=Pw (Cs n.path false);have K:(n.refs.getD 0 ⟨#[]⟩).size<=33:=h.each _ (by rw[bJ,bB (by rw[h.refs];omega)];exact fB _);exact⟨_,rfl,by rw[Ti,Ti,BZ];omega⟩};exact⟨_,rfl,kL (LS n h)⟩
section
variable {I:vB->Ai->Prop} (HI:Vp I)
include HI
theorem Zt(w:vW)(n:Ai)(h:Gi I n):vR 116 #[Cr n] w (.tuple #[n.V,.int .i64 0]):=by
 have h1:=h.one HI
 obtain⟨s,hs⟩:=vE (Cr n)
 rw[<-hs];have HS:=Hd hs;have H:=Hd h;have K:=Hd h1;have HL:=Hd (n.cells_len h1.refs);clear h h1 hs;unfold vR vQ;go_in;go_wp2_with (refine Di Ac rfl rfl ?_;intro W1 O X)
 rw[HS.o];refine vC (jyG HI W1 n H.o) fun w2 q=>?_;rw[<-HS.o];have a5:=Hd (O.keeps q kI);have a7:=Hd (X.trans q);clear O X q;unfold Ai.V;go_wp2_with (first |(refine Di Ac rfl rfl ?_;intro W3 Z a1;refine Bv (vs:=n.cells) rfl rfl rfl rfl Z (by rw[HL.o];rfl) (by rw[HL.o];exact Ab) n.one ?_;intro W4 A a2) |(refine Gv 215 (.tmp 4) rfl rfl _ _ rfl (Jq _ _ n K.o.refs A) ?_))
 have a3:Af w2 W4:=a1.trans' a2 kJ;refine vC (UY HI W4 n H.o) fun w5 q=>?_;have J:=A.keeps q kI;have a8:=Hd J;have HX:=Hd (a3.trans q);clear Z a1 A a2 a3 q;go_wp2_with (refine Gv 215 (.tmp 4) rfl rfl _ _ rfl (Jq _ _ n K.o.refs J) ?_)
 refine vC (rC w5 n K.o) fun w6 q=>?_;rw[<-HS.o];have a9:=a8.o.keeps q kI;have a4:=HX.o.trans q;have a0:=a5.o.keeps a4 kI;clear J q;go_wp2_with (first |(refine Gv 215 (.tmp 4) rfl rfl _ _ rfl (Jq _ _ n K.o.refs a9) ?_) |(refine Bv (vs:=n.cells) rfl rfl rfl rfl a0 (by rw[HL.o];rfl) (by rw[HL.o];exact Ab) n.one ?_;intro W8 b0 b1))
 refine bodyPost_ret (Od rfl rfl rfl (Pm W8 _ n K.o.refs b0)) rfl ?_
 exact⟨rfl,(a7.o.trans a4).trans' b1 kJ⟩
theorem jsF(w:vW)(n:Ai)(h:Gi I n)(hk:n.kind≠0)(hsm:(Cr n).size < 32):vR 144 #[Cr n] w (.tuple #[n.V,true]):=by
 have h1:=h.one HI
 obtain⟨s,hs⟩:=vE (Cr n)
 rw[<-hs]at hsm ⊢;have c1:¬(32:Int)<=(s.size:Int):=vO
 have c2:((n.kind:Int) == 0)=false:=by simp;omega
 have c3:¬(n.kind:Int)=0:=vO
 have HS:=Hd hs;have H:=Hd h;have H1:=Hd h1;have HL:=Hd (n.cells_len h1.refs);clear h h1 hs hk;unfold vR vQ;go_in;go_wp2_with (refine Di Ac rfl rfl ?_;intro W1 q A)
 rw[HS.o];refine vC (Zt HI W1 n H.o) fun w2 hE=>?_;rw[<-HS.o];have J:=q.keeps hE kI;have a0:=Hd (A.trans hE);clear q A hE;unfold Ai.V;go_wp2_with (first |(refine Di Ac rfl rfl ?_;intro W3 a1 K;refine Bv (vs:=n.cells) rfl rfl rfl rfl a1 (by rw[HL.o];rfl) (by rw[HL.o];exact Ab) n.one ?_;intro W4 O X;have q0:W4.cell? w2=some (.int .i64 (n.kind:Int)):=O.cellL vF;have Z:=(J.keeps K kI).keeps X (kL J.lt)) |(refine Gv 215 (.tmp 4) rfl rfl _ _ rfl (Jq _ _ n H1.o.refs O) ?_) |(refine Bv (vs:=n.cells) rfl rfl rfl rfl Z (by rw[HL.o];rfl) (by rw[HL.o];exact Ab) n.one ?_;intro W8 a2 a3))
 refine bodyPost_ret (Od rfl rfl rfl (Pm W8 _ n H1.o.refs a2)) rfl ?_;have a4:Af w2 W4:=K.trans' X kJ
 exact⟨rfl,(a0.o.trans a4).trans' a3 kJ⟩
end
def Bs:Nat->vB->Ai->Prop
 | 0,_,_=>False
 | d+1,r,m=>Gi (Bs d) m/\r=Cr m/\r.size < 32/\m.kind≠0
theorem Br:∀ d,Vp (Bs d)
 | 0=>⟨fun _ _ h=>h.elim,fun _ _ h=>h.elim,fun _ _ h=>h.elim,fun _ _ h=>h.elim,fun _ _ h=>h.elim,fun _ _ h=>h.elim⟩
 | d+1=>by
  have A:=Br d;have H:∀ r m,Bs (d+1) r m->∃ xs,r=Fj xs/\(Aw xs).size<=1048576:=fun r m ⟨J,K,O,X⟩=>by
   obtain⟨xs,e,q⟩:=YY m (J.one A) X
   exact⟨xs,K.trans e,q⟩
  refine⟨fun r m h=>(h.1.one A).refs,fun r m h=>h.2.2.1,fun r m h=>?_,H,fun r m h=>?_,fun r m h w=>?_⟩
  ·obtain⟨xs,e,q⟩:=H r m h
   obtain⟨o,Z,_⟩:=FG xs q
   rw[e]
   have:=(UV Z).1
   omega
  ·obtain⟨xs,e,q⟩:=H r m h
   rw[e];exact aX xs q
  ·obtain⟨J,K,O,X⟩:=h
   rw[K]at O ⊢;exact jsF A w m J X O
end
