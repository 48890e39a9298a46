/- Lemmas. -/
import Derived.Test.YtgmmpefjadjajaaGreatDoorPa0
import Derived.Test.YtgmmpefjadjajaaGreatDoorPa11
import Derived.RangeFuncCalls
namespace Go.Proofs.YtgmmpefjadjajaaGreatDoor
open Go.Proofs.Tryz
set_option linter.unusedSimpArgs false
set_option linter.unusedVariables false
set_option maxRecDepth 100000
set_option maxHeartbeats 16000000
variable (xs:vM)(W w:vW)(p r s:vB)(n:Ai){a:Act}{af:Array Edge}{lb vs tmps:Array vV}{k b:Nat}{x y:Operand}{g:Option (Nat × Bool)}{d:Option Tmp}{P:Program}{pos:String}{t u:Tmp}{rs:vM}{v:vV}
section
open Go Go.RowKit
attribute [local go_sem] Oper.semAt_some
theorem Ac:∀ w,(Instr.alloc 215 true (.tuple #[])).run prog w=.ok w (w.alloc (.cells Cv.cells.toArray 215)):=λw=>by kernel_rfl
theorem Ai.one(n:Ai):∀ v∈n.cells,v.oneCell'=true:=by
 intro v e;simp only[Ai.cells,bU,bC]at e;rcases e with rfl|rfl|rfl|⟨_,_,rfl⟩<;>rfl
def AG(r:vB):Prop:=∃ h:vB,h.size=32/\r=Av h
theorem AG.size{r:vB}(h:AG r):r.size=33:=by
 obtain⟨h,e,rfl⟩:=h
 unfold Av;rw[if_neg vO,cO,e];rfl
theorem AG.known{r:vB}(hh:AG r):r.size<=1000000000/\∃ h q,Dx r=some q/\Vx r q=some h:=by
 have O:=hh.size
 obtain⟨h,A,e⟩:=hh
 obtain⟨q,H,K⟩:=GI h A
 exact⟨by omega,h,q,by rw[e];exact H,by rw[e];exact K⟩
structure Wj(I:vB->Ai->Prop):Prop where
 refs:∀ r m,I r m->m.refs.length=16
 small:∀ r m,I r m->r.size<32
 pos:∀ r m,I r m->r.size≠0
 list:∀ r m,I r m->∃ xs,r=Fo xs/\(Aw xs).size<=1048576
 nohash:∀ r m,I r m->∃ q,Dx r=some q/\Vx r q=none
 inl:∀ r m,I r m->∀ w,vR 138 #[.string r] w (.tuple #[m.V,true])
section
variable {I:vB->Ai->Prop} (HI:Wj I)
def Gj(I:vB->Ai->Prop)(r:vB):Prop:=AG r\/∃ m,I r m
include HI
theorem xS(w:vW)(r:vB)(hr:Gj I r):vR 234 #[r] w true:=by
 rcases hr with hh|⟨m,hm⟩
 ·obtain⟨hs,h,q,H,K⟩:=hh.known;(have O:=J H;have X:=J K;unfold vR vQ;go_in;go_wp2_with fail);(refine vC (Xc w r q vO O.o) λw1 Z=>?_;rw[X.o];have HE:=J Z;unfold Cw;simp only;go_wp2);go_ret;exact⟨rfl,HE.o⟩
 ·have hs:=HI.small r m hm;obtain⟨q,H,K⟩:=HI.nohash r m hm;(have HC:=J (HI.inl r m hm);have A:=J (HI.refs r m hm);have O:=J H;have X:=J K;unfold vR vQ;go_in;go_wp2_with fail);(refine vC (Xc w r q vO O.o) λw1 Z=>?_;rw[X.o];have HE:=J Z;unfold Cw;simp only;go_wp2_with fail);(refine vC (HC.o w1) λw2 a0=>?_;have a1:=J (HE.o.trans a0);unfold Ai.V;go_wp2_with (refine Di Ac rfl rfl ?_;intro W3 hB a2;refine Bt (vs:=m.cells) rfl rfl rfl rfl hB (by rw[m.z3 A.o];rfl) (by rw[m.z3 A.o];exact Ab) m.one ?_;intro W4 a5 a3));have a4:Af w2 W4:=a2.O a3 kJ;go_ret;exact⟨rfl,a1.o.trans a4⟩
theorem xN(w:vW)(n:Ai)(r:vB)(hr:n.refs.length=16)(hp:n.y2 1=true)(h0:n.value=⟨#[]⟩)(hb:n.y5=1)(O:n.refs[0]?=some r)(hm:AG r\/∃ m,I r m/\m.kind=3):vR 204 #[n.V] w true:=by
 have a0:n.path.size<=1000000:=by simp only[Ai.y2,cI,decide_eq_true_eq]at hp;omega
 have X:=SH w n hr;have e2:n.cells[2]?=some (.string ⟨#[]⟩):=by rw[<-h0];rfl
 have e3:n.cells[3]?=some (.string r):=by show (n.refs.map Value.string)[0]?=_;rw[bY,O];rfl
 have HP:=J hp;have HB:=J hb;have E3:=J e3;unfold Ai.V at X ⊢;unfold vR vQ;go_in;go_wp2_with (refine Gz 301 (.tmp 1) rfl rfl _ _ rfl X ?_)
 refine vC (rR _ n hr 1 a0) λw1 A=>?_;rw[HP.o];have B1:=(Ae.new w (.cells n.cells.toArray 301)).Z A kI;have q2:=B1.z1 e2;have K:=EC w1 _ n hr B1;have a1:=J (((Aa w).alloc _).trans A);have a2:=J B1;unfold Ai.V at K;go_wp2_with (refine Gz 301 (.tmp 1) rfl rfl _ _ rfl K ?_)
 refine vC (lY _ n hr) λw2 A=>?_;rw[HB.o];have B2:=a2.o.Z A kI;have H:=J (a1.o.trans A);have q3:=B2.z1 E3.o;have a3:=J B2;rcases hm with hh|⟨m,hm,hk⟩
 ·obtain⟨hs,h,q,O,h4⟩:=hh.known;(have H3:=J O;have H4:=J h4;go_wp2_with fail);(refine vC (Xc w2 r q hs H3.o) λw3 A=>?_;rw[H4.o];have HE:=J (H.o.trans A);unfold Cw;simp only;go_wp2);go_ret;exact⟨rfl,HE.o⟩
 ·have hs:=HI.small r m hm;obtain⟨q,O,h4⟩:=HI.nohash r m hm;(have HC:=J (HI.inl r m hm);have Z:=J (HI.refs r m hm);have H3:=J O;have H4:=J h4;have HK:=J hk;go_wp2_with fail);(refine vC (Xc w2 r q vO H3.o) λw3 A=>?_;rw[H4.o];have B3:=a3.o.Z A kI;have HE:=J (H.o.trans A);have b1:=B3.z1 E3.o;unfold Cw;simp only;go_wp2_with fail);(refine vC (HC.o w3) λw4 a4=>?_;have H:=J (HE.o.trans a4);unfold Ai.V;go_wp2_with (refine Di Ac rfl rfl ?_;intro W3 hB a5;refine Bt (vs:=m.cells) rfl rfl rfl rfl hB (by rw[m.z3 Z.o];rfl) (by rw[m.z3 Z.o];exact Ab) m.one ?_;intro W4 a7 a8;have q0:W4.cell? w4=some (.int .i64 3):=a7.z1 (by show some (Value.int .i64 (m.kind:Int))=_;rw[HK.o];rfl)));have a9:Af w4 W4:=a5.O a8 kJ;have b0:=J (H.o.trans a9);go_ret;exact⟨rfl,b0.o⟩
structure JE(w:World)(gn gr gf gi:Nat)(n:Ai)(c:Nat)(k:Nat)(W:World):Prop where
 ext:Af w W
 res:Ae W gr (.cells #[false] 4)
 node:Ae W gn (.cells n.cells.toArray 301)
 full:Ae W gf (.cells #[((c+k:Nat):Int)] 3)
 it:Ae W gi (.cells n.cells.toArray 301)
theorem C9(w:vW)(n:Ai)(hr:n.refs.length=16)(hp:n.path=⟨#[]⟩)(h8:n.value.size<=80)(hm:∀ r∈n.refs,r.size≠0->Gj I r)(h2:2<=min n.value.size 1+n.z8.length):vR 205 #[n.V] w true:=by
 have e1:n.cells[1]?=some (.string ⟨#[]⟩):=by rw[<-hp];rfl
 have e2:n.cells[2]?=some (.string n.value):=rfl;have c1:¬(80:Int)<(n.value.size:Int):=vO
 obtain⟨c,hc⟩:=vE (min n.value.size 1)
 have a2:min (n.value.size:Int) 1=(c:Int):=vO
 rw[<-hc]at h2;have HC:=J a2;have H2:=J h2;clear hp hc a2 h2;refine (callsIn_wide (n:=0)).1 ?_;refine callsIn_of_wp_marks func205 rfl trivial ?_ rfl;simp only[ntmps205,cQ,bQ,cZ,Nat.reduceAdd,Nat.reduceSub,cV,cU,dC,cY,cL,cS]
 obtain⟨W0,A⟩:=vE (((w.alloc (.cells n.cells.toArray 301)).alloc (.cells #[false] 4)).alloc (.cells #[.int .i64 (min (n.value.size:Int) 1)] 3))
 have B0:Ae W0 w (.cells n.cells.toArray 301):=by rw[A];exact ((Ae.new w _).alloc _).alloc _
 have B1:Ae W0 ((w:Nat)+1) (.cells #[false] 4):=by rw[A];have:=(Ae.new (w.alloc (.cells n.cells.toArray 301)) (.cells #[false] 4)).alloc (.cells #[.int .i64 (min (n.value.size:Int) 1)] 3);rwa [bJ]at this
 have B2:Ae W0 ((w:Nat)+1+1) (.cells #[(c:Int)] 3):=by rw[A, <-HC.o];have:=Ae.new ((w.alloc (.cells n.cells.toArray 301)).alloc (.cells #[false] 4)) (.cells #[.int .i64 (min (n.value.size:Int) 1)] 3);rwa [bJ,bJ]at this
 have E0:Af w W0:=by rw[A];exact (((Aa w).alloc _).alloc _).alloc _
 have a3:(W0:Nat)=↑w+3:=by rw[A];simp
 have Z:=EC W0 _ n hr B0;rw[A]at Z;have a4:=J A;have a5:=J E0;have a7:=J B0;have a8:=J B1;have a9:=J B2;have b0:=J a3;clear A E0 B0 B1 B2 a3;unfold Ai.V at Z ⊢;gi_wp2_with (refine BC rfl 301 (.tmp 1) rfl _ _ rfl Z ?_)
 refine⟨trivial,rfl,CallsIn.mono (callsIn_wide.2 (PW _ n)) ?_⟩
 rintro e w1 ⟨rfl,O,X⟩;rw[<-a4.o]at O X ⊢;rw[b0.o]at O ⊢;have b1:JE w (w:Nat) ((w:Nat)+1) ((w:Nat)+1+1) ((w:Nat)+3) n c 0 w1:=⟨a5.o.trans X,a8.o.Z X kI,a7.o.Z X kI,a9.o.Z X kI,O⟩;have b5:=O.lt;have b2:=J b1;have b6:c<=1:=kL HC.o
 clear O X Z b1 a4 a5 a7 a8 a9 b0;gi_wp2_with fail
 refine' EL (N:=n.z8.length) (gf:=210) (lb:=#[((w:Nat)+3:)]) rfl (vX 210) (OU ((w:Nat)+3) n hr) (λk=>rfl) (JE w (w:Nat) ((w:Nat)+1) ((w:Nat)+1+1) ((w:Nat)+3) n c) (λ_ _ _=>False) (λk W W' h e=>⟨h.ext.trans e,h.res.Z e kI,h.node.Z e kI,h.full.Z e kI,h.it.Z e kI⟩) (λ_ _ _ _ h _=>h) (λk W h=>h.it) (λk W o h=>⟨h.ext.putObj (.inr vO) _,h.res.z5 vO _,h.node.z5 vO _,h.full.z5 vO _,h.it.z5 vO _⟩) (λ_ _ _ _ h=>h) b2.o _ ?hassign ?hbody ?hdone ?hstop
 case hassign =>intro l j W K _ hK;rw[QZ,FG];simp only[dM,dG];gi_wp2;exact hK
 case hbody =>intro l k W hk h b7;have q:=h.full.cell (i:=0) (v:=.int .i64 ((c+k:Nat):Int)) vF;have f:W.frozen? ((w:Nat)+1+1:)=false:=h.full.frozen;have a1:=RC n hr hk;have a0:=hm _ (bD a1.2.1) a1.2.2;have b4:k<16:=bE hk (by(have:∀ (l:vM) (i:Nat),(Gy i l).length<=l.length:=by intro l;induction l with| nil=>intro i;simp[Gy]| cons x r ih=>intro i;unfold Gy;split<;>simp<;>have:=ih (i+1)<;>omega);have:=this n.refs 0;rw[hr]at this;exact this);(have H:=J h;have HM:=J a0;clear h a1 a0;clear q f;gi_wp2_with fail);refine⟨trivial,rfl,CallsIn.mono (CallsIn.inRound l (callsIn_wide.2 (xS HI W _ HM.o))) ?_⟩;rintro e w5 ⟨rfl,X⟩;have q:=(H.o.full.Z X kI).cell (i:=0) (v:=.int .i64 ((c+k:Nat):Int)) vF;have f:w5.frozen? ((w:Nat)+1+1:)=false:=(H.o.full.Z X kI).frozen;have HE:=J X;clear X;gi_wp2;rw[show (c:Int)+(k:Int)+1=((c+(k+1):Nat):Int) by omega];have K5:Ad (λb=>b=(w:Nat)+1+1) w5 (w5.setCell ((w:Nat)+1+1:) ((c+(k+1):Nat):Int)):=Ad.z4 w5 ((w:Nat)+1+1:) _;have K6:Ad (λb=>b=(w:Nat)+1+1) W (w5.setCell ((w:Nat)+1+1:) ((c+(k+1):Nat):Int)):=(HE.o.mono kZ).trans K5;refine⟨K6.mono λx hx e=>?_,?_⟩;{have e:x=_:=e;show x≠_/\x≠_;omega};exact⟨H.o.ext.O K6 λx hx e=>by omega,H.o.res.Z K6 vO,H.o.node.Z K6 vO,((H.o.full.Z HE.o kI).z2 (i:=0) _),H.o.it.Z K6 vO⟩
 case hdone =>intro W h hd;have q:=h.full.cell (i:=0) (v:=.int .i64 ((c+n.z8.length:Nat):Int)) vF;have q2:=h.res.cell (i:=0) (v:=.bool false) vF;have f2:W.frozen? ((w:Nat)+1:)=false:=h.res.frozen;have c5:(2:Int)<=(c:Int)+(n.z8.length:Int):=kL H2.o;have H:=J h;have HD:=J hd;clear h hd;gi_wp2;have B2:=(H.o.res.z2 (i:=0) true);have BD:=HD.o.z6 (p:=((w:Nat)+1:)) (by show (w1:Nat)≠↑w+1;omega) true;have hX:Af w ((W.setCell ((w:Nat)+1:) true).putObj w1 (.deferred none)):=(H.o.ext.setCell (.inr (by show (w:Nat)<=↑w+1;omega)) _).putObj (.inr vO) _;obtain⟨W3,b3⟩:=vE (W.setCell ((w:Nat)+1:) true);rw[<-b3]at B2 BD hX ⊢;have c2:(W3.putObj w1 (.deferred none)).cell? ((w:Nat)+1:)=some (.bool true):=(B2.z5 vO _).cell (i:=0) (by simp);refine⟨by simp,.inl ⟨_,_,rfl,run_takeDeferred BD,?_⟩⟩;exact⟨true,by simp[results,results205,go_sem,c2],rfl,hX⟩
 case hstop=>intro c k W _ _ h;exact h.elim
end
end
section
open Go Go.RowKit
theorem i3{w:vW}{f:FuncId}{args:Array Operand}{ats:Array TypeId}{ty:TypeId}(hx:a.eval x=.func (.func f) #[] lb)(eg:∀ args w,(callFunc f args).run P w=.ok (.enter f args) w)(hv:args.map a.eval=vs):(execOp a.eval ⟨d,.call { callee:=.value x,args:=args,argTypes:=ats },ty,pos,af,g⟩).run P w=.ok (.enter f (vs++lb)) w:=by
 subst hv;simp[execOp,resolve,hx,Deferred.ofValue,invoke,bS,Result.andThen,cT,eg]
theorem ZR{w:vW}{f:FuncId}{ats:Array TypeId}{ty:TypeId}(hx:a.eval x=.func (.func f) #[] #[])(eg:∀ args w,(callFunc f args).run P w=.ok (.enter f args) w)(hv:a.eval y=v):(execOp a.eval ⟨d,.call { callee:=.value x,args:=#[y],argTypes:=ats },ty,pos,af,g⟩).run P w=.ok (.enter f #[v]) w:=by
 have:=i3 (P:=P) (w:=w) (d:=d) (ats:=ats) (ty:=ty) (pos:=pos) (af:=af) (g:=g) (args:=#[y]) hx eg rfl
 simpa [hv]using this
theorem Nz:∀ w,(Instr.alloc 349 true (.tuple #[])).run prog w=.ok w (w.alloc (.cells [Value.nilFunc,.nilFunc,.nilFunc,.nilFunc].toArray 349)):=λw=>by kernel_rfl
theorem Sz:(prog.info? 349).map (·.size)=some 4:=vY
theorem Ny:∀ w,(Instr.alloc 351 true (.tuple #[])).run prog w=.ok w (w.alloc (.cells [Value.nilFunc,.nilFunc,.nilFunc,.nilFunc].toArray 351)):=λw=>by kernel_rfl
theorem Sy:(prog.info? 351).map (·.size)=some 4:=vY
theorem Oo:prog.underlying 212=some (.int .i64):=vY
theorem Wp:(isAgg 348).run prog w=.ok false w:=vY
theorem Wo:(isAgg 350).run prog w=.ok false w:=vY
theorem De{t:TypeId}(h:∀ w,(isAgg t).run P w=.ok false w){w:vW}{a:Addr}(hc:w.cell? a=some v):(Instr.loadAt t a).run P w=.ok v w:=by
 simp[Instr.loadAt,Instr.sureAddr,loadVar,bS,h w,Result.andThen,hc]
def Pb(f:FuncId):vV:=.func (.func f) #[] #[]
theorem PH(w:vW)(n:Ai)(hr:n.refs.length=16)(hk:n.kind<=3)(f:FuncId)(hf:[Pb 202,Pb 203,Pb 204,Pb 205][n.kind]?=some (Pb f))
  (eg:∀ args w,(callFunc f args).run prog w=.ok (.enter f args) w) (hc:∀ w,vR f #[n.V] w true) :
  vR 160 #[n.V] w true:=by
 have e0:n.cells[0]?=some (.int .i64 (n.kind:Int)):=rfl;have c0:¬(n.kind:Int)<0:=vO
 have c1:¬(3:Int)<(n.kind:Int):=vO
 have c2:(n.kind:Int)<4:=vO
 have HF:=J hf;have HC:=J hc;have HR:=J hr;unfold Ai.V;unfold vR vQ;go_in;go_wp2_with (refine Di Nz rfl rfl ?_;intro W1 O q;refine Bt (vs:=[Pb 202,Pb 203,Pb 204,Pb 205]) rfl rfl rfl rfl O rfl Sz (by simp[Pb,Value.oneCell']) ?_;intro K X A;have q0:K.cell? w=some (.int .i64 (n.kind:Int)):=(((Ae.new w (.cells n.cells.toArray 215)).Z q kI).Z A (by rw[bJ];omega)).z1 e0)
 have qt:K.cell? ⟨(w:Nat)+1,n.kind,none⟩=some (Pb f):=by have:=X.z1 HF.o;rwa [bJ]at this
 have Z:=((Ae.new w (.cells n.cells.toArray 215)).Z q kI).Z A (by rw[bJ];omega);have QT:=J qt;have Q0:=J q0;have a0:=J Z;have HE:=J ((((Aa w).alloc (.cells n.cells.toArray 215)).trans q).O A λx hx e=>by have e:x=(w.alloc (.cells n.cells.toArray 215)).heap.size:=e;rw[bJ]at e;omega);refine Hs [0,1,2,3,4,5,6] Af Aa Ap vY vY vY ?_
 refine vK ?_
 refine Db w _ rfl (λw2 H=>Bv Oo rfl (Am (by exact Q0.o) H)) (vS ?_)
 refine vK ?_
 refine Db ⟨(w:Nat)+1,n.kind,none⟩ _ rfl (λw2 H=>De Wp (Am (by exact QT.o) H)) (vS ?_);refine Db w _ rfl (λw2 H=>Ka w2 _ n HR.o (a0.o.Z ((Ao K).trans H) kI)) (vS ?_);refine Ma _ f #[n.V] true rfl (λw1=>ZR rfl eg rfl) (λw1 h1=>HC.o w1) (vS ?_)
 refine vK ?_
 refine Hi (λw3 he=>?_);go_wp2
 go_ret
 exact⟨rfl,HE.o.trans ((Ao K).trans he)⟩
theorem PX(w:vW)(n:Ai)(hr:n.refs.length=16)(hk:n.kind<=3)(S:vB)(f:FuncId)(hf:[Pb 206,Pb 207,Pb 208,Pb 209][n.kind]?=some (Pb f))
  (eg:∀ args w,(callFunc f args).run prog w=.ok (.enter f args) w) (hc:∀ w,vR f #[n.V] w S) :
  vR 161 #[n.V] w S:=by
 have e0:n.cells[0]?=some (.int .i64 (n.kind:Int)):=rfl;have c2:(n.kind:Int)<4:=vO
 have HF:=J hf;have HC:=J hc;have HR:=J hr;unfold Ai.V;unfold vR vQ;go_in;go_wp2_with (refine Di Ny rfl rfl ?_;intro W1 O q;refine Bt (vs:=[Pb 206,Pb 207,Pb 208,Pb 209]) rfl rfl rfl rfl O rfl Sy (by simp[Pb,Value.oneCell']) ?_;intro K X A)
 have q0:K.cell? w=some (.int .i64 (n.kind:Int)):=(((Ae.new w (.cells n.cells.toArray 301)).Z q kI).Z A (by rw[bJ];omega)).z1 e0;have qt:K.cell? ⟨(w:Nat)+1,n.kind,none⟩=some (Pb f):=by have:=X.z1 HF.o;rwa [bJ]at this
 have Z:=((Ae.new w (.cells n.cells.toArray 301)).Z q kI).Z A (by rw[bJ];omega);have QT:=J qt;have Q0:=J q0;have a0:=J Z;have HE:=J ((((Aa w).alloc (.cells n.cells.toArray 301)).trans q).O A λx hx e=>by have e:x=(w.alloc (.cells n.cells.toArray 301)).heap.size:=e;rw[bJ]at e;omega);simp only[Act.put,gA,dM,dG,bJ];refine Hs [0,1,2,3,4,5,6] Af Aa Ap vY vY vY ?_
 refine vK ?_
 refine Db w _ rfl (λw2 H=>Bv Oo rfl (Am (by exact Q0.o) H)) (vS ?_)
 refine vK ?_
 refine Db ⟨(w:Nat)+1,n.kind,none⟩ _ rfl (λw2 H=>De Wo (Am (by exact QT.o) H)) (vS ?_);refine Db w _ rfl (λw2 H=>EC w2 _ n HR.o (a0.o.Z ((Ao K).trans H) kI)) (vS ?_);refine Ma _ f #[n.V] S rfl (λw1=>ZR rfl eg rfl) (λw1 h1=>HC.o w1) (vS ?_)
 refine vK ?_
 refine Hi (λw3 he=>?_);go_wp2
 go_ret
 exact⟨rfl,HE.o.trans ((Ao K).trans he)⟩
structure CG(n:Ai):Prop where
 refs:n.refs.length=16
 kind:n.kind<=3
 path:n.path.size<=12
 value:n.value.size<=80
 valid:Dy n.path=true
 each:∀ r∈n.refs,r.size<=33
def Cu(n:Ai):vB:=if n.kind=0 then Av ()else if n.kind=1 then CD n else if n.kind=2 then Py n else AF n
theorem O_(h:CG n):∀ x∈Nt n,x.size<=89:=by
 have A:∀ (l:List (Nat × vB)) (m:vM),(∀ x∈l,x.2.size<=89)->(∀ x∈m,x.size<=89)->∀ x∈l.foldl (λl x=>l.set x.1 x.2) m,x.size<=89:=by intro l;induction l with| nil=>intro m _ H;exact H| cons y r ih =>intro m q H;rw[dQ];refine ih _ (λx e=>q x (bM _ e)) (λx e=>?_);rcases fR e with e|rfl;{exact H x e};exact q y (bN ..)
 intro x e;unfold Nt at e;rcases fR e with e|rfl
 ·refine A _ _ (λy K=>?_) (λy K=>?_) x e;{have q:=(MX n.refs 0 y (gE K)).2.2.1;have:=h.each y.2 (bD q);omega};rw[fG K];have:=Mk ();have O:(⟨#[]⟩:vB).size=0:=rfl;omega
 ·have:=Mk n.value;have:=h.value;omega
theorem WB(c:Nat):∀ (l:vM),(∀ x∈l,x.size<=c)->(Aw l).size<=c*l.length
 |[],_=>by rw[Zz];omega
 |x::r,h=>by
  rw[Qn];have q:=h x (bN ..);have A:=WB c r (λy e=>h y (bM _ e));rw[bQ,Nat.mul_add];omega
theorem MW(h:CG n):(Aw (Nt n)).size<=1513:=by
 have:=WB 89 _ (O_ n h)
 have e:(Nt n).length=17:=by unfold Nt;rw[iB,JS]
 rw[e]at this;omega
theorem rS(h:CG n):vR 161 #[n.V] w (Cu n):=by
 have A:=h.kind;have X:=h.path;have Z:=h.value
 by_cases k0:n.kind=0
 ·(have e:Cu n=Av ():=by unfold Cu;rw[if_pos k0]);rw[e];exact PX w n h.refs A _ 206 (by rw[k0];rfl) (vX 206) (λw=>k3 w n)
 ·by_cases k1:n.kind=1;{(have e:Cu n=CD n:=by unfold Cu;rw[if_neg k0,if_pos k1]);rw[e];exact PX w n h.refs A _ 207 (by rw[k1];rfl) (vX 207) (λw=>j3 w n vO vO h.valid)};by_cases k2:n.kind=2;{(have e:Cu n=Py n:=by unfold Cu;rw[if_neg k0,if_neg k1,if_pos k2]);rw[e];(obtain⟨r,H,q⟩:∃ r H,n.refs=r::H:=by cases hx:n.refs with| nil=>have:=h.refs;rw[hx]at this;cases this| cons r H=>exact⟨r,H,rfl⟩);have K:=h.each r (by rw[q];exact bN ..);exact PX w n h.refs A _ 208 (by rw[k2];rfl) (vX 208) (λw=>s7 w n vO r (by rw[q];rfl) vO h.valid)};have O:n.kind=3:=vO;(have e:Cu n=AF n:=by unfold Cu;rw[if_neg k0,if_neg k1,if_neg k2]);rw[e];exact PX w n h.refs A _ 209 (by rw[O];rfl) (vX 209) (λw=>G_ w n h.refs vO (kL (MW n h)))
theorem X9(hs:s.size<=1000000)(leaf:Bool)(x:vB)(hx:Bw s=x)(h2:2<=x.size)(h0:x[0].toNat=if leaf then 3 else 1):vR 231 #[s] w (.tuple #[x.extract 1 x.size,leaf,true]):=by
 unfold vR vQ;go_in;go_wp2_with fail
 refine vC (Zc w s hs) λw1 q=>?_;rw[hx];have e:=J q;have A:=Sf (s:=x) vO;have K:(0:Int)<(x.size:Int):=vO
 have O:(1:Int)<=(x.size:Int):=vO
 cases leaf with
 |true =>(have H:(x[0].toNat:Int)=3:=by simp at h0;omega);(go_wp2_with fail);exact bodyPost_ret (v:=.tuple #[x.extract 1 x.size,true,true]) vY rfl ⟨rfl,e.o⟩
 |false =>(have H:(x[0].toNat:Int)=1:=by simp at h0;omega);(go_wp2_with fail);exact bodyPost_ret (v:=.tuple #[x.extract 1 x.size,false,true]) vY rfl ⟨rfl,e.o⟩
theorem G4(hs:s.size<=1000000)(leaf:Bool)(x:vB)(hx:Bw s=x)(h2:2<=x.size)(h0:x[0].toNat=if leaf then 2 else 0)(h1:x[1].toNat=0):vR 231 #[s] w (.tuple #[x.extract 2 x.size,leaf,true]):=by
 unfold vR vQ;go_in;go_wp2_with fail
 refine vC (Zc w s hs) λw1 q=>?_;rw[hx];have e:=J q;have A:=Sf (s:=x) vO;have O:(0:Int)<(x.size:Int):=vO
 have X:(1:Int)<(x.size:Int):=vO
 have Z:(2:Int)<=(x.size:Int):=vO
 have H:(x[1].toNat:Int)=0:=vO
 cases leaf with
 |true =>(have K:(x[0].toNat:Int)=2:=by simp at h0;omega);(go_wp2_with fail);exact bodyPost_ret (v:=.tuple #[x.extract 2 x.size,true,true]) vY rfl ⟨rfl,e.o⟩
 |false =>(have K:(x[0].toNat:Int)=0:=by simp at h0;omega);(go_wp2_with fail);exact bodyPost_ret (v:=.tuple #[x.extract 2 x.size,false,true]) vY rfl ⟨rfl,e.o⟩
end
section
open Go Go.RowKit
def Dd(k:Nat):vM:=List.replicate k ()
inductive Gn (I:vB->Ai->Prop):Ai->Prop
 |none:Gn I Cv
 |leaf (p v:vB):(⟨1,p,v,Dd 16⟩:Ai).y2 0=true->0<v.size->v.size<=80->Gn I ⟨1,p,v,Dd 16⟩
 |ext (p r:vB):(⟨2,p,⟨#[]⟩,r::Dd 15⟩:Ai).y2 1=true->r.size≠0->(AG r\/∃ m,I r m/\m.kind=3)->Gn I ⟨2,p,⟨#[]⟩,r::Dd 15⟩
 |branch (v:vB) (rs:vM):rs.length=16->v.size<=80->(∀ r∈rs,r.size≠0->Gj I r)->2<=min v.size 1+(Gy 0 rs).length->Gn I ⟨3,⟨#[]⟩,v,rs⟩
theorem MV{n:Ai}{k:Nat}(h:n.y2 k=true):k<=n.path.size/\n.path.size<=12/\Dy n.path=true:=by
 simp only[Ai.y2,cI,decide_eq_true_eq]at h;exact⟨h.1.1,h.1.2,h.2⟩
theorem SY:∀ (k i:Nat),Gy i (Dd k)=[]
 |0,_=>rfl
 |k+1,i=>by
  unfold Dd;rw[fC];unfold Gy;rw[if_pos (show (⟨#[]⟩:vB).size=0 from rfl)];exact SY k (i+1)
section
variable {I:vB->Ai->Prop} (HI:Wj I)
include HI
theorem Gj.size{r:vB}(h:Gj I r):r.size<=33:=by
 rcases h with h|⟨m,h⟩
 ·rw[h.size];omega
 ·have:=HI.small r m h;omega
theorem Gn.one{n:Ai}(h:Gn I n):CG n:=by
 have A:(⟨#[]⟩:vB).size=0:=rfl;cases h with
 |none=>exact⟨rfl,by decide,by decide,by decide,rfl,λr e=>by rw[fG e];decide⟩
 |leaf p v h1 h2 h3 =>obtain⟨a,b,c⟩:=MV h1;exact⟨by simp[Dd],by simp,b,h3,c,λr e=>by rw[fG e];decide⟩
 |ext p r h1 h2 h3 =>(obtain⟨a,b,c⟩:=MV h1;refine⟨by simp[Dd],by simp,b,by show (⟨#[]⟩:vB).size<=80;omega,c,λx q=>?_⟩;rcases bU.1 q with rfl|q;{exact Gj.size HI (h3.imp id λ⟨m,h,_⟩=>⟨m,h⟩)};rw[fG q];decide)
 |branch v rs h1 h2 h3 h4 =>refine⟨h1,by simp,by show (⟨#[]⟩:vB).size<=12;omega,h2,rfl,λr e=>?_⟩;by_cases h0:r.size=0;{omega};exact Gj.size HI (h3 r e h0)
theorem VR(w:vW)(n:Ai)(h:Gn I n):vR 160 #[n.V] w true:=by
 have q:=h.one HI;cases h with
 |none=>exact PH w Cv q.refs q.kind 202 rfl (vX 202) (λw=>uN w)
 |leaf p v h2 h3 h4=>exact PH w _ q.refs q.kind 203 rfl (vX 203) (λw=>wG w _ q.refs h2 h3 h4 (by unfold Ai.y5 Ai.z8;rw[SY];rfl))
 |ext p r h2 h3 h4=>exact PH w _ q.refs q.kind 204 rfl (vX 204) (λw=>xN HI w _ r q.refs h2 rfl (by(have e:Gy 0 (r::Dd 15)=[(0,r)]:=by unfold Gy;rw[if_neg h3,SY]);unfold Ai.y5;have A:Ai.z8 ⟨2,p,⟨#[]⟩,r::Dd 15⟩=[(0,r)]:=e;rw[A];show Ai.ri _ 0+1=1;unfold Ai.ri;rw[A];rfl) rfl h4)
 |branch v rs h2 h3 h4 h5=>exact PH w _ q.refs q.kind 205 rfl (vX 205) (λw=>C9 HI w _ q.refs rfl h3 h4 h5)
theorem IG(w:vW)(n:Ai)(h:Gn I n):vR 125 #[n.V] w (.tuple #[Cu n,qa]):=by
 have X:=h.one HI;have q:=Ka (w.alloc (.cells n.cells.toArray 215)) _ n X.refs (Ae.new w _);have H:=J h;have Z:=J X;unfold Ai.V at q ⊢;unfold vR vQ;go_in;go_wp2_with (refine Gz 215 (.tmp 1) rfl rfl _ _ rfl q ?_)
 refine vC (VR HI _ n H.o) λw1 A=>?_;have B1:=(Ae.new w (.cells n.cells.toArray 215)).Z A kI;have e:=Ka w1 _ n Z.o.refs B1;have K:=J (((Aa w).alloc _).trans A);unfold Ai.V at e;go_wp2_with (refine Gz 215 (.tmp 1) rfl rfl _ _ rfl e ?_)
 refine vC (rS w1 n Z.o) λw2 A=>?_;have O:=J (K.o.trans A);go_wp2
 go_ret2
 exact⟨rfl,O.o⟩
end
theorem aD:∀ (l:vN),l.length % 2=0->(∀ b∈l,b<=15)->Mp (Rs l)=l
 |[],_,_=>rfl
 |[x],h,_=>by simp at h
 |x::y::r,h,hb=>by
  have H:=hb x (bN ..);have K:=hb y (bM _ (bN ..));have A:=aD r (by simp at h;omega) (λb e=>hb b (bM _ (bM _ e)));show Mp ((x <<< 4 ||| y)::Rs r)=_;unfold Mp at A ⊢;rw[dJ,A];have O:x.toNat<=15:=fS.1 H;have X:y.toNat<=15:=fS.1 K
  have:∀ a b:Fin 16,((UInt8.ofNat a.1 <<< 4 ||| UInt8.ofNat b.1) >>> 4=UInt8.ofNat a.1)/\((UInt8.ofNat a.1 <<< 4 ||| UInt8.ofNat b.1) &&& 15=UInt8.ofNat b.1):=by decide
  have q:=this ⟨x.toNat,by omega⟩ ⟨y.toNat,by omega⟩;simp only[iV]at q;rw[q.1,q.2];rfl
theorem O1(p:vB)(leaf:Bool)(hv:Dy p=true):Bw (Cl p leaf)=⟨(Vu p leaf++p.data.toList).toArray⟩:=by
 unfold Bw Cl Jh;rw[aD]
 ·show (Vu p leaf++p.data.toList).length % 2=0;rw[bK,show p.data.toList.length=p.size from rfl];unfold Vu Ms;by_cases h:p.size % 2=1;{simp[h];omega};(have:(p.size % 2 == 1)=false:=by simpa using h);rw[this];simp;omega
 ·intro b hb;have hb:b∈Vu p leaf++p.data.toList:=hb;rcases bR.1 hb with hb|hb;{unfold Vu DI Ms at hb;rcases bU.1 hb with rfl|hb;{cases leaf<;>cases (p.size % 2 == 1)<;>decide};split at hb;{cases hb};rw[bG.1 hb];decide};exact of_decide_eq_true (fJ.1 hv b hb)
theorem mW(w:vW)(p:vB)(leaf:Bool)(hs:p.size<=900000)(hv:Dy p=true):vR 231 #[Cl p leaf] w (.tuple #[p,leaf,true]):=by
 have q:=O1 p leaf hv;have K:=Ux p leaf;have O:∀ a:vU,(⟨(a::p.data.toList).toArray⟩:vB).extract 1 (⟨(a::p.data.toList).toArray⟩:vB).size=p:=λa=>by have:=UC ⟨#[a]⟩ p;(have A:(⟨#[a]⟩:vB)++p=⟨(a::p.data.toList).toArray⟩:=by rw[QF (_++p),dN,fO];rfl);rw[A]at this;exact this
 have X:∀ a b:vU,(⟨(a::b::p.data.toList).toArray⟩:vB).extract 2 (⟨(a::b::p.data.toList).toArray⟩:vB).size=p:=λa b=>by have:=UC ⟨#[a,b]⟩ p;(have A:(⟨#[a,b]⟩:vB)++p=⟨(a::b::p.data.toList).toArray⟩:=by rw[QF (_++p),dN,fO];rfl);rw[A]at this;exact this
 by_cases ho:p.size % 2=1
 ·(have e:Ms p=true:=by unfold Ms;simpa using ho);(have H:Vu p leaf=[DI leaf true]:=by unfold Vu;rw[e];rfl);rw[H]at q;have:=X9 w (Cl p leaf) vO leaf ⟨(DI leaf true::p.data.toList).toArray⟩ q (by show 2<=p.data.toList.length+1;have:p.data.toList.length=p.size:=rfl;omega) (by cases leaf<;>rfl);rw[O]at this;exact this
 ·(have e:Ms p=false:=by unfold Ms;simpa using ho);(have H:Vu p leaf=[DI leaf false,0]:=by unfold Vu;rw[e];rfl);rw[H]at q;have:=G4 w (Cl p leaf) vO leaf ⟨(DI leaf false::0::p.data.toList).toArray⟩ q (by show 2<=p.data.toList.length+2;omega) (by cases leaf<;>rfl) rfl;rw[X]at this;exact this
end
section
open Go Go.RowKit
theorem Ot{fn:Func}{ty:TypeId}(h:fn.results=#[.cell t ty,.tmp u]){a:Addr}(ha:tmps.getD t undef=.pointer (some a)){w:vW}{x:vV}(hx:tmps.getD u undef=x)(hl:(loadVar ty a).run P w=.ok v w):(results fn tmps).run P w=.ok (.tuple #[v,x]) w:=by
 have e:tmps[t]?.getD undef=.pointer (some a):=by simpa using ha
 have q:tmps[u]?.getD undef=x:=by simpa using hx
 simp[results,h,e,q,asAddr,bS,Result.andThen,hl]
theorem Qb(b:Nat)(n:Ai)(hr:n.refs.length=16)(hB:Ae W b (.cells n.cells.toArray 215)):(loadVar 215 b).run prog W=.ok n.V W:=by
 have:=Ka W b n hr hB
 simpa [Instr.loadAt,Instr.sureAddr,bS,Result.andThen]using this
def Uy(k:Int)(p v:vB)(r:vB):List vV:=[.int .i64 k,p,v,r,(),(),(),(),(),(),(),(),(),(),(),(),(),(),()]
theorem CS(k:Int)(p v r:vB):∀ x∈Uy k p v r,x.oneCell'=true:=by simp[Uy,Value.oneCell']
theorem g2(v:vB)(hp:p.size<=900000)(hv:v.size<=100000)(hok:Dy p=true):vR 200 #[Av (Cl p true),Av v] w (.tuple #[(⟨1,p,v,Dd 16⟩:Ai).V,true]):=by
 obtain⟨q,h1,h2⟩:=JU (Cl p true) (kL (Ux p true))
 obtain⟨q',h3,h4⟩:=JU v vO
 have z1:(Av (Cl p true)).size<=1000000000:=by have:=Ux p true;have:=Mk (Cl p true);omega
 have z2:(Av v).size<=1000000000:=kL (Mk v)
 have H1:=J h1;have H2:=J h2;have H3:=J h3;have H4:=J h4;unfold vR vQ;go_in;go_wp2_with (refine Di Ac rfl rfl ?_;intro W1 H K)
 refine vC (LA _ _ q z1 H1.o) λw2 A=>?_;rw[H2.o];have O:=H.Z A kI;have X:=J (K.trans A);have Z:=J O;unfold Cw;simp only;go_wp2_with fail
 refine vC (mW _ p true hp hok) λw3 A=>?_;have a0:=J (X.o.trans A);have a1:=J (Z.o.Z A kI);go_wp2_with fail
 refine vC (LA _ _ q' z2 H3.o) λw4 A=>?_;rw[H4.o];have a2:=J (a0.o.trans A);have a3:=a1.o.Z A kI;unfold Cw;simp only;go_wp2_with (refine Bt (vs:=Uy 1 p v ()) rfl rfl rfl rfl a3 rfl Ab (CS _ _ _ _) ?_;intro W5 a4 a5)
 refine bodyPost_ret (Ot rfl rfl rfl (Qb W5 _ ⟨1,p,v,Dd 16⟩ rfl a4)) rfl ?_
 exact⟨rfl,a2.o.O a5 kJ⟩
theorem w7(hp:p.size<=900000)(hok:Dy p=true):vR 200 #[Av (Cl p false),r] w (.tuple #[(⟨2,p,⟨#[]⟩,r::Dd 15⟩:Ai).V,true]):=by
 obtain⟨q,h1,h2⟩:=JU (Cl p false) (kL (Ux p false))
 have z1:(Av (Cl p false)).size<=1000000000:=by have:=Ux p false;have:=Mk (Cl p false);omega
 have H1:=J h1;have H2:=J h2;unfold vR vQ;go_in;go_wp2_with (refine Di Ac rfl rfl ?_;intro W1 a0 a1)
 refine vC (LA _ _ q z1 H1.o) λw2 O=>?_;rw[H2.o];have a2:=a0.Z O kI;have a3:=J (a1.trans O);have a4:=J a2;unfold Cw;simp only;go_wp2_with fail
 refine vC (mW _ p false hp hok) λA O=>?_;have a5:=J (a3.o.trans O);have H:=J (a4.o.Z O kI);go_wp2_with (first|(refine Di Ac rfl rfl ?_;intro W5 a7 X;refine Bt (vs:=Uy 2 p () ()) rfl rfl rfl rfl a7 rfl Ab (CS _ _ _ _) ?_;intro W6 K Z;have q3:W6.cell? ⟨↑A,3,none⟩=some (.string ⟨#[]⟩):=K.cell (i:=3) vF;have f3:W6.frozen? ⟨↑A,3,none⟩=false:=K.frozen;have a8:=J (K.z2 (i:=3) r))|(refine Gz 215 (.tmp 10) rfl rfl _ _ rfl (Ka _ _ ⟨2,p,⟨#[]⟩,r::Dd 15⟩ rfl a8.o) ?_;refine Bt (vs:=Ai.cells ⟨2,p,⟨#[]⟩,r::Dd 15⟩) rfl rfl rfl rfl (((H.o.Z X kI).Z Z (kL H.o.lt)).z6 (p:=⟨↑A,3,none⟩) (by have:=H.o.lt;show (w:Nat)≠↑A;omega) r) rfl Ab (Ai.one _) ?_;intro W8 a9 b0))
 refine bodyPost_ret (Ot rfl rfl rfl (Qb W8 _ ⟨2,p,⟨#[]⟩,r::Dd 15⟩ rfl a9)) rfl ?_;have k1:Af A (W6.setCell ⟨↑A,3,none⟩ r):=(X.O Z kJ).setCell (.inr (bO _)) _
 exact⟨rfl,(a5.o.trans k1).O b0 kJ⟩
def Pd(rs:vM)(v:vB):vM:=rs.map (λr=>if r.size=0 then Av ()else r)++[Av v]
def Rk(rs:vM)(k:Nat):Ai:=⟨3,⟨#[]⟩,⟨#[]⟩,rs.take k++Dd (16-k)⟩
theorem qF(h:rs.length=16)(hk:k<=16):(Rk rs k).refs.length=16:=by simp[Rk,Dd,h];omega
theorem qG(h:rs.length=16)(hk:k<16)(r:vB)(hr:rs[k]?=some r):(Rk rs k).cells.set (3+k) r=(Rk rs (k+1)).cells:=by
 have e:(rs.take k++Dd (16-k)).set k r=rs.take (k+1)++Dd (16-(k+1)):=by rw[dV _ _ (by simp[h];omega)];(have:k-(rs.take k).length=0:=by simp[h];omega);rw[this,show 16-k=(16-(k+1))+1 by omega];unfold Dd;rw[fC,dM,cB,hr];simp
 unfold Ai.cells Rk;simp only;rw[show 3+k=k+1+1+1 by omega,dG,dG,dG, <-e,gV]
theorem C8(h:rs.length=16)(hk:k<16)(r:vB)(hr:rs[k]?=some r)(h0:r.size=0):Rk rs (k+1)=Rk rs k:=by
 have e:r=⟨#[]⟩:=by obtain⟨⟨l⟩⟩:=r;cases l with| nil=>rfl| cons x y=>exact absurd h0 (iM _)
 unfold Rk;rw[cB,hr,e,show 16-k=(16-(k+1))+1 by omega];unfold Dd;rw[fC];simp
def jzF(w:vW)(g2 g4:Nat)(rs:vM)(i:vV)(wr:vW):Prop:=∃ k:Nat,k<=16/\i=.int .i64 k/\Af w wr/\Ae wr g2 (.cells Cv.cells.toArray 215)/\Ae wr g4 (.cells (Rk rs k).cells.toArray 215)
theorem d4(a:vV)(rs:vM)(v:vB)(hr:rs.length=16)(hv:v.size<=100000)(hne:∀ r∈rs,r.size≠0->r≠Av ())(ha:Ie w a (Pd rs v)):vR 201 #[a] w (.tuple #[(⟨3,⟨#[]⟩,v,rs⟩:Ai).V,true]):=by
 have a0:(Pd rs v).length=17:=by simp[Pd,hr]
 rcases ha with⟨_,_,_,h0⟩|⟨b,o,c,rfl,hb,hc,hcell⟩
 ·rw[h0]at a0;cases a0
 rw[a0]at hc ⊢;have b7:∀ (k:Nat) r,rs[k]?=some r->w.cell? ⟨b,o+k,none⟩=some (.string (if r.size=0 then Av ()else r)):=λk r hk=>hcell k _ (by unfold Pd;rw[cJ (by rw[bT];exact (bI.1 hk).1),bY,hk];rfl)
 have b8:w.cell? ⟨b,o+16,none⟩=some (.string (Av v)):=hcell 16 _ (by unfold Pd;rw[cN (by rw[bT];omega),bT,hr];rfl)
 obtain⟨q,h1,h2⟩:=JU v vO
 have z1:(Av v).size<=1000000000:=kL (Mk v)
 have c7:=J b7;have c8:=J b8;have H1:=J h1;have H2:=J h2;have HR:=J hr;have c9:=J hne;clear b7 b8 h1 h2 a0 hcell hr hne;unfold vR vQ;go_in;go_wp2_with (first|(refine Di Ac rfl rfl ?_;intro W3 b9 a4;refine Bt (vs:=Uy 3 () () ()) rfl rfl rfl rfl b9 rfl Ab (CS _ _ _ _) ?_;intro W4 H a5)|(refine Di Ac rfl rfl ?_;intro W1 a1 a7))
 have h4:Af w W4:=(a7.trans a4).O a5 (λx hx e=>by have e:x=(W1:Nat):=e;have:=a7.size;omega);have h5:=(a1.Z a4 kI).Z a5 (kL a1.lt)
 obtain⟨K,c0⟩:∃ g,g=(W1:Nat):=⟨_,rfl⟩
 obtain⟨g2,c1⟩:∃ g,g=(w:Nat):=⟨_,rfl⟩
 have d3:g2<K:=kL a1.lt
 have n2:(w:Nat)<=g2:=vO
 rw[<-c0]at H ⊢;rw[<-c1]at h5 ⊢;have a8:=J h4;have O:=J H;have H5:=J h5;clear c0 c1 h4 h5 H a7 a1 b9 a4 a5;go_loopw [9] (λi wr=>jzF w g2 K rs i wr) (λi _=>16-(intOf i).toNat)
 case atStart=>exact⟨0,by omega,rfl,a8.o,H5.o,O.o⟩
 case round =>obtain⟨k,hk,rfl,hE,c2,H⟩:=hrel;have HE:=J hE;have a9:=J c2;have O:=J H;clear hE c2 H;by_cases hlt:k<16;{obtain⟨r,a2⟩:∃ r,rs[k]?=some r:=⟨_,bB (kL HR.o)⟩;have X:=Am (c7.o k r a2) HE.o;have b1:(k:Int)<17:=vO;have b5:r∈rs:=bD a2;obtain⟨em,b0⟩:=vE (Av ());rw[<-b0]at X;have b2:=J b0;have c3:=J a2;clear b0 a2;by_cases h0:r.size=0;{rw[if_pos h0]at X;(have QX:=J X;clear X;go_wp2_with fail);(refine Hs [0,1,2,3,4,5] Af Aa Ap vY vY vY ?_;iterate 3 refine vK ?_);refine Db ⟨b,o+k,none⟩ _ rfl (λw2 h2=>Bv Ag rfl (Am (by exact QX.o) h2)) (vS ?_);refine Ma _ 28 #[()] em rfl (λw1=>Fb (vX 28) vY) (λw1 h1=>by rw[b2.o];exact Rt w1 () vI) ?_;refine vS ?_;refine vK ?_;(refine Hi (λw3 he=>?_);have Z:=(Ao wr).trans he;have b3:=J (HE.o.trans Z);have b4:=J (a9.o.Z Z kI);have A:=J (O.o.Z Z kI);clear he Z;go_wp2);go_roundw;(case rel=>exact⟨k+1,by omega,by go_num,b3.o,b4.o,by rw[C8 HR.o hlt r c3.o h0];exact A.o⟩);case measure=>exact vJ};rw[if_neg h0]at X;(have hq:(r.toList == em.toList)=false:=by rw[beq_eq_false_iff_ne,cA,cA];intro e;exact c9.o r b5 h0 (by rw[<-b2.o];exact ByteArray.ext (Array.ext' e)));(have QX:=J X;clear X;go_wp2_with fail);(refine Hs [0,1,2,3,4,5] Af Aa Ap vY vY vY ?_;iterate 3 refine vK ?_);refine Db ⟨b,o+k,none⟩ _ rfl (λw2 h2=>Bv Ag rfl (Am (by exact QX.o) h2)) (vS ?_);refine Ma _ 28 #[()] em rfl (λw1=>Fb (vX 28) vY) (λw1 h1=>by rw[b2.o];exact Rt w1 () vI) ?_;refine vS ?_;refine vK ?_;refine Hi (λw3 he=>?_);have Z:=(Ao wr).trans he;have b3:=J (HE.o.trans Z);have b4:=J (a9.o.Z Z kI);have A:=J (O.o.Z Z kI);have X:=Am QX.o Z;obtain⟨old,q4⟩:∃ v,w3.cell? ⟨K,3+k,none⟩=some v:=⟨_,A.o.z1 (bB (by rw[Ai.z3 _ (qF HR.o hk)];omega))⟩;(have f4:w3.frozen? ⟨K,3+k,none⟩=false:=A.o.frozen;clear he Z;go_wp2);go_roundw;(case rel =>refine⟨k+1,by omega,by go_num,b3.o.setCell (.inr (by show (w:Nat)<=K;omega)) _,b4.o.z6 (p:=⟨K,3+k,none⟩) (by show g2≠K;omega) _,?_⟩;have:=A.o.z2 (i:=3+k) (.string r);rw[show (Rk rs k).cells.toArray.setIfInBounds (3+k) (.string r)=((Rk rs k).cells.set (3+k) (.string r)).toArray by simp,qG HR.o hlt r c3.o]at this;exact this);case measure=>exact vJ};have b6:k=16:=vO;(subst b6;have X:=Am c8.o HE.o;go_wp2_with fail);(refine vC (LA _ _ q z1 H1.o) λw4 hE=>?_;rw[H2.o];have a3:=O.o.Z hE kI;have q4:w4.cell? ⟨K,2,none⟩=some (.string ⟨#[]⟩):=a3.z1 vF;have f4:w4.frozen? ⟨K,2,none⟩=false:=a3.frozen;have A:=J (a3.z2 (i:=2) (.string v));have c4:=(a9.o.Z hE kI).z6 (p:=⟨K,2,none⟩) (by show g2≠K;omega) (.string v);have d0:=J c4;have a8:=J (HE.o.trans hE);have c5:Rk rs 16=⟨3,⟨#[]⟩,⟨#[]⟩,rs⟩:=by unfold Rk Dd;rw[cG (kL HR.o)];simp);(rw[c5]at A;have ec:(Ai.cells ⟨3,⟨#[]⟩,⟨#[]⟩,rs⟩).toArray.setIfInBounds 2 (.string v)=(Ai.cells ⟨3,⟨#[]⟩,v,rs⟩).toArray:=by simp[Ai.cells]);(rw[ec]at A;clear hE a3 c4 X ec c5;unfold Cw;simp only;go_wp2_with (first|(refine Gz 215 (.tmp 4) rfl rfl _ _ rfl (Ka _ _ ⟨3,⟨#[]⟩,v,rs⟩ HR.o A.o) ?_)|(refine Bt (vs:=Ai.cells ⟨3,⟨#[]⟩,v,rs⟩) rfl rfl rfl rfl d0.o (by rw[Ai.z3 ⟨3,⟨#[]⟩,v,rs⟩ HR.o];rfl) (by rw[Ai.z3 ⟨3,⟨#[]⟩,v,rs⟩ HR.o];exact Ab) (Ai.one _) ?_;intro W8 d1 d2)));refine bodyPost_ret (Ot rfl rfl rfl (Qb W8 _ ⟨3,⟨#[]⟩,v,rs⟩ HR.o d1)) rfl ?_;exact⟨rfl,(a8.o.setCell (.inr (by show (w:Nat)<=K;omega)) _).O d2 kJ⟩
theorem SF(hn:(Aw xs).size<=1048576):Fo xs≠Av ():=by
 intro e
 obtain⟨o,q,_⟩:=GF xs hn
 obtain⟨H,A,_⟩:=KF () vI
 rw[e,A]at q;cases q
theorem KA{a b:vB}(h:a≠b):(a.toList == b.toList)=false:=by
 rw[beq_eq_false_iff_ne,cA,cA];exact λe=>h (ByteArray.ext (Array.ext' e))
theorem ZS:s.extract s.size s.size=⟨#[]⟩:=by
 apply ByteArray.ext;apply Array.ext';simp
theorem CQ:(Fo xs).size<=(Aw xs).size+9:=by
 unfold Fo;rw[cO];have:=CP 192 (Aw xs).size;omega
theorem g6:vR 159 #[Av ⟨#[]⟩] w (.tuple #[Cv.V,true]):=by
 obtain⟨em,q⟩:=vE (Av ())
 rw[<-q];have A:=J q;unfold vR vQ;go_in;go_wp2_with (refine Di Ac rfl rfl ?_;intro W1 H K)
 refine vC (Rt _ () vI) λw2 hE=>?_;rw[<-A.o];have O:=H.Z hE kI;have X:=J (K.trans hE);go_wp2_with (refine Bt (vs:=Cv.cells) rfl rfl rfl rfl O rfl Ab (Ai.one _) ?_;intro W8 Z a0)
 refine bodyPost_ret (Ot rfl rfl rfl (Qb W8 _ Cv rfl Z)) rfl ?_
 exact⟨rfl,X.o.O a0 kJ⟩
theorem Yw{o:Oper}{w:vW}{K:Act->vW->Prop}{Q:Exit->Act->vW->Prop}{T T2:TypeId}{old vs:List vV}(ho:o.op=.store T x y)(hx:a.eval x=.pointer (some b))(hy:a.eval y=.agg vs.toArray)
  (hB:Ae w b (.cells old.toArray T2)) (hl:old.length=vs.length) (hi:(P.info? T).map (·.size)=some vs.length) (h1:∀ v∈vs,v.oneCell'=true)
  (h:∀ W,Ae W b (.cells vs.toArray T2)->Ad (λz=>z=b) w W->K (a.put o.dst undef) W):o.wp P a w K Q:=by
 refine wp_store_mid T x y ho b 0 vs.toArray hx hy (by have:=LN hB;rw[hl]at this;simpa using this) (by simpa using hi) (all_oneCell_toArray h1) (h _ ?_ (Ad.z9 b vs 0 w))
 have:=Ae.setCells vs 0 w old hB vO
 rw[fZ vO]at this;simpa using this
theorem jmA(w:vW)(x y:vB)(n:Ai)(hr:n.refs.length=16)(hx:Xu x)(hy:Xu y)(hs:x.size+y.size<=1048576)
  (hc:∀ w,vR 200 #[x,y] w (.tuple #[n.V,true])) :
  vR 159 #[Fo [x,y]] w (.tuple #[n.V,true]):=by
 have A:(Aw [x,y]).size=x.size+y.size:=by rw[Qn,Qn,Zz];omega
 obtain⟨o,q,h2,h3⟩:=GF [x,y] vO
 have H:=CQ [x,y]
 obtain⟨em,O⟩:=vE (Av ())
 have a0:=KA (SF [x,y] vO)
 obtain⟨s,a1⟩:=vE (Fo [x,y])
 obtain⟨c,X⟩:=vE (Aw [x,y])
 rw[<-a1]at q h2 h3 H a0 ⊢;rw[<-X]at q h2 h3 H A;rw[<-O]at a0;have HS:=J (show s.size<=1000000000 by omega);have H1:=J q;have H3:=J h3;have b6:=J O;have a2:=J X;have b7:=J A;have H2:=J h2;have HR:=J hr;have HC:=J hc;clear q h2 h3 H a1 X O A hr hc;unfold vR vQ;go_in;go_wp2_with (refine Di Ac rfl rfl ?_;intro W1 a3 a4)
 refine vC (Rt _ () vI) λw2 Z=>?_;rw[<-b6.o];have a5:=J (a3.Z Z kI);have a7:=J (a4.trans Z);clear a3 a4 Z;go_wp2_with fail
 refine vC (GY _ s _ HS.o H1.o) λw3 Z=>?_;simp only;rw[H3.o,H2.o,ZS];have a8:=J (a5.o.Z Z kI);have a9:=J (a7.o.trans Z);clear Z a7 a5;go_wp2_with fail
 rw[a2.o];refine (WX w3 [x,y] (by intro z hz;rcases bU.1 hz with rfl|hz;exact hx;rw[bG.1 hz];exact hy) (by rw[<-a2.o,b7.o];omega) (show 2<=1000000 by decide)).mono ?_;rintro e w4 ⟨v,rfl,hv⟩;have b0:=J (a8.o.Z hv.ext kI);have b1:=J (a9.o.trans hv.ext);rcases hv.rd with⟨_,_,_,h0⟩|⟨b,o2,c2,rfl,hb,hc,hcell⟩
 ·cases h0
 have QX:=J (hcell 0 x rfl);have QY:=J (hcell 1 y rfl);clear hv hcell a9 a8;go_wp2_with fail
 refine Lc [0,1,2,3,4,5,6,7,8,9,10] [9] Af Aa Ap vY vY vY ?_;iterate 2 refine vP ?_
 refine qL ⟨b,o2,none⟩ _ rfl (λw1 q=>Bv Ag rfl (Am (by exact QX.o) q)) (vS ?_);iterate 2 refine vP ?_
 refine qL ⟨b,o2+1,none⟩ _ rfl (λw1 q=>Bv Ag rfl (Am (by exact QY.o) q)) (vS ?_);refine AC _ 200 #[x,y] (.tuple #[n.V,true]) rfl vY rfl (λw1=>Fb (vX 200) vY) (λw1 q=>HC.o w1) (vS ?_);iterate 2 refine vP ?_
 refine qH _ rfl (λw5 he K hK=>?_);have hX:=(Ao w4).trans he;refine Yw (vs:=n.cells) rfl rfl rfl (b0.o.Z hX kI) (by rw[n.z3 HR.o];rfl) (by rw[n.z3 HR.o];exact Ab) n.one ?_;intro W6 b2 b3;have b4:=J b2;have b5:=J ((b1.o.trans hX).O b3 kJ);clear he hX b2 b3 QX QY b0 b1;refine vS ?_;refine hK _ _ ?_;clear hK K
 refine vP ?_
 refine qE (λw7 he=>?_);have b8:=J (b4.o.Z he kI);have b9:=J (b5.o.trans he);clear he b4 b5;go_wp2_with fail
 refine bodyPost_ret (Ot rfl rfl rfl (Qb w7 _ n HR.o b8.o)) rfl ?_
 exact⟨rfl,b9.o⟩
theorem g4(w:vW)(xs:vM)(n:Ai)(hr:n.refs.length=16)(hl:xs.length=17)(hx:∀ x∈xs,Xu x)(hs:(Aw xs).size<=1048576)
  (hc:∀ w v,Ie w v xs->vR 201 #[v] w (.tuple #[n.V,true])) :
  vR 159 #[Fo xs] w (.tuple #[n.V,true]):=by
 obtain⟨o,h1,h2,h3⟩:=GF xs hs
 have H:=CQ xs
 obtain⟨em,K⟩:=vE (Av ())
 have Z:=KA (SF xs hs)
 obtain⟨s,a0⟩:=vE (Fo xs)
 obtain⟨c,O⟩:=vE (Aw xs)
 rw[<-a0]at h1 h2 h3 H Z ⊢;rw[<-O]at h1 h2 h3 H hs;rw[<-K]at Z;have HS:=J (show s.size<=1000000000 by omega);have H1:=J h1;have H3:=J h3;have b1:=J K;have a1:=J O;have b2:=J hs;have HL:=J hl;have H2:=J h2;have HR:=J hr;have HC:=J hc;clear h1 h2 h3 H a0 O K hs hr hc hl;unfold vR vQ;go_in;go_wp2_with (refine Di Ac rfl rfl ?_;intro W1 a2 a3)
 refine vC (Rt _ () vI) λw2 q=>?_;rw[<-b1.o];have a4:=J (a2.Z q kI);have a5:=J (a3.trans q);clear a2 a3 q;go_wp2_with fail
 refine vC (GY _ s _ HS.o H1.o) λw3 q=>?_;simp only;rw[H3.o,H2.o,ZS];have a7:=J (a4.o.Z q kI);have a8:=J (a5.o.trans q);clear q a5 a4;go_wp2_with fail
 rw[a1.o];refine (WX w3 xs hx (by rw[<-a1.o];have:=b2.o;omega) (kL HL.o)).mono ?_;rintro e w4 ⟨v,rfl,hv⟩;have a9:=J (a7.o.Z hv.ext kI);have b0:=J (a8.o.trans hv.ext);have X:=hv.rd;rcases hv.sl with⟨ad,cp,rfl⟩;rw[HL.o]at X ⊢;have A:=HC.o w4 _ X;have b3:=J A;clear hv a8 a7 X A;go_wp2_with fail
 refine b3.o.mono ?_;rintro e w5 ⟨rfl,q⟩;have b4:=J (b0.o.trans q);have b5:=a9.o.Z q kI;clear q b0 a9;unfold Ai.V;go_wp2_with (refine Bt (vs:=n.cells) rfl rfl rfl rfl b5 (by rw[n.z3 HR.o];rfl) (by rw[n.z3 HR.o];exact Ab) n.one ?_;intro W8 b6 b7)
 refine bodyPost_ret (Ot rfl rfl rfl (Qb W8 _ n HR.o b6)) rfl ?_
 exact⟨rfl,b4.o.O b7 kJ⟩
end
section
open Go Go.RowKit
theorem oK:∀ (l:vM) (i:Nat) (m:vM) (j:Nat),i+l.length<=m.length ->
  ((Gy i l).foldl (λl x=>l.set x.1 x.2) m)[j]?=if i<=j/\j<i+l.length/\(l.getD (j-i) ()).size≠0 then some (l.getD (j-i) ())else m[j]?
 |[],i,m,j,_=>by
  rw[if_neg λh=>by have Z:=h.1;have q:=h.2.1;rw[cZ]at q;omega];rfl
 |r::l,i,m,j,h=>by
  unfold Gy;simp only[bQ]at h ⊢;have K:∀ (H:vM),H.length=m.length->(∀ k,k≠i->H[k]?=m[k]?)->((Gy (i+1) l).foldl (λl x=>l.set x.1 x.2) H)[j]?=if i<=j/\j<i+(l.length+1)/\((r::l).getD (j-i) ()).size≠0/\j≠i then some ((r::l).getD (j-i) ())else H[j]?:=by
   intro H X O;rw[oK l (i+1) H j vO]
   by_cases hj:i+1<=j
   ·have e:(r::l).getD (j-i) ()=l.getD (j-(i+1)) ():=by
     rw[show j-i=(j-(i+1))+1 by omega,List.getD_cons_succ]
    rw[e]
    by_cases q:j<i+1+l.length/\(l.getD (j-(i+1)) ()).size≠0
    ·rw[if_pos ⟨hj,q.1,q.2⟩,if_pos ⟨by omega,by omega,q.2,by omega⟩]
    ·rw[if_neg λA=>q A.2,if_neg λA=>q ⟨by omega,A.2.2.1⟩]
   ·rw[if_neg λA=>hj A.1,if_neg λA=>hj vO]
  split
  ·rename_i h0
   rw[K m rfl λ_ _=>rfl]
   by_cases hj:j=i
   ·subst hj
    rw[if_neg λA=>A.2.2.2 rfl,if_neg λA=>A.2.2 (by rw[jD];exact h0)]
   ·by_cases q:i<=j/\j<i+(l.length+1)/\((r::l).getD (j-i) ()).size≠0
    ·rw[if_pos ⟨q.1,q.2.1,q.2.2,hj⟩,if_pos q]
    ·rw[if_neg λA=>q ⟨A.1,A.2.1,A.2.2.1⟩,if_neg q]
  ·rename_i h0
   rw[dQ,K (m.set i r) (by simp) λk O=>List.getElem?_set_ne (Ne.symm O)]
   by_cases hj:j=i
   ·subst hj
    rw[if_neg λA=>A.2.2.2 rfl,if_pos ⟨bO _,by omega,by rw[jD];exact h0⟩,jD];rw[gK vO];rfl
   ·rw[List.getElem?_set_ne (Ne.symm hj)]
    by_cases q:i<=j/\j<i+(l.length+1)/\((r::l).getD (j-i) ()).size≠0
    ·rw[if_pos ⟨q.1,q.2.1,q.2.2,hj⟩,if_pos q]
    ·rw[if_neg λA=>q ⟨A.1,A.2.1,A.2.2.1⟩,if_neg q]
theorem ND(n:Ai)(hr:n.refs.length=16):Nt n=Pd n.refs n.value:=by
 apply iZ;intro j;unfold Nt Vq Pd;rw[cG (bO _)];unfold Ai.z8;have A:((Gy 0 n.refs).foldl (λl x=>l.set x.1 x.2) (List.replicate 17 (Av ()))).length=17:=by have:=JS n n.z8.length;unfold Vq at this;rw[cG (bO _)]at this;exact this
 by_cases h16:j=16
 ·subst h16;rw[gK (by rw[A];omega),cN (by rw[bT,hr];omega),bT,hr];rfl
 ·rw[List.getElem?_set_ne vO,oK n.refs 0 _ j (by rw[hr,iK];omega),hr];by_cases hj:j<16;{have q:j<n.refs.length:=vO;(rw[cJ (by rw[bT];exact q),bY,bB q];have e:n.refs.getD (j-0) ()=n.refs[j]:=by rw[bL,Nat.sub_zero,bB q];rfl);rw[e];by_cases h0:n.refs[j].size=0;{rw[if_neg λH=>H.2.2 h0,List.getElem?_replicate,if_pos vO,fP,if_pos h0]};rw[if_pos ⟨by omega,by omega,h0⟩,fP,if_neg h0]};rw[if_neg λH=>hj vO,List.getElem?_replicate,if_neg vO,jG (by simp[hr];omega)]
section
variable {I:vB->Ai->Prop} (HI:Wj I)
include HI
theorem Gj.item{r:vB}(h:Gj I r):Xu r:=by
 rcases h with⟨h,h1,rfl⟩|⟨m,hm⟩
 ·exact Yp h vO
 ·obtain⟨xs,rfl,e⟩:=HI.list r m hm;exact ZW xs e
theorem Gj.ne{r:vB}(h:Gj I r):r≠Av ():=by
 rcases h with h|⟨m,hm⟩
 ·intro e;have:=h.size;rw[e]at this;exact absurd this vI
 ·obtain⟨xs,rfl,q⟩:=HI.list r m hm;exact SF xs q
theorem S9(w:vW)(n:Ai)(h:Gn I n):vR 159 #[Cu n] w (.tuple #[n.V,true]):=by
 have K:=h.one HI;have O:=MW n K;cases h with
 |none=>exact g6 w
 |leaf p v h2 h3 h4 =>obtain⟨a,b,c⟩:=MV h2;have z1:=Ux p true;have z2:=Mk (Cl p true);have z3:=Mk v;simp only at b;exact jmA w (Av (Cl p true)) (Av v) _ K.refs (Yp _ vO) (Yp _ vO) vO (λw=>g2 w p v vO vO c)
 |ext p r h2 h3 h4 =>obtain⟨a,b,c⟩:=MV h2;have z1:=Ux p false;have z2:=Mk (Cl p false);simp only at b;have Z:Gj I r:=h4.imp id (λ⟨m,h,_⟩=>⟨m,h⟩);have z3:=Z.size HI;exact jmA w (Av (Cl p false)) r _ K.refs (Yp _ vO) (Z.item HI) vO (λw=>w7 w p r vO c)
 |branch v rs h2 h3 h4 h5 =>(have e:Nt ⟨3,⟨#[]⟩,v,rs⟩=Pd rs v:=ND _ h2;have q:∀ x∈Pd rs v,Xu x:=by intro x A;unfold Pd at A;rcases bR.1 A with A|A;{obtain⟨r,X,rfl⟩:=bC.1 A;by_cases H:r.size=0;{rw[if_pos H];exact Yp _ vI};rw[if_neg H];exact (h4 r X H).item HI};rw[bG.1 A];exact Yp _ vO);show vQ _ #[Fo (Nt ⟨3,⟨#[]⟩,v,rs⟩)] w _;rw[e]at O ⊢;exact g4 w (Pd rs v) _ h2 (by simp[Pd,h2]) q vO (λw a ha=>d4 w a rs v h2 vO (λr X H=>(h4 r X H).ne HI) ha)
end
end
section
open Go Go.RowKit
theorem j8(n:Ai)(h:CG n):(Cu n).size<=2000:=by
 unfold Cu;have H:=h.path;have K:=h.value;split
 ·exact bH (Mk _) vI
 ·split;{have q:=Ux n.path true;have A:=Mk (Cl n.path true);have O:=Mk n.value;have e:=CQ [Av (Cl n.path true),Av n.value];rw[Qn,Qn,Zz]at e;unfold CD;omega};split;{have q:=Ux n.path false;have A:=Mk (Cl n.path false);have e:=CQ [Av (Cl n.path false),n.refs.getD 0 ()];rw[Qn,Qn,Zz]at e;have X:(n.refs.getD 0 ()).size<=33:=h.each _ (by rw[bL,bB (by rw[h.refs];omega)];exact dR _);unfold Py;omega};have z:=MW n h;have e:=CQ (Nt n);unfold AF;omega
theorem eJ(n:Ai)(h:CG n)(hk:n.kind≠0):∃ xs,Cu n=Fo xs/\(Aw xs).size<=1048576:=by
 have A:=h.path;have H:=h.value;unfold Cu;rw[if_neg hk];split
 ·have e:=Ux n.path true;have q:=Mk (Cl n.path true);have K:=Mk n.value;exact⟨_,rfl,by rw[Qn,Qn,Zz];omega⟩
 ·split;{have e:=Ux n.path false;have q:=Mk (Cl n.path false);have O:(n.refs.getD 0 ()).size<=33:=h.each _ (by rw[bL,bB (by rw[h.refs];omega)];exact dR _);exact⟨_,rfl,by rw[Qn,Qn,Zz];omega⟩};exact⟨_,rfl,kL (MW n h)⟩
section
variable {I:vB->Ai->Prop} (HI:Wj I)
include HI
theorem AJ(w:vW)(n:Ai)(h:Gn I n):vR 114 #[Cu n] w (.tuple #[n.V,qa]):=by
 have h1:=h.one HI
 obtain⟨s,hs⟩:=vE (Cu n)
 rw[<-hs];have HS:=J hs;have H:=J h;have O:=J h1;have HL:=J (n.z3 h1.refs);clear h h1 hs;unfold vR vQ;go_in;go_wp2_with (refine Di Ac rfl rfl ?_;intro W1 X Z)
 rw[HS.o];refine vC (S9 HI W1 n H.o) λw2 q=>?_;rw[<-HS.o];have a7:=J (X.Z q kI);have a8:=J (Z.trans q);clear X Z q;unfold Ai.V;go_wp2_with (first|(refine Di Ac rfl rfl ?_;intro W3 a1 a2;refine Bt (vs:=n.cells) rfl rfl rfl rfl a1 (by rw[HL.o];rfl) (by rw[HL.o];exact Ab) n.one ?_;intro W4 A a3)|(refine Gz 215 (.tmp 4) rfl rfl _ _ rfl (Ka _ _ n O.o.refs A) ?_))
 have a4:Af w2 W4:=a2.O a3 kJ;refine vC (VR HI W4 n H.o) λw5 q=>?_;have K:=A.Z q kI;have a9:=J K;have HX:=J (a4.trans q);clear a1 a2 A a3 a4 q;go_wp2_with (refine Gz 215 (.tmp 4) rfl rfl _ _ rfl (Ka _ _ n O.o.refs K) ?_)
 refine vC (rS w5 n O.o) λw6 q=>?_;rw[<-HS.o];have b0:=a9.o.Z q kI;have a5:=HX.o.trans q;have a0:=a7.o.Z a5 kI;clear K q;go_wp2_with (first|(refine Gz 215 (.tmp 4) rfl rfl _ _ rfl (Ka _ _ n O.o.refs b0) ?_)|(refine Bt (vs:=n.cells) rfl rfl rfl rfl a0 (by rw[HL.o];rfl) (by rw[HL.o];exact Ab) n.one ?_;intro W8 b1 b2))
 refine bodyPost_ret (Ot rfl rfl rfl (Qb W8 _ n O.o.refs b1)) rfl ?_
 exact⟨rfl,(a8.o.trans a5).O b2 kJ⟩
theorem r1(w:vW)(n:Ai)(h:Gn I n)(hk:n.kind≠0)(hsm:(Cu n).size<32):vR 138 #[Cu n] w (.tuple #[n.V,true]):=by
 have h1:=h.one HI
 obtain⟨s,hs⟩:=vE (Cu n)
 rw[<-hs]at hsm ⊢;have c1:¬(32:Int)<=(s.size:Int):=vO
 have c2:((n.kind:Int) == 0)=false:=by simp;omega
 have c3:¬(n.kind:Int)=0:=vO
 have HS:=J hs;have H:=J h;have H1:=J h1;have HL:=J (n.z3 h1.refs);clear h h1 hs hk;unfold vR vQ;go_in;go_wp2_with (refine Di Ac rfl rfl ?_;intro W1 q A)
 rw[HS.o];refine vC (AJ HI W1 n H.o) λw2 hE=>?_;rw[<-HS.o];have K:=q.Z hE kI;have a1:=J (A.trans hE);clear q A hE;unfold Ai.V;go_wp2_with (first|(refine Di Ac rfl rfl ?_;intro W3 a2 O;refine Bt (vs:=n.cells) rfl rfl rfl rfl a2 (by rw[HL.o];rfl) (by rw[HL.o];exact Ab) n.one ?_;intro W4 X Z;have q0:W4.cell? w2=some (.int .i64 (n.kind:Int)):=X.z1 vF;have a0:=(K.Z O kI).Z Z (kL K.lt))|(refine Gz 215 (.tmp 4) rfl rfl _ _ rfl (Ka _ _ n H1.o.refs X) ?_)|(refine Bt (vs:=n.cells) rfl rfl rfl rfl a0 (by rw[HL.o];rfl) (by rw[HL.o];exact Ab) n.one ?_;intro W8 a3 a4))
 refine bodyPost_ret (Ot rfl rfl rfl (Qb W8 _ n H1.o.refs a3)) rfl ?_;have a5:Af w2 W4:=O.O Z kJ
 exact⟨rfl,(a1.o.trans a5).O a4 kJ⟩
end
def Bx:Nat->vB->Ai->Prop
 |0,_,_=>False
 |d+1,r,m=>Gn (Bx d) m/\r=Cu m/\r.size<32/\m.kind≠0
theorem Bm:∀ d,Wj (Bx d)
 |0=>⟨λ_ _ h=>h.elim,λ_ _ h=>h.elim,λ_ _ h=>h.elim,λ_ _ h=>h.elim,λ_ _ h=>h.elim,λ_ _ h=>h.elim⟩
 |d+1=>by
  have A:=Bm d;have H:∀ r m,Bx (d+1) r m->∃ xs,r=Fo xs/\(Aw xs).size<=1048576:=λr m ⟨K,O,X,Z⟩=>by
   obtain⟨xs,e,q⟩:=eJ m (K.one A) Z
   exact⟨xs,O.trans e,q⟩
  refine⟨λr m h=>(h.1.one A).refs,λr m h=>h.2.2.1,λr m h=>?_,H,λr m h=>?_,λr m h w=>?_⟩
  ·obtain⟨xs,e,q⟩:=H r m h
   obtain⟨o,h7,_⟩:=GF xs q
   rw[e]
   have:=(VM h7).1
   omega
  ·obtain⟨xs,e,q⟩:=H r m h
   rw[e];exact jl2 xs q
  ·obtain⟨K,O,X,Z⟩:=h
   rw[O]at X ⊢;exact r1 A w m K Z X
end
