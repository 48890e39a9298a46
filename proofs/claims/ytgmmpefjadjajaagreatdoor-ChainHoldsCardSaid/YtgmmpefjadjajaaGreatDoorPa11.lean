/- Lemmas. -/
import Derived.Test.YtgmmpefjadjajaaGreatDoorPa0
import Derived.Test.YtgmmpefjadjajaaGreatDoorPa10
namespace Go.Proofs.YtgmmpefjadjajaaGreatDoor
open Go.Proofs.Tryz
set_option linter.unusedSimpArgs false
set_option linter.unusedVariables false
set_option maxRecDepth 100000
set_option maxHeartbeats 16000000
open Go Go.RowKit
variable (l:Bool)(h p x b:vB)(w:vW)(xs:vM)(s y:vB)(n:Ai){a:Act}{ops:Array Oper}{Q:Exit->Act->vW->Prop}{rest:List Oper}{k gn gs gb sz by' nn g m c r:Nat}{o:Oper}{P:Program}{W W':vW}
theorem Mk:(Av b).size<=b.size+9:=by
 unfold Av;split
 ·omega
 ·rw[cO];have:=CP 128 b.size;omega
theorem a4:(Jh s).size=s.size / 2:=by
 show (Rs s.data.toList).length=_;rw[KO];rfl
theorem Ux(leaf:Bool):(Cl p leaf).size<=p.size / 2+1:=by
 unfold Cl;rw[a4];show (Vu p leaf++p.data.toList).length / 2<=_;rw[bK,show p.data.toList.length=p.size from rfl];unfold Vu Ms
 by_cases h:p.size % 2=1
 ·simp[h];omega
 ·(have:(p.size % 2 == 1)=false:=by simpa using h);rw[this];simp
theorem Qn:(Aw (x::xs)).size=x.size+(Aw xs).size:=by
 show ((x::xs).map (·.data.toList)).flatten.length=x.data.toList.length+(xs.map (·.data.toList)).flatten.length;rw[bP,List.flatten_cons,bK]
theorem Zz:(Aw []).size=0:=rfl
theorem BS(T:TypeId):Ie (w.alloc (.cells (xs.map Value.string).toArray T)) (.slice (some w) xs.length xs.length) xs:=
 .inr ⟨↑w,0,xs.length,rfl,by simp,bO _,λj x e=>by rw[bX];exact (Ae.new w _).z1 (by rw[bY,e];rfl)⟩
def CD(n:Ai):vB:=Fo [Av (Cl n.path true),Av n.value]
def Py(n:Ai):vB:=Fo [Av (Cl n.path false),n.refs.getD 0 ()]
theorem j3(hps:n.path.size<=900000)(hvs:n.value.size<=100000)(hv:Dy n.path=true):vR 207 #[n.V] w (CD n):=by
 obtain⟨k,p,v,rs⟩:=n
 simp only at hps hvs hv;unfold Ai.V;have e1:(Ai.cells ⟨k,p,v,rs⟩)[1]?=some (.string p):=rfl;have e2:(Ai.cells ⟨k,p,v,rs⟩)[2]?=some (.string v):=rfl;have H:=Ux p true;have O:=Mk (Cl p true);have a0:=Mk v;unfold vR vQ;go_in;go_wp2_with fail
 refine vC (YY _ p true hps hv) λw1 hE=>?_;have hB:=(Ae.new w _).Z hE kI;have X:=((Aa w).alloc _).trans hE
 obtain⟨g,hg⟩:=vE w.heap.size
 rw[<-hg]at hB ⊢;have q2:=hB.z1 e2
 obtain⟨e,q⟩:=vE (Cl p true)
 rw[<-q]at H O ⊢;have HL:=J (show CD ⟨k,p,v,rs⟩=Fo [Av e,Av v] by unfold CD;rw[q]);have Z:=J X;have Q2:=J q2;have A:e.size<=1000000000:=vO
 have hc:(Aw [Av e,Av v]).size<=1000000000:=by rw[Qn,Qn,Zz];omega
 have HC:=J hc;have HP:=J A;have HV:=J hvs;clear e1 e2 H O a0 hB hg q hE X q2 A hc hps hv hvs;go_wp2_with fail
 refine Hs [0,2,1,3,4,5,6,7] Af Aa Ap vY vY vY ?_;iterate 2 refine vK ?_
 refine Ma _ 28 #[e] (Av e) rfl (λw1=>Fb (vX 28) vY) (λw1 h1=>Rt w1 e HP.o) (vS ?_);refine Db ⟨g,2,none⟩ _ rfl (λw2 h2=>Bv Ag rfl (Am (by exact Q2.o) h2)) (vS ?_);refine Ma _ 28 #[v] (Av v) rfl (λw1=>Fb (vX 28) vY) (λw1 h1=>Rt w1 v (kL HV.o)) (vS ?_);refine CW _ rfl vY rfl (λw2 he K hK=>?_);have a1:=J (Z.o.trans ((Ao w1).trans he));have HR:=J (BS w2 [Av e,Av v] 9);clear he Z Q2 HV HP;go_simp;refine hK _ _ ((Aa w2).alloc _) ?_;clear hK K;refine Ma _ 87 _ (Fo [Av e,Av v]) rfl (λw1=>Fb (vX 87) vY) (λw3 h3=>LR w3 _ [Av e,Av v] (HR.o.ext (by exact h3)) HC.o (show 2<=1000000000 by decide)) (vS ?_)
 refine vK ?_
 refine Hi (λw3 he=>?_);go_wp2
 go_ret
 exact⟨by rw[HL.o];rfl,(a1.o.alloc _).trans he⟩
theorem s7(hps:n.path.size<=900000)(r:vB)(hr:n.refs=r::n.refs.tail)(hvs:r.size<=100000)(hv:Dy n.path=true):vR 208 #[n.V] w (Py n):=by
 obtain⟨k,p,v,rs⟩:=n
 simp only at hps hvs hr hv;cases rs with
 |nil=>cases hr
 |cons r' rt =>
 simp only[List.tail_cons,List.cons.injEq,and_true]at hr;subst hr;unfold Ai.V;have e1:(Ai.cells ⟨k,p,v,r'::rt⟩)[1]?=some (.string p):=rfl;have e2:(Ai.cells ⟨k,p,v,r'::rt⟩)[3]?=some (.string r'):=rfl;have H:=Ux p false;have O:=Mk (Cl p false);unfold vR vQ;go_in;go_wp2_with fail
 refine vC (YY _ p false hps hv) λw1 hE=>?_;have hB:=(Ae.new w _).Z hE kI;have X:=((Aa w).alloc _).trans hE
 obtain⟨g,hg⟩:=vE w.heap.size
 rw[<-hg]at hB ⊢;have q2:=hB.z1 e2
 obtain⟨e,q⟩:=vE (Cl p false)
 rw[<-q]at H O ⊢;have HL:=J (show Py ⟨k,p,v,r'::rt⟩=Fo [Av e,r'] by unfold Py;rw[q];rfl);have Z:=J X;have Q2:=J q2;have A:e.size<=1000000000:=vO
 have hc:(Aw [Av e,r']).size<=1000000000:=by rw[Qn,Qn,Zz];omega
 have HC:=J hc;have HP:=J A;have HV:=J hvs;clear e1 e2 H O hB hg q hE X q2 A hc hps hv hvs;go_wp2_with fail
 refine Hs [0,1,2,3,4,5,6,7] Af Aa Ap vY vY vY ?_
 refine vK ?_
 refine Ma _ 28 #[e] (Av e) rfl (λw1=>Fb (vX 28) vY) (λw1 h1=>Rt w1 e HP.o) (vS ?_);iterate 2 refine vK ?_
 refine Db ⟨g,3,none⟩ _ rfl (λw2 h2=>Bv Ag rfl (Am (by exact Q2.o) h2)) (vS ?_);refine CW _ rfl vY rfl (λw2 he K hK=>?_);have a0:=J (Z.o.trans ((Ao w1).trans he));have HR:=J (BS w2 [Av e,r'] 9);clear he Z Q2 HV HP;go_simp;refine hK _ _ ((Aa w2).alloc _) ?_;clear hK K;refine Ma _ 87 _ (Fo [Av e,r']) rfl (λw1=>Fb (vX 87) vY) (λw3 h3=>LR w3 _ [Av e,r'] (HR.o.ext (by exact h3)) HC.o (show 2<=1000000000 by decide)) (vS ?_)
 refine vK ?_
 refine Hi (λw3 he=>?_);go_wp2
 go_ret
 exact⟨by rw[HL.o];rfl,(a0.o.alloc _).trans he⟩
section
attribute [local go_sem] Oper.semAt_some
def Ai.ri(n:Ai)(k:Nat):Nat:=(n.z8.getD k (0,⟨#[]⟩)).1
def Ai.rr(n:Ai)(k:Nat):vB:=(n.z8.getD k (0,⟨#[]⟩)).2
theorem QZ(k:Nat):n.rv k=#[.int .i64 (n.ri k:Nat),.string (n.rr k)]:=rfl
def Xq(d:Option TypeDesc):Bool:=match d with|some (.struct _)=>true|_=>false
theorem Yo{d:Option TypeDesc}(h:Xq d=true):∃ fs,d=some (.struct fs):=by
 cases d with
 |none=>cases h
 |some d=>cases d<;>first|exact⟨_,rfl⟩|cases h
theorem Su:Xq (prog.underlying 301)=true:=vY
theorem MX:∀ (l:vM) (i:Nat) (x:Nat × vB),x∈Gy i l->i<=x.1/\x.1<i+l.length/\l[x.1-i]?=some x.2/\x.2.size≠0
 |[],i,x,h=>by cases h
 |r::l,i,x,h=>by
  have e:x∈Gy (i+1) l->i<=x.1/\x.1<i+(r::l).length/\(r::l)[x.1-i]?=some x.2/\x.2.size≠0:=λh=>by
   obtain⟨H,K,q,A⟩:=MX l (i+1) x h
   refine⟨by omega,by simp;omega,?_,A⟩
   rw[show x.1-i=(x.1-(i+1))+1 by omega,List.getElem?_cons_succ];exact q
  unfold Gy at h;split at h
  ·exact e h
  ·rename_i hr
   rcases bU.1 h with rfl|h
   ·exact⟨bO _,by simp,by simp,hr⟩
   ·exact e h
theorem RC(hr:n.refs.length=16)(hk:k<n.z8.length):n.ri k<16/\n.refs[n.ri k]?=some (n.rr k)/\(n.rr k).size≠0:=by
 have e:(n.z8.getD k (0,⟨#[]⟩))∈n.z8:=by rw[bL,bB hk];exact dR _
 obtain⟨_,q,A,H⟩:=MX n.refs 0 _ e
 rw[hr]at q
 exact⟨by unfold Ai.ri;omega,A,H⟩
theorem Sx:(prog.info? 301).map (·.size)=some 19:=vY
theorem EC(W:vW)(b:Nat)(n:Ai)(hr:n.refs.length=16)(hB:Ae W b (.cells n.cells.toArray 301)):(Instr.loadAt 301 b).run prog W=.ok n.V W:=by
 obtain⟨A,e⟩:=Yo Su
 exact Yr e (by rw[n.z3 hr];exact Sx) (λj v q=>by rw[OI];exact hB.z1 q)
def YD(n:Ai)(k:Nat):Nat:=match k with|0=>0|k+1=>n.ri k+1
def Ai.y5(n:Ai):Nat:=YD n n.z8.length
def RL(w:vW)(gn gb:Nat)(n:Ai)(k:Nat)(W:vW):Prop:=Af w W/\Ae W gn (.cells n.cells.toArray 301)/\Ae W gb (.cells #[.int .i64 (YD n k:Nat)] 3)
theorem lY(hr:n.refs.length=16):vR 233 #[n.V] w (.int .i64 (n.y5:Nat)):=by
 obtain⟨W0,A⟩:=vE ((w.alloc (.cells n.cells.toArray 301)).alloc (.cells #[qa] 3))
 have B0:Ae W0 w (.cells n.cells.toArray 301):=by rw[A];exact (Ae.new w _).alloc _
 have O:=EC W0 w n hr B0;rw[A]at O;unfold Ai.V at O ⊢;refine (callsIn_wide (n:=0)).1 ?_;refine callsIn_of_wp_marks func233 rfl trivial ?_ rfl;simp only[ntmps233,cQ,bQ,cZ,Nat.reduceAdd,Nat.reduceSub,cV,cU,dC,cY,cL,cS];gi_wp2_with (refine BC rfl 301 (.tmp 1) rfl _ _ rfl O ?_)
 refine⟨trivial,rfl,CallsIn.mono (callsIn_wide.2 (PW _ n)) ?_⟩
 rintro e w1 ⟨rfl,X,hE⟩;rw[<-A]at X hE ⊢
 obtain⟨Z,a0⟩:=vE ((w:Nat)+1)
 have a1:Af w W0:=by rw[A];exact ((Aa w).alloc _).alloc _
 have B1:Ae W0 Z (.cells #[qa] 3):=by rw[A,a0];have:=Ae.new (w.alloc (.cells n.cells.toArray 301)) (.cells #[qa] 3);rwa [bJ]at this
 have a4:(W0:Nat)=↑w+2:=by rw[A];simp
 have B2:=B1.Z hE kI;rw[<-a0]
 obtain⟨gn,a2⟩:=vE W0.heap.size
 rw[<-a2]at X ⊢;have a5:Z≠gn:=vO
 have b0:=B2.lt;have b1:=X.lt;have a3:=a1.trans hE;have a7:(w:Nat)<=Z:=vO
 have a8:(w:Nat)<=↑w1:=a3.size;have a9:=J a3;clear O hE a1 B0 B1 a4 a0 a2 A W0;gi_wp2_with fail
 refine' EL (N:=n.z8.length) (gf:=210) (lb:=#[gn]) rfl (vX 210) (OU gn n hr) (λk=>rfl) (RL w gn Z n) (λ_ _ _=>False) (λk W W' ⟨h1,h2,H⟩ e=>⟨h1.trans e,h2.Z e kI,H.Z e kI⟩) (λ_ _ _ _ h _=>h) (λk W ⟨_,h,_⟩=>h) (λk W o ⟨h1,h2,H⟩=>⟨h1.putObj (.inr vO) _,h2.z5 vO _,H.z5 vO _⟩) (λ_ _ _ _ h=>h) ⟨a9.o,X,B2⟩ _ ?hassign ?hbody ?hdone ?hstop
 case hassign =>intro l j W K _ hK;rw[QZ,FG];simp only[dM,dG];gi_wp2;exact hK
 case hbody =>intro l k W hk ⟨h1,h2,H⟩ hlt;have q:=H.cell (i:=0) (v:=.int .i64 (YD n k:Nat)) vF;have f:W.frozen? Z=false:=H.frozen;have H1:=J h1;have H2:=J h2;have H3:=J H;clear h1 h2 H;have b2:=(RC n hr hk).1;gi_wp2;rw[show ((n.ri k:Nat):Int)+1=((n.ri k+1:Nat):Int)from by omega];have hx:Ad (λb=>b≠(w1:Nat)/\b≠(w1:Nat)+1) W (W.setCell Z ((n.ri k+1:Nat):Int)):=(Ad.refl _ W).setCell (.inl ⟨by show Z≠_;omega,by show Z≠_;omega⟩) _;exact⟨hx,H1.o.setCell (.inr a7) _,H2.o.z6 (p:=Z) (λe=>a5 e.symm) _,H3.o.z2 (i:=0) _⟩
 case hdone =>intro W ⟨h1,h2,H⟩ hd;have q:=H.cell (i:=0) (v:=.int .i64 (n.y5:Nat)) vF;have H1:=J h1;have HD:=J hd;clear h1 h2 H hd;gi_wp2;refine⟨by simp,.inl ⟨_,_,rfl,run_takeDeferred HD.o,?_⟩⟩;refine⟨_,results_tmp rfl _ _ _,?_⟩;exact⟨rfl,H1.o.putObj (.inr a8) _⟩
 case hstop=>intro c k W _ _ h;exact h.elim
theorem Bg:prog.underlying 51=some (.slice 9):=vY
theorem Bn:(prog.info? 9).map (λi=>(i.zero,i.size,i.bytes))=some (some (.string ⟨#[]⟩),1,16):=vY
def Vq(n:Ai)(k:Nat):vM:=(n.z8.take k).foldl (λl x=>l.set x.1 x.2) (List.replicate 17 (Av ()))
def Nt(n:Ai):vM:=(Vq n n.z8.length).set 16 (Av n.value)
def AF(n:Ai):vB:=Fo (Nt n)
structure Xk(w:World)(gn gs gb:Nat)(n:Ai)(xs:vM)(W:World):Prop where
 ext:Af w W
 node:Ae W gn (.cells n.cells.toArray 301)
 var:Ae W gb (.cells #[.slice (some gs) 17 17] 51)
 row:Ae W gs (.cells (xs.map Value.string).toArray 9)
 len:xs.length=17
theorem Xk.st{w:vW}{n:Ai}{xs:vM}(h:Xk w gn gs gb n xs W)(e:Af W W'):Xk w gn gs gb n xs W':=
 ⟨h.ext.trans e,h.node.Z e kI,h.var.Z e kI,h.row.Z e kI,h.len⟩
theorem Xk.put{w:vW}{n:Ai}{xs:vM}(h:Xk w gn gs gb n xs W)(r:Nat)(hr:(w:Nat)<=r)(h1:gn≠r)(h2:gs≠r)(h3:gb≠r)(o:Obj):Xk w gn gs gb n xs (W.putObj r o):=
 ⟨h.ext.putObj (.inr hr) _,h.node.z5 h1 _,h.var.z5 h3 _,h.row.z5 h2 _,h.len⟩
theorem Xk.set{w:vW}{n:Ai}{xs:vM}(h:Xk w gn gs gb n xs W)(hr:(w:Nat)<=gs)(h1:gn≠gs)(h3:gb≠gs)(j:Nat)(x:vB):Xk w gn gs gb n (xs.set j x) (W.setCell ⟨gs,j,none⟩ x):=
 ⟨h.ext.setCell (.inr hr) _,h.node.z6 (p:=⟨gs,j,none⟩) h1 _,h.var.z6 (p:=⟨gs,j,none⟩) h3 _,by
  have:=h.row.z2 (i:=j) x
  rw[show (xs.map Value.string).toArray.setIfInBounds j x=((xs.set j x).map Value.string).toArray by simp[gV]]at this;exact this,by simp[h.len]⟩
theorem JS(k:Nat):(Vq n k).length=17:=by
 unfold Vq;generalize n.z8.take k=l
 suffices ∀ (l:List (Nat × vB)) (m:vM),(l.foldl (λl x=>l.set x.1 x.2) m).length=m.length by rw[this];simp
 intro l;induction l with
 |nil=>intro m;rfl
 |cons x r ih=>intro m;rw[dQ,ih];simp
theorem N_(hk:k<n.z8.length):Vq n (k+1)=(Vq n k).set (n.ri k) (n.rr k):=by
 unfold Vq;rw[cP hk,fE];simp[Ai.ri,Ai.rr,bL,hk]
def IY(k:Nat):vM:=List.replicate k (Av ⟨#[]⟩)++List.replicate (17-k) ⟨#[]⟩
theorem t2(k:Nat)(hk:k<17):(IY k).set k (Av ())=IY (k+1):=by
 unfold IY;rw[dV _ _ (by simp),show k-(List.replicate k (Av ())).length=0 by simp,show 17-k=(17-(k+1))+1 by omega,fC,dM,List.replicate_succ']
 simp
def zS(w:vW)(gn gs gb:Nat)(n:Ai)(i:vV)(wr:vW):Prop:=∃ k:Nat,k<=17/\i=.int .i64 k/\Xk w gn gs gb n (IY k) wr
theorem G_(hr:n.refs.length=16)(hv:n.value.size<=100000)(hc:(Aw (Nt n)).size<=1000000000):vR 209 #[n.V] w (.string (AF n)):=by
 obtain⟨i0,hi,b9,c0,c2⟩:=info_parts Bn
 have a2:=SJ (P:=prog) (w.alloc (.cells n.cells.toArray 301)) Bg hi b9 c0 rfl .i64 .i64 17 (by rw[c2];omega) zi
 obtain⟨q,a3⟩:∃ g,g=(w:Nat)+1:=⟨_,rfl⟩
 obtain⟨gb,b0⟩:∃ g,g=(w:Nat)+2:=⟨_,rfl⟩
 rw[bJ, <-a3]at a2
 obtain⟨W1,a0⟩:=vE ((w.alloc (.cells n.cells.toArray 301)).alloc (.cells (List.replicate 17 (Value.string ⟨#[]⟩)).toArray 9))
 rw[<-a0]at a2;have c9:(Instr.makeSlice 51 (.int .i64 17) (.int .i64 17)).run prog (w.alloc (.cells n.cells.toArray 301))=.ok (.slice (some ⟨q,0,none⟩) 17 17) W1:=a2;clear a2;have a4:(W1:Nat)=gb:=by rw[a0,b0];simp
 have S0:Xk w ↑w q gb n (IY 0) (W1.alloc (.cells #[.slice (some ⟨q,0,none⟩) 17 17] 51)):=⟨by rw[a0];exact (((Aa w).alloc _).alloc _).alloc _,by rw[a0];exact ((Ae.new w _).alloc _).alloc _,by rw[<-a4];exact Ae.new W1 _,by rw[a0,a3];have:=(Ae.new (w.alloc (.cells n.cells.toArray 301)) (.cells (List.replicate 17 (Value.string ⟨#[]⟩)).toArray 9)).alloc (.cells #[.slice (some ⟨(w:Nat)+1,0,none⟩) 17 17] 51);rw[bJ]at this;exact this,rfl⟩
 obtain⟨gn,a5⟩:∃ g,g=(w:Nat):=⟨_,rfl⟩
 rw[<-a5]at S0;have n1:gn≠q:=vO
 have n2:gb≠q:=vO
 have n3:(w:Nat)<=q:=vO
 have c3:=J S0;have HG:=J a5;have c4:=J a4;have N1:=J n1;have N2:=J n2;clear a0 S0 a5 a3 b0 a4 n1 n2;unfold Ai.V;refine (callsIn_wide (n:=0)).1 ?_;refine callsIn_of_wp_marks func209 rfl trivial ?_ rfl;simp only[ntmps209,cQ,bQ,cZ,Nat.reduceAdd,Nat.reduceSub,cV,cU,dC,cY,cL,cS];gi_wp2_with fail
 rw[<-HG.o,c4.o];gi_loopw [10] (λi wr=>zS w gn q gb n i wr) (λi _=>17-(intOf i).toNat)
 case atStart=>exact⟨0,by omega,rfl,c3.o⟩
 case round =>obtain⟨k,hk,rfl,Z⟩:=hrel;have q3:=Z.var.cell (i:=0) (v:=.slice (some ⟨q,0,none⟩) 17 17) vF;have O:=J Z;clear Z;by_cases hlt:k<17;{have b1:(k:Int)<17:=vO;(gi_wp2_with fail);refine wpIn_wide.2 (Lc [0,1,2,3,4] [4] Af Aa Ap vY vY vY ?_);refine qL ⟨gb,0,none⟩ _ rfl (λw1 h1=>Bv Bg rfl (Am (by exact O.o.var.cell (i:=0) (v:=.slice (some ⟨q,0,none⟩) 17 17) vF) h1)) (vS ?_);refine vP ?_;refine AC _ 28 #[.string ⟨#[]⟩] (.string (Av ⟨#[]⟩)) rfl vY rfl (λw1=>Fb (vX 28) vY) (λw1 h1=>Rt w1 ⟨#[]⟩ vI) (vS ?_);refine vP ?_;refine qH _ rfl (λw1 he K hK=>?_);have S1:=O.o.st ((Ao wr).trans he);obtain⟨old,q1⟩:∃ v,w1.cell? ⟨q,k,none⟩=some v:=⟨_,S1.row.z1 (bB (by rw[bT,S1.len];exact hlt))⟩;have q2:w1.frozen? ⟨q,k,none⟩=false:=S1.row.frozen;have S2:=S1.set n3 N1.o N2.o k (Av ⟨#[]⟩);rw[t2 k hlt]at S2;have a1:=J S2;clear S1 S2 he q3 O;go_simp;refine hK _ _ ?_;clear hK K q1 q2;refine qE (λw2 he=>?_);have A:=J (a1.o.st he);clear he a1;gi_wp2;go_roundw;(case rel=>exact⟨k+1,by omega,by go_num,A.o⟩);case measure=>exact vJ};have a9:k=17:=vO;(subst a9;have hB:=O.o.node;have a7:=EC wr gn n hr hB;unfold Ai.V at a7;clear hB;gi_wp2_with (refine BC rfl 301 (.tmp 1) rfl _ _ rfl a7 ?_));refine⟨trivial,rfl,CallsIn.mono (callsIn_wide.2 (PW _ n)) ?_⟩;rintro e w1 ⟨rfl,a8,hE⟩;have S1:=O.o.st hE;obtain⟨X,H⟩:∃ g,g=(wr:Nat):=⟨_,rfl⟩;(rw[<-H]at a8 ⊢;have h1:gn<X:=by rw[H];exact O.o.node.lt);(have h2:q<X:=by rw[H];exact O.o.row.lt);(have h3:gb<X:=by rw[H];exact O.o.var.lt);(have h4:=a8.lt;have c5:(w:Nat)<=↑w1:=S1.ext.size;have b2:IY 17=Vq n 0:=rfl;rw[b2]at S1;clear a7 hE O q3 b2 H;gi_wp2_with fail);refine' EL (N:=n.z8.length) (gf:=210) (lb:=#[.pointer (some ⟨X,0,none⟩)]) rfl (vX 210) (OU X n hr) (λk=>rfl) (λk W=>Xk w gn q gb n (Vq n k) W/\Ae W X (.cells n.cells.toArray 301)) (λ_ _ _=>False) (λk W W' ⟨h1,h2⟩ e=>⟨h1.st e,h2.Z e kI⟩) (λ_ _ _ _ h _=>h) (λk W ⟨_,h⟩=>h) (λk W o ⟨h5,h6⟩=>⟨h5.put _ vO vO vO vO _,h6.z5 vO _⟩) (λ_ _ _ _ h=>h) ⟨S1,a8⟩ _ ?hassign ?hbody ?hdone ?hstop;(case hassign =>intro l j W K _ hK;rw[QZ,FG];simp only[dM,dG];gi_wp2;exact hK);(case hbody =>intro l k W hk ⟨Z,hB⟩ hlt2;have c7:=RC n hr hk;have q3:=Z.var.cell (i:=0) (v:=.slice (some ⟨q,0,none⟩) 17 17) vF;have c1:(n.ri k:Int)<17:=vO;obtain⟨old,q1⟩:∃ v,W.cell? ⟨q,n.ri k,none⟩=some v:=⟨_,Z.row.z1 (bB (by rw[bT,Z.len];omega))⟩;have q2:W.frozen? ⟨q,n.ri k,none⟩=false:=Z.row.frozen;have O:=J Z;have HB:=J hB;clear Z hB c7 S1;gi_wp2;exact⟨(Ad.refl _ W).setCell (.inl ⟨by show q≠_;omega,by show q≠_;omega⟩) _,by rw[N_ n hk];exact O.o.set n3 N1.o N2.o _ _,HB.o.z6 (p:=⟨q,n.ri k,none⟩) (by show X≠q;omega) _⟩);(case hdone =>(intro W ⟨Z,hB⟩ hd;have q3:=Z.var.cell (i:=0) (v:=.slice (some ⟨q,0,none⟩) 17 17) vF;have O:=J Z;have HD:=J hd;clear Z hB hd S1;gi_wp2_with fail);refine wpIn_wide.2 (Lc [0,1,2,3,4,5] [5] Af Aa Ap vY vY vY ?_);refine qL ⟨gb,0,none⟩ _ rfl (λw1 h1=>Bv Bg rfl (Am (by exact O.o.var.cell (i:=0) (v:=.slice (some ⟨q,0,none⟩) 17 17) vF) h1)) (vS ?_);refine vP ?_;refine qL ⟨gn,2,none⟩ (.string n.value) rfl (λw1 h1=>Bv Ag rfl (Am (by exact O.o.node.z1 vF) h1)) (vS ?_);refine AC _ 28 #[.string n.value] (.string (Av n.value)) rfl vY rfl (λw1=>Fb (vX 28) vY) (λw1 h1=>Rt w1 n.value vO) (vS ?_);refine vP ?_;refine qH _ rfl (λw2 he K hK=>?_);have S1:=O.o.st ((Ao W).trans he);have b3:=HD.o.Z ((Ao W).trans he) kI;obtain⟨old,q1⟩:∃ v,w2.cell? ⟨q,16,none⟩=some v:=⟨_,S1.row.z1 (bB (by rw[bT,S1.len];omega))⟩;(have q2:w2.frozen? ⟨q,16,none⟩=false:=S1.row.frozen;have S2:=S1.set n3 N1.o N2.o 16 (Av n.value);have b4:=b3.z6 (p:=⟨q,16,none⟩) (by show (w1:Nat)≠q;omega) (.string (Av n.value));have a1:=J S2;have b5:=J b4;clear S1 S2 he q3 O HD b3 b4;go_simp;refine hK _ _ ?_;clear hK K q1 q2;refine qE (λw3 he=>?_);have A:=J (a1.o.st he);have b6:=J (b5.o.Z he kI);have q3:=A.o.var.cell (i:=0) (v:=.slice (some ⟨q,0,none⟩) 17 17) vF;clear he a1 b5;gi_wp2_with fail);(have b7:Ie w3 (.slice (some ⟨q,0,none⟩) 17 17) (Nt n):=by have hl:(Nt n).length=17:=A.o.len;exact .inr ⟨q,0,17,by rw[hl],A.o.row.lt,by omega,λj x hx=>by rw[bX];exact A.o.row.z1 (by rw[bY];show ((Nt n)[j]?).map _=_;rw[hx];rfl)⟩);refine⟨trivial,rfl,CallsIn.mono (callsIn_wide.2 (LR w3 _ (Nt n) b7 hc (by have:(Nt n).length=17:=A.o.len;omega))) ?_⟩;(rintro e w4 ⟨rfl,hE⟩;have b8:=b6.o.Z hE kI;have HE:=J (A.o.ext.trans hE);have c8:=J b8;clear hE b8 A b6 b7 q3;gi_wp2_with fail);refine⟨by simp,.inl ⟨_,_,rfl,run_takeDeferred c8.o,?_⟩⟩;refine⟨_,results_tmp rfl _ _ _,?_⟩;exact⟨rfl,HE.o.putObj (.inr c5) _⟩);case hstop=>intro c k W _ _ h;exact h.elim
def Xu(x:vB):Prop:=∀ y:vB,(x++y).size<=1000000000->∃ r,Dx (x++y)=some r/\r.2.1+r.2.2=x.size
theorem CZ:Aw (x::xs)=x++Aw xs:=by
 apply ByteArray.ext;apply Array.ext';simp[Aw,dN]
theorem kH:(x++y).extract 0 x.size=x:=ByteArray.extract_append_eq_left rfl
theorem UC:(x++y).extract x.size (x++y).size=y:=ByteArray.extract_append_eq_right rfl (by rw[cO])
theorem VM{s:vB}{r:Bool × Nat × Nat}(h:Dx s=some r):0<s.size/\0<r.2.1+r.2.2:=by
 unfold Dx at h
 by_cases h0:0<s.size
 ·refine⟨h0,?_⟩;rw[dif_pos h0]at h;simp only at h;by_cases h1:s[0].toNat<128;{rw[if_pos h1]at h;obtain rfl:=bV h;simp};rw[if_neg h1]at h;(obtain⟨e,q⟩:∃ e:Bool × Nat,e=if s[0].toNat<192 then (false,s[0].toNat-128)else (true,s[0].toNat-192):=⟨_,rfl⟩);rw[<-q]at h;obtain⟨l,m⟩:=e;simp only at h;by_cases h3:m<=55;{rw[if_pos h3]at h;split at h;{obtain rfl:=bV h;simp only;omega};cases h};rw[if_neg h3]at h;split at h;{split at h;{obtain rfl:=bV h;simp only;omega};cases h};cases h
 ·rw[dif_neg h0]at h;cases h
theorem J1{xs:vM}(h:k<xs.length):Aw (xs.drop k)=xs[k]++Aw (xs.drop (k+1)):=by
 rw[gY h,CZ]
def AN:vV->Nat | .string b=>b.size|_=>0
def Q3(W:vW)(xs:vM)(C:Nat->vW->Prop)(v:vV)(wr:vW):Prop:=∃ k:Nat,k<=xs.length/\v=.string (Aw (xs.drop k))/\C k wr
theorem a02(b:Nat)(xs:vM)(hx:∀ x∈xs,Xu x)(hs:(Aw xs).size<=1000000000):LW prog 216 #[b] xs.length (λk=>#[xs.getD k ⟨#[]⟩,qg]) (λW=>Ae W b (.cells #[Aw xs] 9)):=by
 intro l C Cx hC a1 hS W hY h0;have hB:=(hS 0 W h0).cell (i:=0) (v:=.string (Aw xs)) vF;have HY:=J hY;have H0:=J h0;have a9:=J hs;clear hY h0 hS hs;refine callsIn_of_wp func216 rfl trivial ?_ rfl;simp only[ntmps216,cQ,bQ,cZ,Nat.reduceAdd,Nat.reduceSub,cV,cU,dC,cY,cL,cS];gi_wp2;have b0:=J hC;have b9:=J a1;clear hC a1;gi_loopw [3] (λv wr=>Q3 W xs C v wr) (λv _=>AN v)
 case atStart=>exact⟨0,by omega,rfl,H0.o⟩
 case round =>obtain⟨k,hk,rfl,a2⟩:=hrel;have a3:=J a2;clear a2;by_cases hlt:k<xs.length;{obtain⟨x,A⟩:=vE (xs[k]);have q:=J1 hlt;rw[<-A]at q;obtain⟨y,hy⟩:=vE (Aw (xs.drop (k+1)));(rw[<-hy]at q;have H:(x++y).size<=1000000000:=by(have h1:(Aw (xs.drop k)).size<=(Aw xs).size:=by(have h2:(Aw xs).size=(Aw (xs.take k)).size+(Aw (xs.drop k)).size:=by(conv=>lhs;rw[<-cX k xs]);simp only[Aw,ByteArray.size,bW,List.flatten_append,cQ,bK]);omega);rw[q]at h1;have:=a9.o;omega);obtain⟨r,O,X⟩:=hx x (A ▸ dR hlt) y H;obtain⟨z,hz⟩:=vE (x++y);(have a4:z.size=x.size+y.size:=by rw[hz,cO]);(rw[<-hz]at q H O;rw[q];have K:=VM O;have c0:=Sf K.1;have a5:z.extract (r.2.1+r.2.2) z.size=y:=by rw[X,hz];exact UC x y);(have c4:z.extract 0 x.size=x:=by rw[hz];exact kH x y);(have a7:xs.getD k ()=x:=by rw[bL,bB hlt, <-A];rfl);(have b2:=J a7;have HX:=J A;have b3:=J H;have b4:=J hy;have HZ:=J hz;have Z:=J a4;have HP:=J K;have b5:=J X;clear A q hy hz a7 K X a4;gi_wp2_with fail);refine⟨trivial,rfl,CallsIn.mono (callsIn_wide.2 (YW wr z r H O)) ?_⟩;rintro e w1 ⟨rfl,hE⟩;unfold Va;rw[a5];obtain⟨u,hu⟩:=vE (z.extract r.2.1 (r.2.1+r.2.2));rw[<-hu];obtain⟨b1,o,ln⟩:=r;simp only;clear O a5 hu H;obtain⟨fn,tm,c5,bd,b6,a8⟩:=HY.o k w1 hlt (b0.o k _ _ a3.o hE);simp only[b2.o]at b6;have b7:=J a8;clear hE a8;have c1:(z.size:Int)-(y.size:Int)=(x.size:Int):=kL Z.o;have c2:(x.size:Int)<=(z.size:Int):=kL Z.o;have c3:z.size<=1000000000:=b3.o;gi_wp2;refine⟨rfl,(b7.o.mono ?_)⟩;rintro e w5 (⟨rfl,C5⟩|⟨rfl,C5⟩);{have a0:=J C5;clear C5;gi_wp2;go_roundw;(case rel=>exact⟨k+1,by omega,by rw[<-b4.o],a0.o⟩);case measure=>show y.size<z.size;have:=(show 0<o+ln from HP.o.2);have:=Z.o;have:=(show o+ln=x.size from b5.o);omega};have a0:=J C5;clear C5;gi_wp2;refine bodyPost_ret (results_none rfl _ _ _) rfl ?_;exact⟨⟨_,rfl⟩,.inr ⟨k+1,by omega,by omega,a0.o⟩⟩};have b8:k=xs.length:=vO;(subst b8;have hd:Aw (xs.drop xs.length)=⟨#[]⟩:=by rw[gI];rfl);rw[hd];gi_wp2;refine bodyPost_end (results_none rfl _ _ _) rfl ?_;exact⟨⟨_,rfl⟩,.inl a3.o⟩
theorem xE:vQ 174 #[s] w λe w'=>e=.returned (.func (.func 216) #[] #[w])/\Ae w' w (.cells #[s] 9)/\Af w w':=by
 unfold vQ;go_in;go_wp2
 go_ret
 exact⟨rfl,Ae.new w _,(Aa w).alloc _⟩
theorem Ci:Mn prog 51 9 1 16:=Mn.mk' vY (show (prog.info? 9).map (λi=>(i.zero,i.size,i.bytes))=some (some (.string ⟨#[]⟩),1,16) by kernel_rfl) rfl vI
theorem Z_{t T:TypeId}(I:Mn P t T sz by'){F:Fence}{w0 w:vW}{v:vV}{n:Nat}{xs:List vV}{news:List vV}(hR:Ar T sz w0 w v n xs)(s x:Operand)(hgd:o.guard=none)(hs:a.eval s=v)(hx:a.eval x=.slice (some g) m c)(hB:∀ j u,news[j]?=some u->w.cell? ((g:Addr).add j)=some u)(h1:∀ u∈news,u.oneCell'=true)(hl:news.length=m*sz)
  (ho:o.op=Op.call { callee:=Callee.builtin Builtin.append,args:=#[s,x],argTypes:=#[t,t] }) (h63:n+m<=maxLen) (hby:(n+m)*by'<=140737488355328)
  (h:∀ e w',Ar T sz w0 w' e (n+m) (xs++news)->Ad (λb=>v.ownBlock=some b) w w'->(e.ownBlock=v.ownBlock\/∀ b,e.ownBlock=some b->(w:Nat)<=b)->wpListIn F nn P ops Q rest (a.put o.dst e) w'):wpListIn F nn P ops Q (o::rest) a w:=by
 obtain⟨i,z,H,K,O,X,Z⟩:=I.hi
 exact JN w (o:=o) hgd s x t ho T i z sz by' I.ht H K O X Z I.hsz v n xs hs hR.own g m c news hx hl hB h1 h63 hby (λe w' r1 q A=>h e w' (hR.step r1 q A) q A)
structure CN(w:World)(g m:Nat)(xs:vM)(k:Nat)(W:World):Prop where
 ext:Af w W
 b2:Ae W g (.cells #[qe] 51)
 b3:Ae W (g+1) (.cells #[qa] 27)
 bc:Ae W (g+3) (.cells #[Aw xs] 9)
 row:∃ v,Ae W (g+2) (.cells #[v] 51)/\W.ownsRow 0 9 1 v k ((xs.take k).map Value.string)/\∀ b,v.ownBlock=some b->m+2<=b
theorem CN.st{w:vW}{xs:vM}(h:CN w g m xs k W)(e:Af W W'):CN w g m xs k W':=
 let ⟨v,h1,h2,h3⟩:=h.row
 ⟨h.ext.trans e,h.b2.Z e kI,h.b3.Z e kI,h.bc.Z e kI,v,h1.Z e kI,Kh h2 e,h3⟩
theorem CN.put{w:vW}{xs:vM}(h:CN w g m xs k W)(hr:(w:Nat)<=r)(h1:g+3<r)(h2:r<m+2)(o:Obj):CN w g m xs k (W.putObj r o):=
 let ⟨v,h3,h4,h5⟩:=h.row
 ⟨h.ext.putObj (.inr hr) _,h.b2.z5 vO _,h.b3.z5 vO _,h.bc.z5 vO _,v,h3.z5 vO _,
  Lb h4 (Ad.z7 W r o) λb hb e=>kL (h5 b hb),h5⟩
theorem WX(hx:∀ x∈xs,Xu x)(hs:(Aw xs).size<=1000000000)(hn:xs.length<=1000000):vQ 148 #[Aw xs] w λe w'=>∃ v,e=.returned (.tuple #[v,qa])/\Cg w w' v xs.length xs:=by
 obtain⟨i0,hi,a8,a9,b0⟩:=info_parts Bn
 refine (callsIn_wide (n:=0)).1 ?_;refine callsIn_of_wp_marks func148 rfl trivial ?_ rfl;simp only[ntmps148,cQ,bQ,cZ,Nat.reduceAdd,Nat.reduceSub,cV,cU,dC,cY,cL,cS];gi_wp2_with fail
 obtain⟨W0,q⟩:=vE (((w.alloc (.cells #[qe] 51)).alloc (.cells #[qa] 27)).alloc (.cells #[qe] 51))
 rw[<-q];have a2:(W0:Nat)=↑w+3:=by rw[q];simp
 have E0:Af w W0:=by rw[q];exact ((((Aa w).alloc _).alloc _).alloc _)
 have B2:Ae W0 w (.cells #[qe] 51):=by rw[q];exact ((Ae.new w _).alloc _).alloc _
 have B3:Ae W0 ((w:Nat)+1) (.cells #[qa] 27):=by rw[q];have:=(Ae.new (w.alloc (.cells #[qe] 51)) (.cells #[qa] 27)).alloc (.cells #[qe] 51);rwa [bJ]at this
 have B4:Ae W0 ((w:Nat)+2) (.cells #[qe] 51):=by rw[q];have:=(Ae.new ((w.alloc (.cells #[qe] 51)).alloc (.cells #[qa] 27)) (.cells #[qe] 51));rwa [bJ,bJ]at this
 clear q
 refine⟨trivial,rfl,CallsIn.mono (callsIn_wide.2 (xE W0 (Aw xs))) ?_⟩
 rintro e w1 ⟨rfl,X,hE⟩;rw[a2]at X ⊢;have S0:CN w ↑w w1 xs 0 w1:=⟨E0.trans hE,B2.Z hE kI,B3.Z hE kI,X,_,B4.Z hE kI,fK _ _ _ _,λb hb=>by cases hb⟩;have b6:=X.lt;have b1:=J S0;clear a2 E0 B2 B3 B4 X hE S0 W0;gi_wp2_with fail
 refine' EL (N:=xs.length) (gf:=216) (lb:=#[((w:Nat)+3:)]) rfl (vX 216) (a02 ((w:Nat)+3) xs hx hs) (λk=>rfl) (CN w ↑w w1 xs) (λ_ _ _=>False) (λk W W' h e=>h.st e) (λ_ _ _ _ h _=>h) (λk W h=>h.bc) (λk W o h=>h.put vO vO vO _) (λ_ _ _ _ h=>h) b1.o _ ?hassign ?hbody ?hdone ?hstop
 case hassign =>intro l j W K _ hK;rw[FG];simp only[dM,dG];gi_wp2;exact hK
 case hbody =>intro l k W hk H b7;obtain⟨v,h1,h2,h3⟩:=H.row;obtain⟨ad,A,rfl⟩:=Ir h2;obtain⟨x,a0⟩:=vE (xs.getD k ());(rw[<-a0];have q4:W.cell? ((w:Nat)+1+1:)=some (.slice ad k A):=h1.cell (i:=0) vF;have f4:W.frozen? ((w:Nat)+1+1:)=false:=h1.frozen;have Z:=J H;have H1:=J h1;have H2:=J h2;have H3:=J h3;have b4:=J a0;clear H h1 h2 h3 a0;gi_wp2_with (gi_at_builtin;refine JN _ rfl (.tmp 21) (.tmp 23) 51 rfl 9 i0 _ 1 16 Bg hi a8 a9 b0 rfl vI (.slice ad k A) k _ rfl (Kh H2.o ((Aa W).alloc _)) W 1 1 [x] rfl rfl (Jx (Ae.new W _)) zc zi vO ?_));(intro v' w6 r1 r2 r3;have K6:Ad (λb=>(Value.slice ad k A).ownBlock=some b) W w6:=((Ad.refl _ W).alloc _).trans r2;have e1:((xs.take k).map Value.string++[.string x])=(xs.take (k+1)).map Value.string:=by rw[cP hk,bW,b4.o];simp[bL,hk]);(have r1:w6.ownsRow 0 9 1 v' (k+1) ((xs.take (k+1)).map Value.string):=by rw[<-e1,jO];exact r1);have nb:∀ b,b<(w1:Nat)+2->¬(Value.slice ad k A).ownBlock=some b:=λb hb e=>kL (H3.o b e);obtain⟨a3,a4,rfl⟩:=Ir r1;(have a5:∀ b,(Value.slice a3 (k+1) a4).ownBlock=some b->(w1:Nat)+2<=b:=λb hb=>by rcases r3 with r3|r3;{exact H3.o b (r3 ▸ hb)};have:=r3 b hb;omega);have B4:=H1.o.Z K6 (nb _ vO);have b8:w6.cell? ((w:Nat)+1+1:)=some (.slice ad k A):=B4.cell (i:=0) vF;have b9:w6.frozen? ((w:Nat)+1+1:)=false:=B4.frozen;have O:=J K6;have b5:=J B4;have R1:=J r1;have a7:=J a5;have NB:=J nb;clear K6 r1 r2 r3 e1 a5 B4 nb q4 f4;gi_wp2;have k7:Ad (λb=>b=(w:Nat)+1+1) w6 (w6.setCell ((w:Nat)+1+1:) (.slice a3 (k+1) a4)):=Ad.z4 w6 ((w:Nat)+1+1:) _;refine⟨(O.o.mono λx _ e=>?_).O k7 λx _ e=>?_,?_⟩;{have:=H3.o x e;show x≠_/\x≠_;omega};{have e:x=_:=e;show x≠_/\x≠_;omega};refine⟨(Z.o.ext.O O.o λx hx e=>kL (H3.o x e)).O k7 kJ,(Z.o.b2.Z O.o (NB.o _ vO)).Z k7 λe=>by omega,(Z.o.b3.Z O.o (NB.o _ vO)).Z k7 λe=>by omega,(Z.o.bc.Z O.o (NB.o _ vO)).Z k7 λe=>by omega,_,b5.o.z2 (i:=0) _,Lb R1.o k7 λb hb e=>kL (a7.o b hb),a7.o⟩
 case hdone =>intro W H hd;obtain⟨v,h1,h2,h3⟩:=H.row;obtain⟨ad,A,rfl⟩:=Ir h2;have q4:W.cell? ((w:Nat)+1+1:)=some (.slice ad xs.length A):=h1.cell (i:=0) vF;have q2:=H.b2.cell (i:=0) (v:=.slice none 0 0) vF;have f2:W.frozen? w=false:=H.b2.frozen;have q3:=H.b3.cell (i:=0) (v:=.int .i64 0) vF;have f3:W.frozen? ((w:Nat)+1:)=false:=H.b3.frozen;have Z:=J H;have H2:=J h2;have H3:=J h3;have HD:=J hd;clear H h1 h2 h3 hd;gi_wp2;obtain⟨W3,a1⟩:=vE ((W.setCell w (.slice ad xs.length A)).setCell ((w:Nat)+1:) qa);(rw[<-a1];have B2:=(Z.o.b2.z2 (i:=0) (.slice ad xs.length A)).z6 (p:=((w:Nat)+1:)) (by show (w:Nat)≠↑w+1;omega) qa;have B3:=(Z.o.b3.z6 (p:=w) (by show (w:Nat)+1≠↑w;omega) (.slice ad xs.length A)).z2 (i:=0) qa;have BD:=(HD.o.z6 (p:=w) (by show (w1:Nat)≠↑w;omega) (.slice ad xs.length A)).z6 (p:=((w:Nat)+1:)) (by show (w1:Nat)≠↑w+1;omega) qa;rw[<-a1]at B2 B3 BD;have K3:Ad (λb=>b=(w:Nat)\/b=(w:Nat)+1\/b=(w1:Nat)) W (W3.putObj w1 (.deferred none)):=by rw[a1];exact (((Ad.refl _ W).setCell (.inl (.inl rfl)) _).setCell (.inl (.inr (.inl rfl))) _).putObj (.inl (.inr (.inr rfl))) _);have c2:(W3.putObj w1 (.deferred none)).cell? w=some (.slice ad xs.length A):=(B2.z5 vO _).cell (i:=0) (by simp);have c3:(W3.putObj w1 (.deferred none)).cell? ((w:Nat)+1:)=some (.int .i64 0):=(B3.z5 vO _).cell (i:=0) (by simp);refine⟨by simp,.inl ⟨_,_,rfl,run_takeDeferred BD,?_⟩⟩;refine⟨.tuple #[.slice ad xs.length A,qa],by simp[results,results148,go_sem,c2,c3],?_⟩;refine⟨_,rfl,⟨_,_,rfl⟩,?_,Z.o.ext.O K3 λx hx e=>by omega,λb hb=>kL (H3.o b hb)⟩;have h5:=Lb H2.o K3 (λb hb e=>kL (H3.o b hb));rwa [cF]at h5
 case hstop=>intro c k W _ _ h;exact h.elim
end
theorem qU:∀ (f n:Nat),n<256 ^ f->Sc (Pi f n).reverse=n
 |0,n,h=>by simp at h;subst h;rfl
 |f+1,n,h=>by
  unfold Pi
  by_cases h0:n=0
  ·rw[if_pos h0,h0];rfl
  ·rw[if_neg h0,List.reverse_cons,mK,qU f (n / 256) (by rw[Nat.pow_succ]at h;omega)]
   have:(UInt8.ofNat n).toNat=n % 256:=rfl
   omega
theorem nJ:∀ (f n:Nat),n<256 ^ f->0<n->∃ x l,(Pi f n).reverse=x::l/\x≠0
 |0,n,h,h0=>by simp at h;omega
 |f+1,n,h,h0=>by
  unfold Pi;rw[if_neg vO,List.reverse_cons]
  by_cases h1:n / 256=0
  ·have:Pi f (n / 256)=[]:=by rw[h1];cases f<;>simp[Pi]
   rw[this]
   refine⟨_,_,rfl,λe=>?_⟩
   have H:(UInt8.ofNat n).toNat=(0:vU).toNat:=by rw[e]
   have:(UInt8.ofNat n).toNat=n % 256:=rfl
   have q:(0:vU).toNat=0:=rfl;omega
  ·obtain⟨x,l,A,q⟩:=nJ f (n / 256) (by rw[Nat.pow_succ]at h;omega) vO
   exact⟨x,l++[UInt8.ofNat n],by rw[A];rfl,q⟩
theorem NS(a:vU)(t:vN):Dx ⟨(a::t).toArray⟩ =
  (if a.toNat<128 then some (false,0,1)else
   if (if a.toNat<192 then a.toNat-128 else a.toNat-192)<=55 then
    if 1+(if a.toNat<192 then a.toNat-128 else a.toNat-192)<=t.length+1/\(decide (192<=a.toNat)=true\/(if a.toNat<192 then a.toNat-128 else a.toNat-192)≠1\/128<=((a::t).getD 1 0).toNat)then some (decide (192<=a.toNat),1,(if a.toNat<192 then a.toNat-128 else a.toNat-192))else none
   else match Sa ⟨(a::t).toArray⟩ (1+((if a.toNat<192 then a.toNat-128 else a.toNat-192)-55))with
    |some n=>if 1+((if a.toNat<192 then a.toNat-128 else a.toNat-192)-55)+n<=t.length+1 then some (decide (192<=a.toNat),1+((if a.toNat<192 then a.toNat-128 else a.toNat-192)-55),n)else none
    |none=>none):=by
 have e:(⟨(a::t).toArray⟩:vB).size=t.length+1:=rfl;have q:0<(⟨(a::t).toArray⟩:vB).size:=by rw[e];omega
 have A:(⟨(a::t).toArray⟩:vB)[0]'q=a:=rfl;unfold Dx;rw[dif_pos q];simp only[A,e]
 by_cases h1:a.toNat<128
 ·rw[if_pos h1,if_pos h1]
 ·rw[if_neg h1,if_neg h1];by_cases h2:a.toNat<192;{simp only[if_pos h2,show decide (192<=a.toNat)=false by simp;omega];rfl};simp only[if_neg h2,show decide (192<=a.toNat)=true by simp;omega];rfl
def hb(l:Bool):vU:=if l then 192 else 128
theorem tK(a b:vU)(h:a.toNat+b.toNat<256):(a+b).toNat=a.toNat+b.toNat:=by rw[UInt8.toNat_add];omega
theorem IX(n:Nat)(h:n<256):(UInt8.ofNat n).toNat=n:=by show n % 256=n;omega
theorem sX:(hb l).toNat=if l then 192 else 128:=by cases l<;>rfl
theorem H9(b y:vN)(hn:b.length<=1048576)(h1:l=false->b.length=1->128<=(b.headD 0).toNat):Dx ⟨((Nq (hb l) b.length).data.toList++(b++y)).toArray⟩=some (l,(Nq (hb l) b.length).size,b.length):=by
 by_cases hs:b.length<=55
 ·(have he:(Nq (hb l) b.length)=⟨#[hb l+UInt8.ofNat b.length]⟩:=by unfold Nq;rw[if_pos hs]);(rw[he];have q:(hb l+UInt8.ofNat b.length).toNat=(if l then 192 else 128)+b.length:=by rw[tK _ _ (by rw[sX,IX _ vO];split<;>omega),sX,IX _ vO]);have a0:(⟨#[hb l+UInt8.ofNat b.length]⟩:vB).size=1:=rfl;rw[a0];obtain⟨a,e⟩:=vE (hb l+UInt8.ofNat b.length);(rw[<-e]at q ⊢;have hm:(if a.toNat<192 then a.toNat-128 else a.toNat-192)=b.length:=by(rw[q];cases l<;>simp only[cH,if_false,if_true]);{rw[if_pos vO];omega};rw[if_neg vO];omega);(have A:decide (192<=a.toNat)=l:=by rw[q];cases l<;>simp<;>omega);show Dx ⟨(a ::(b++y)).toArray⟩=_;rw[NS,hm,A,if_neg (by rw[q];split<;>omega),if_pos hs,if_pos];refine⟨by rw[bK];omega,?_⟩;cases l with| true=>exact .inl rfl| false =>refine .inr ?_;by_cases h2:b.length=1;{refine .inr ?_;have:=h1 rfl h2;match b,h2 with| [x],_=>simpa using this};exact .inl h2
 ·obtain⟨d,Z⟩:=vE (Pi 8 b.length).reverse;have hp:b.length<256 ^ 8:=vO;(have a7:d.length<=8:=by rw[Z,List.length_reverse];exact EQ _ _);(have a1:Sc d=b.length:=by rw[Z];exact qU _ _ hp);obtain⟨x,r,H,a2⟩:=nJ 8 b.length hp vO;(rw[<-Z]at H;have K:Hr b.length=⟨d.toArray⟩:=by unfold Hr;rw[Z]);(have a3:(⟨d.toArray⟩:vB).size=d.length:=rfl;have he:(Nq (hb l) b.length)=⟨#[hb l+55+UInt8.ofNat d.length]⟩++⟨d.toArray⟩:=by unfold Nq;rw[if_neg hs,K,a3]);(have O:(Nq (hb l) b.length).data.toList=(hb l+55+UInt8.ofNat d.length)::d:=by rw[he,dN];simp);(have a4:(Nq (hb l) b.length).size=1+d.length:=by show (Nq (hb l) b.length).data.toList.length=_;rw[O,bQ];omega);(rw[O,a4];have X:(hb l+55:vU).toNat=(if l then 192 else 128)+55:=by cases l<;>rfl);(have q:(hb l+55+UInt8.ofNat d.length).toNat=(if l then 192 else 128)+55+d.length:=by rw[tK _ _ (by rw[X,IX _ vO];split<;>omega),X,IX _ vO]);obtain⟨a,e⟩:=vE (hb l+55+UInt8.ofNat d.length);(rw[<-e]at q ⊢;have a8:1<=d.length:=by rw[H];simp);(have hm:(if a.toNat<192 then a.toNat-128 else a.toNat-192)=55+d.length:=by(rw[q];cases l<;>simp only[cH,if_false,if_true]);{rw[if_pos vO];omega};rw[if_neg vO];omega);(have A:decide (192<=a.toNat)=l:=by rw[q];cases l<;>simp<;>omega);(have a5:Sa ⟨(a ::(d++(b++y))).toArray⟩ (1+d.length)=some b.length:=by(have e1:((⟨(a ::(d++(b++y))).toArray⟩:vB).data.toList.take (1+d.length)).drop 1=d:=by show ((a ::(d++(b++y))).take (1+d.length)).drop 1=d;rw[jE,fM,List.drop_succ_cons,List.drop_zero,List.take_left]);unfold Sa;rw[if_neg,e1,a1,if_pos ⟨by omega,hn⟩];rintro (h|h);{have:(⟨(a ::(d++(b++y))).toArray⟩:vB).size=(d++(b++y)).length+1:=rfl;rw[this,bK]at h;omega};(have:(⟨(a ::(d++(b++y))).toArray⟩:vB).data.toList.getD 1 0=x:=by rw[H];rfl);rw[this]at h;exact a2 h);show Dx ⟨(a ::(d++(b++y))).toArray⟩=_;rw[NS,hm,A,if_neg (by rw[q];split<;>omega),if_neg vO,show 55+d.length-55=d.length by omega,a5];simp only[bK];rw[if_pos vO]
theorem QF:s=⟨s.data.toList.toArray⟩:=rfl
theorem jY(hn:b.size<=1048576)(h1:l=false->b.size=1->128<=(b.data.toList.headD 0).toNat):Dx (Nq (hb l) b.size++b++y)=some (l,(Nq (hb l) b.size).size,b.size):=by
 have h:=H9 l b.data.toList y.data.toList hn h1;rw[QF (Nq (hb l) b.size++b++y)];simp only[dN,fO,bZ];exact h
theorem ZT:(h++b++y).extract h.size (h.size+b.size)=b:=by
 apply ByteArray.ext;apply Array.ext';rw[fA,fV,dN,dN,fO,fO,fB,show h.size+b.size-h.size=b.data.toList.length by show _=b.size;omega,bZ,show h.size=h.data.toList.length from rfl,fL,List.take_left]
theorem kD(hn:b.size<=1048576):∃ o,Dx (Av b++y)=some (false,o,b.size)/\o+b.size=(Av b).size/\(Av b++y).extract o (o+b.size)=b:=by
 by_cases h:b.size=1/\b.data.toList.headD 255<128
 ·obtain⟨H,A⟩:=h;obtain⟨⟨lb⟩⟩:=b;have e:lb.length=1:=H;match lb,e,A with| [x],_,A =>(have K:x.toNat<128:=dU.1 A;have q:Av ⟨#[x]⟩=⟨#[x]⟩:=by unfold Av;rw[if_pos ⟨rfl,A⟩]);refine⟨0,?_,?_,?_⟩;{rw[show (⟨[x].toArray⟩:vB)=⟨#[x]⟩from rfl,q,QF (_++y),dN,fO];show Dx ⟨(x::y.data.toList).toArray⟩=_;rw[NS,if_pos K];rfl};{rw[show (⟨[x].toArray⟩:vB)=⟨#[x]⟩from rfl,q];rfl};rw[show (⟨[x].toArray⟩:vB)=⟨#[x]⟩from rfl,q,bX];exact kH _ _
 ·(have q:Av b=Nq (hb false) b.size++b:=by unfold Av;rw[if_neg h];rfl);rw[q];refine⟨_,jY false b y hn λ_ H=>?_,by rw[cO],ZT _ _ _⟩;obtain⟨⟨lb⟩⟩:=b;have e:lb.length=1:=H;match lb,e,h with| [x],_,h =>have X:¬ x<128:=λO=>h ⟨rfl,O⟩;have Z:¬ x.toNat<(128:vU).toNat:=λO=>X (dU.2 O);have h5:(128:vU).toNat=128:=rfl;show 128<=x.toNat;omega
theorem jZ(hn:(Aw xs).size<=1048576):∃ o,Dx (Fo xs++y)=some (true,o,(Aw xs).size)/\o+(Aw xs).size=(Fo xs).size/\(Fo xs++y).extract o (o+(Aw xs).size)=Aw xs:=by
 have e:Fo xs=Nq (hb true) (Aw xs).size++Aw xs:=rfl;rw[e]
 exact⟨_,jY true _ y hn (λh=>by cases h),by rw[cO],ZT _ _ _⟩
theorem Yp(hn:b.size<=1048576):Xu (Av b):=λy _=>let ⟨o,h1,h2,_⟩:=kD b y hn;⟨_,h1,h2⟩
theorem ZW(hn:(Aw xs).size<=1048576):Xu (Fo xs):=λy _=>let ⟨o,h1,h2,_⟩:=jZ xs y hn;⟨_,h1,h2⟩
theorem pY:x++⟨#[]⟩=x:=ByteArray.append_empty
theorem KF(hn:b.size<=1048576):∃ o,Dx (Av b)=some (false,o,b.size)/\o+b.size=(Av b).size/\(Av b).extract o (o+b.size)=b:=by
 have:=kD b () hn;rwa [pY]at this
theorem GF(hn:(Aw xs).size<=1048576):∃ o,Dx (Fo xs)=some (true,o,(Aw xs).size)/\o+(Aw xs).size=(Fo xs).size/\(Fo xs).extract o (o+(Aw xs).size)=Aw xs:=by
 have:=jZ xs () hn;rwa [pY]at this
theorem JU(hn:b.size<=1048576):∃ r,Dx (Av b)=some r/\Zd (Av b) r=some b:=by
 obtain⟨o,e,q,A⟩:=KF b hn
 exact⟨_,e,by unfold Zd;rw[if_pos ⟨rfl,q⟩,A]⟩
theorem GI(hn:b.size=32):∃ r,Dx (Av b)=some r/\Vx (Av b) r=some b:=by
 obtain⟨r,e,q⟩:=JU b vO
 exact⟨r,e,by unfold Vx;rw[q];simp[Option.filter,hn]⟩
theorem jl2(hn:(Aw xs).size<=1048576):∃ r,Dx (Fo xs)=some r/\Vx (Fo xs) r=none:=by
 obtain⟨o,e,q,A⟩:=GF xs hn
 exact⟨_,e,by unfold Vx Zd;rw[if_neg (by simp)];rfl⟩
section
attribute [local go_sem] Oper.semAt_some
theorem Gz{w:vW}(t:TypeId)(x:Operand)(ho:o.op=.load t x)(hw:Region.wanted o (yielded ops a.tmps)=true)(v:vV)(p:Addr)(hx:a.eval x=.pointer (some p))
  (hr:(Instr.loadAt t p).run P w=.ok v w) (h:wpList P ops Q rest (a.put o.dst v) w):wpList P ops Q (o::rest) a w:=by
 unfold wpList;rw[if_pos hw];refine .inl (Ro (v:=v) (w':=w) ?_ h);simp only[execOp,ho,hx,bS,hr,Result.andThen,cT]
theorem SH(W:vW)(n:Ai)(hr:n.refs.length=16):(Instr.loadAt 301 W).run prog (W.alloc (.cells n.cells.toArray 301))=.ok n.V (W.alloc (.cells n.cells.toArray 301)):=
 EC _ _ n hr (Ae.new W _)
theorem Sv:Xq (prog.underlying 215)=true:=vY
theorem Ab:(prog.info? 215).map (·.size)=some 19:=vY
theorem Ka(W:vW)(b:Nat)(n:Ai)(hr:n.refs.length=16)(hB:Ae W b (.cells n.cells.toArray 215)):(Instr.loadAt 215 b).run prog W=.ok n.V W:=by
 obtain⟨A,e⟩:=Yo Sv
 exact Yr e (by rw[n.z3 hr];exact Ab) (λj v q=>by rw[OI];exact hB.z1 q)
theorem wG(hr:n.refs.length=16)(hp:n.y2 0=true)(h0:0<n.value.size)(h8:n.value.size<=80)(hb:n.y5=0):vR 203 #[n.V] w true:=by
 have H:n.path.size<=1000000:=by have:n.y2 0=true:=hp;simp only[Ai.y2,cI,decide_eq_true_eq]at this;omega
 have q:=SH w n hr;have Z:n.cells[2]?=some (.string n.value):=rfl;have a0:=Sf h0;have c1:(n.value.size:Int)<=80:=vO
 have HP:=J hp;have HB:=J hb;have HH:=J h0;unfold Ai.V at q ⊢;unfold vR vQ;go_in;go_wp2_with (refine Gz 301 (.tmp 1) rfl rfl _ _ rfl q ?_)
 refine vC (rR _ n hr 0 H) λw1 A=>?_;rw[HP.o];have X:=(Ae.new w (.cells n.cells.toArray 301)).Z A kI;have q2:=X.z1 Z;have e:=EC w1 _ n hr X;have K:=J (((Aa w).alloc _).trans A);unfold Ai.V at e;go_wp2_with (refine Gz 301 (.tmp 1) rfl rfl _ _ rfl e ?_)
 refine vC (lY _ n hr) λw2 A=>?_;rw[HB.o];have O:=J (K.o.trans A);go_wp2
 go_ret
 exact⟨rfl,O.o⟩
def Cv:Ai:=⟨0,⟨#[]⟩,⟨#[]⟩,List.replicate 16 ()⟩
theorem uN:vR 202 #[Cv.V] w true:=by
 have e:=SH w Cv rfl;have q:Cv.cells.toArray=#[.int .i64 0,.string ⟨#[]⟩,.string ⟨#[]⟩,.string ⟨#[]⟩,.string ⟨#[]⟩,.string ⟨#[]⟩,.string ⟨#[]⟩,.string ⟨#[]⟩,.string ⟨#[]⟩,.string ⟨#[]⟩,.string ⟨#[]⟩,.string ⟨#[]⟩,.string ⟨#[]⟩,.string ⟨#[]⟩,.string ⟨#[]⟩,.string ⟨#[]⟩,.string ⟨#[]⟩,.string ⟨#[]⟩,.string ⟨#[]⟩]:=rfl;unfold Ai.V at e ⊢;rw[q]at e ⊢;have A:∀ w,(binOp .eql 301 (.agg #[qa,(),(),(),(),(),(),(),(),(),(),(),(),(),(),(),(),(),()]) (.agg #[qa,(),(),(),(),(),(),(),(),(),(),(),(),(),(),(),(),(),()])).run prog w=.ok true w:=λw=>by kernel_rfl
 unfold vR vQ;go_in;go_wp2_with (refine Gz 301 (.tmp 1) rfl rfl _ _ rfl e ?_)
 go_ret
 exact⟨rfl,(Aa w).alloc _⟩
end
