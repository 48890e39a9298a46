/- Lemmas; each is under no condition but those that it states. -/
import Derived.Test.YtgppadbgofalpaaGreatDoorPa0
import Derived.Test.YtgppadbgofalpaaGreatDoorPa10
namespace Go.Proofs.YtgppadbgofalpaaGreatDoor
set_option linter.unusedSimpArgs false
set_option linter.unusedVariables false
set_option maxRecDepth 100000
set_option maxHeartbeats 16000000
open Go Go.RowKit
variable (l:Bool)(h p x b:vB)(w:vW)(xs:vM)(s y:vB)(n:Ai){a:Act}{ops:Array Oper}{Q:Exit->Act->vW->Prop}{rest:List Oper}{k gn gs gb sz by' nn g m c r:Nat}{o:Oper}{P:Program}{W W':vW}
theorem Pw:(Ay b).size<=b.size+9:=by
 unfold Ay;split
 ·omega
 ·rw[cM];have:=BV 128 b.size;omega
theorem A_:(Iz s).size=s.size / 2:=by
 show (Rd s.data.toList).length=_;rw[JS];rfl
theorem Wh(leaf:Bool):(Cs p leaf).size<=p.size / 2+1:=by
 unfold Cs;rw[A_];show (Ve p leaf++p.data.toList).length / 2<=_;rw[bK,show p.data.toList.length=p.size from rfl];unfold Ve Mj
 by_cases h:p.size % 2=1
 ·simp[h];omega
 ·(have:(p.size % 2 == 1)=false:=by simpa using h);rw[this];simp
theorem Ti:(Aw (x :: xs)).size=x.size+(Aw xs).size:=by
 show ((x :: xs).map (·.data.toList)).flatten.length=x.data.toList.length+(xs.map (·.data.toList)).flatten.length;rw[bN,List.flatten_cons,bK]
theorem BZ:(Aw []).size=0:=rfl
theorem BA(T:TypeId):Ic (w.alloc (.cells (xs.map Value.string).toArray T)) (.slice (some w) xs.length xs.length) xs:=
 .inr ⟨w.heap.size,0,xs.length,rfl,by simp,bP _,fun j x e=>by rw[bX];exact (Ae.new w _).cellL (by rw[bY,e];rfl)⟩
def CQ(n:Ai):vB:=Fj [Ay (Cs n.path true),Ay n.value]
def Qy(n:Ai):vB:=Fj [Ay (Cs n.path false),n.refs.getD 0 ⟨#[]⟩]
theorem jqh(hps:n.path.size<=900000)(hvs:n.value.size<=100000)(hv:Dz n.path=true):vR 207 #[n.V] w (CQ n):=by
 obtain⟨k,p,v,rs⟩:=n
 simp only at hps hvs hv;unfold Ai.V;have e1:(Ai.cells ⟨k,p,v,rs⟩)[1]?=some (.string p):=rfl;have e2:(Ai.cells ⟨k,p,v,rs⟩)[2]?=some (.string v):=rfl;have H:=Wh p true;have J:=Pw (Cs p true);have a0:=Pw v;unfold vR vQ;go_in;go_wp2_with fail
 refine vC (XO _ p true hps hv) fun w1 hE=>?_;have hB:=(Ae.new w _).keeps hE kI;have O:=((Aa w).alloc _).trans hE
 obtain⟨g,hg⟩:=vE w.heap.size
 rw[<-hg]at hB ⊢;have q2:=hB.cellL e2
 obtain⟨e,q⟩:=vE (Cs p true)
 rw[<-q]at H J ⊢;have HL:=Hd (show CQ ⟨k,p,v,rs⟩=Fj [Ay e,Ay v] by unfold CQ;rw[q]);have X:=Hd O;have Q2:=Hd q2;have A:e.size<=1000000000:=vO
 have hc:(Aw [Ay e,Ay v]).size<=1000000000:=by rw[Ti,Ti,BZ];omega
 have HC:=Hd hc;have HP:=Hd A;have HV:=Hd hvs;clear e1 e2 H J a0 hB hg q hE O q2 A hc hps hv hvs;go_wp2_with fail
 refine Ij [0,2,1,3,4,5,6,7] Af Aa Aq vY vY vY ?_;iterate 2 refine vK ?_
 refine Ls _ 29 #[e] (Ay e) rfl (fun w1=>Ex (vX 29) vY) (fun w1 h1=>Rf w1 e HP.o) (vS ?_);refine Dc ⟨g,2,none⟩ _ rfl (fun w2 h2=>Bq Ag rfl (Am (by exact Q2.o) h2)) (vS ?_);refine Ls _ 29 #[v] (Ay v) rfl (fun w1=>Ex (vX 29) vY) (fun w1 h1=>Rf w1 v (kL HV.o)) (vS ?_);refine CD _ rfl vY rfl (fun w2 Z K hK=>?_);have a1:=Hd (X.o.trans ((Ap w1).trans Z));have HR:=Hd (BA w2 [Ay e,Ay v] 9);clear Z X Q2 HV HP;go_simp;refine hK _ _ ((Aa w2).alloc _) ?_;clear hK K;refine Ls _ 99 _ (Fj [Ay e,Ay v]) rfl (fun w1=>Ex (vX 99) vY) (fun w3 h3=>KU w3 _ [Ay e,Ay v] (HR.o.ext (by exact h3)) HC.o (show 2<=1000000000 by decide)) (vS ?_)
 refine vK ?_
 refine Hv (fun w3 Z=>?_);go_wp2_with fail
 go_ret
 exact⟨by rw[HL.o];rfl,(a1.o.alloc _).trans Z⟩
theorem jsd(hps:n.path.size<=900000)(r:vB)(hr:n.refs=r :: n.refs.tail)(hvs:r.size<=100000)(hv:Dz n.path=true):vR 208 #[n.V] w (Qy n):=by
 obtain⟨k,p,v,rs⟩:=n
 simp only at hps hvs hr hv;cases rs with
 | nil=>cases hr
 | cons r' rt =>
 simp only[List.tail_cons,List.cons.injEq,and_true]at hr;subst hr;unfold Ai.V;have e1:(Ai.cells ⟨k,p,v,r' :: rt⟩)[1]?=some (.string p):=rfl;have e2:(Ai.cells ⟨k,p,v,r' :: rt⟩)[3]?=some (.string r'):=rfl;have H:=Wh p false;have J:=Pw (Cs p false);unfold vR vQ;go_in;go_wp2_with fail
 refine vC (XO _ p false hps hv) fun w1 hE=>?_;have hB:=(Ae.new w _).keeps hE kI;have O:=((Aa w).alloc _).trans hE
 obtain⟨g,hg⟩:=vE w.heap.size
 rw[<-hg]at hB ⊢;have q2:=hB.cellL e2
 obtain⟨e,q⟩:=vE (Cs p false)
 rw[<-q]at H J ⊢;have HL:=Hd (show Qy ⟨k,p,v,r' :: rt⟩=Fj [Ay e,r'] by unfold Qy;rw[q];rfl);have X:=Hd O;have Q2:=Hd q2;have A:e.size<=1000000000:=vO
 have hc:(Aw [Ay e,r']).size<=1000000000:=by rw[Ti,Ti,BZ];omega
 have HC:=Hd hc;have HP:=Hd A;have HV:=Hd hvs;clear e1 e2 H J hB hg q hE O q2 A hc hps hv hvs;go_wp2_with fail
 refine Ij [0,1,2,3,4,5,6,7] Af Aa Aq vY vY vY ?_
 refine vK ?_
 refine Ls _ 29 #[e] (Ay e) rfl (fun w1=>Ex (vX 29) vY) (fun w1 h1=>Rf w1 e HP.o) (vS ?_);iterate 2 refine vK ?_
 refine Dc ⟨g,3,none⟩ _ rfl (fun w2 h2=>Bq Ag rfl (Am (by exact Q2.o) h2)) (vS ?_);refine CD _ rfl vY rfl (fun w2 Z K hK=>?_);have a0:=Hd (X.o.trans ((Ap w1).trans Z));have HR:=Hd (BA w2 [Ay e,r'] 9);clear Z X Q2 HV HP;go_simp;refine hK _ _ ((Aa w2).alloc _) ?_;clear hK K;refine Ls _ 99 _ (Fj [Ay e,r']) rfl (fun w1=>Ex (vX 99) vY) (fun w3 h3=>KU w3 _ [Ay e,r'] (HR.o.ext (by exact h3)) HC.o (show 2<=1000000000 by decide)) (vS ?_)
 refine vK ?_
 refine Hv (fun w3 Z=>?_);go_wp2_with fail
 go_ret
 exact⟨by rw[HL.o];rfl,(a0.o.alloc _).trans Z⟩
section
attribute [local go_sem] Oper.semAt_some
def Ai.ri(n:Ai)(k:Nat):Nat:=(n.refsL.getD k (0,⟨#[]⟩)).1
def Ai.rr(n:Ai)(k:Nat):vB:=(n.refsL.getD k (0,⟨#[]⟩)).2
theorem PP(k:Nat):n.rv k=#[.int .i64 (n.ri k:Nat),.string (n.rr k)]:=rfl
def Xg(d:Option TypeDesc):Bool:=match d with | some (.struct _)=>true | _=>false
theorem Yd{d:Option TypeDesc}(h:Xg d=true):∃ fs,d=some (.struct fs):=by
 cases d with
 | none=>cases h
 | some d=>cases d <;> first | exact⟨_,rfl⟩ | cases h
theorem Sd:Xg (Tryz.prog.underlying 302)=true:=vY
theorem RO:∀ (l:vM) (i:Nat) (x:Nat × vB),x∈Gt i l->i<=x.1/\x.1 < i+l.length/\l[x.1 - i]?=some x.2/\x.2.size≠0
 | [],i,x,h=>by cases h
 | r :: l,i,x,h=>by
  have e:x∈Gt (i+1) l->i<=x.1/\x.1 < i+(r :: l).length/\(r :: l)[x.1 - i]?=some x.2/\x.2.size≠0:=fun h=>by
   obtain⟨H,J,q,A⟩:=RO l (i+1) x h
   refine⟨by omega,by simp;omega,?_,A⟩
   rw[show x.1 - i=(x.1 - (i+1))+1 by omega,List.getElem?_cons_succ];exact q
  unfold Gt at h;split at h
  ·exact e h
  ·rename_i hr
   rcases bT.1 h with rfl | h
   ·exact⟨bP _,by simp,by simp,hr⟩
   ·exact e h
theorem PO(hr:n.refs.length=16)(hk:k < n.refsL.length):n.ri k < 16/\n.refs[n.ri k]?=some (n.rr k)/\(n.rr k).size≠0:=by
 have e:(n.refsL.getD k (0,⟨#[]⟩))∈n.refsL:=by rw[bJ,bB hk];exact fB _
 obtain⟨_,q,A,H⟩:=RO n.refs 0 _ e
 rw[hr]at q
 exact⟨by unfold Ai.ri;omega,A,H⟩
theorem Sg:(Tryz.prog.info? 302).map (·.size)=some 19:=vY
theorem DJ(W:vW)(b:Nat)(n:Ai)(hr:n.refs.length=16)(hB:Ae W b (.cells n.cells.toArray 302)):(Instr.loadAt 302 b).run Tryz.prog W=.ok n.V W:=by
 obtain⟨A,e⟩:=Yd Sd
 exact Yg e (by rw[n.cells_len hr];exact Sg) (fun j v q=>by rw[NQ];exact hB.cellL q)
def XE(n:Ai)(k:Nat):Nat:=match k with | 0=>0 | k+1=>n.ri k+1
def Ai.behindN(n:Ai):Nat:=XE n n.refsL.length
def PZ(w:vW)(gn gb:Nat)(n:Ai)(k:Nat)(W:vW):Prop:=Af w W/\Ae W gn (.cells n.cells.toArray 302)/\Ae W gb (.cells #[.int .i64 (XE n k:Nat)] 3)
theorem lQ(hr:n.refs.length=16):vR 233 #[n.V] w (.int .i64 (n.behindN:Nat)):=by
 obtain⟨W0,A⟩:=vE ((w.alloc (.cells n.cells.toArray 302)).alloc (.cells #[.int .i64 0] 3))
 have B0:Ae W0 w.heap.size (.cells n.cells.toArray 302):=by rw[A];exact (Ae.new w _).alloc _
 have J:=DJ W0 w.heap.size n hr B0;rw[A]at J;unfold Ai.V at J ⊢;refine (callsIn_wide (n:=0)).1 ?_;refine callsIn_of_wp_marks Tryz.func233 rfl trivial ?_ rfl;simp only[Tryz.ntmps233,cQ,bS,cY,Nat.reduceAdd,Nat.reduceSub,cT,cS,dC,cW,cL,cR];gi_wp2_with (refine AJ rfl 302 (.tmp 1) rfl _ _ rfl J ?_)
 refine⟨trivial,rfl,CallsIn.mono (callsIn_wide.2 (OZ _ n)) ?_⟩
 rintro e w1 ⟨rfl,O,hE⟩;rw[<-A]at O hE ⊢
 obtain⟨X,a0⟩:=vE (w.heap.size+1)
 have a1:Af w W0:=by rw[A];exact ((Aa w).alloc _).alloc _
 have B1:Ae W0 X (.cells #[.int .i64 0] 3):=by rw[A,a0];have:=Ae.new (w.alloc (.cells n.cells.toArray 302)) (.cells #[.int .i64 0] 3);rwa [bG]at this
 have a4:W0.heap.size=w.heap.size+2:=by rw[A];simp
 have B2:=B1.keeps hE kI;rw[<-a0]
 obtain⟨gn,a2⟩:=vE W0.heap.size
 rw[<-a2]at O ⊢;have a5:X≠gn:=vO
 have b0:=B2.lt;have b1:=O.lt;have a3:=a1.trans hE;have a7:w.heap.size<=X:=vO
 have a8:w.heap.size<=w1.heap.size:=a3.size;have a9:=Hd a3;clear J hE a1 B0 B1 a4 a0 a2 A W0;gi_wp2_with fail
 refine' DK (N:=n.refsL.length) (gf:=210) (lb:=#[.pointer (some ⟨gn,0,none⟩)]) rfl (vX 210) (OC gn n hr) (fun k=>rfl) (PZ w gn X n) (fun _ _ _=>False) (fun k W W' ⟨Z,h2,H⟩ e=>⟨Z.trans e,h2.keeps e kI,H.keeps e kI⟩) (fun _ _ _ _ h _=>h) (fun k W ⟨_,h,_⟩=>h) (fun k W o ⟨Z,h2,H⟩=>⟨Z.putObj (.inr vO) _,h2.put_other vO _,H.put_other vO _⟩) (fun _ _ _ _ h=>h) ⟨a9.o,O,B2⟩ _ ?hassign ?hbody ?hdone ?hstop
 case hassign =>intro l j W K _ hK;rw[PP,EL];simp only[dJ,dE];gi_wp2;exact hK
 case hbody =>intro l k W hk ⟨Z,h2,H⟩ hlt;have q:=H.cell (i:=0) (v:=.int .i64 (XE n k:Nat)) vF;have f:W.frozen? ⟨X,0,none⟩=false:=H.frozen;have H1:=Hd Z;have H2:=Hd h2;have H3:=Hd H;clear Z h2 H;have b2:=(PO n hr hk).1;gi_wp2;rw[show ((n.ri k:Nat):Int)+1=((n.ri k+1:Nat):Int)from by omega];have hx:Ad (fun b=>b≠w1.heap.size/\b≠w1.heap.size+1) W (W.setCell ⟨X,0,none⟩ (.int .i64 ((n.ri k+1:Nat):Int))):=(Ad.refl _ W).setCell (.inl ⟨by show X≠_;omega,by show X≠_;omega⟩) _;exact⟨hx,H1.o.setCell (.inr a7) _,H2.o.set_other (p:=⟨X,0,none⟩) (fun e=>a5 e.symm) _,H3.o.set_same (i:=0) _⟩
 case hdone =>intro W ⟨Z,h2,H⟩ hd;have q:=H.cell (i:=0) (v:=.int .i64 (n.behindN:Nat)) vF;have H1:=Hd Z;have HD:=Hd hd;clear Z h2 H hd;gi_wp2;refine⟨by simp,.inl ⟨_,_,rfl,run_takeDeferred HD.o,?_⟩⟩;refine⟨_,results_tmp rfl _ _ _,?_⟩;exact⟨rfl,H1.o.putObj (.inr a8) _⟩
 case hstop=>intro c k W _ _ h;exact h.elim
theorem Bd:Tryz.prog.underlying 52=some (.slice 9):=vY
theorem Bl:(Tryz.prog.info? 9).map (fun i=>(i.zero,i.size,i.bytes))=some (some (.string ⟨#[]⟩),1,16):=vY
def Zq(n:Ai)(k:Nat):vM:=(n.refsL.take k).foldl (fun l x=>l.set x.1 x.2) (List.replicate 17 (Ay ⟨#[]⟩))
def Po(n:Ai):vM:=(Zq n n.refsL.length).set 16 (Ay n.value)
def CH(n:Ai):vB:=Fj (Po n)
structure Wz(w:World)(gn gs gb:Nat)(n:Ai)(xs:vM)(W:World):Prop where
 ext:Af w W
 node:Ae W gn (.cells n.cells.toArray 302)
 var:Ae W gb (.cells #[.slice (some gs) 17 17] 52)
 row:Ae W gs (.cells (xs.map Value.string).toArray 9)
 len:xs.length=17
theorem Wz.st{w:vW}{n:Ai}{xs:vM}(h:Wz w gn gs gb n xs W)(e:Af W W'):Wz w gn gs gb n xs W':=
 ⟨h.ext.trans e,h.node.keeps e kI,h.var.keeps e kI,h.row.keeps e kI,h.len⟩
theorem Wz.put{w:vW}{n:Ai}{xs:vM}(h:Wz w gn gs gb n xs W)(r:Nat)(hr:w.heap.size<=r)(h1:gn≠r)(h2:gs≠r)(h3:gb≠r)(o:Obj):Wz w gn gs gb n xs (W.putObj r o):=
 ⟨h.ext.putObj (.inr hr) _,h.node.put_other h1 _,h.var.put_other h3 _,h.row.put_other h2 _,h.len⟩
theorem Wz.set{w:vW}{n:Ai}{xs:vM}(h:Wz w gn gs gb n xs W)(hr:w.heap.size<=gs)(h1:gn≠gs)(h3:gb≠gs)(j:Nat)(x:vB):Wz w gn gs gb n (xs.set j x) (W.setCell ⟨gs,j,none⟩ x):=
 ⟨h.ext.setCell (.inr hr) _,h.node.set_other (p:=⟨gs,j,none⟩) h1 _,h.var.set_other (p:=⟨gs,j,none⟩) h3 _,by
  have:=h.row.set_same (i:=j) x
  rw[show (xs.map Value.string).toArray.setIfInBounds j x=((xs.set j x).map Value.string).toArray by simp[gO]]at this;exact this,by simp[h.len]⟩
theorem YS(k:Nat):(Zq n k).length=17:=by
 unfold Zq;generalize n.refsL.take k=l
 suffices ∀ (l:List (Nat × vB)) (m:vM),(l.foldl (fun l x=>l.set x.1 x.2) m).length=m.length by rw[this];simp
 intro l;induction l with
 | nil=>intro m;rfl
 | cons x r ih=>intro m;rw[dM,ih];simp
theorem d_(hk:k < n.refsL.length):Zq n (k+1)=(Zq n k).set (n.ri k) (n.rr k):=by
 unfold Zq;rw[cP hk,dX];simp[Ai.ri,Ai.rr,bJ,hk]
def GP(k:Nat):vM:=List.replicate k (Ay ⟨#[]⟩)++List.replicate (17 - k) ⟨#[]⟩
theorem jsl(k:Nat)(hk:k < 17):(GP k).set k (Ay ⟨#[]⟩)=GP (k+1):=by
 unfold GP;rw[dR _ _ (by simp),show k - (List.replicate k (Ay ⟨#[]⟩)).length=0 by simp,show 17 - k=(17 - (k+1))+1 by omega,dV,dJ,List.replicate_succ']
 simp
def xX(w:vW)(gn gs gb:Nat)(n:Ai)(i:vV)(wr:vW):Prop:=∃ k:Nat,k<=17/\i=.int .i64 k/\Wz w gn gs gb n (GP k) wr
theorem f_(hr:n.refs.length=16)(hv:n.value.size<=100000)(hc:(Aw (Po n)).size<=1000000000):vR 209 #[n.V] w (.string (CH n)):=by
 obtain⟨i0,hi,b8,b9,c0⟩:=info_parts Bl
 have a1:=RJ (P:=Tryz.prog) (w.alloc (.cells n.cells.toArray 302)) Bd hi b8 b9 rfl .i64 .i64 17 (by rw[c0];omega) (by unfold maxLen;omega)
 obtain⟨q,a2⟩:∃ g,g=w.heap.size+1:=⟨_,rfl⟩
 obtain⟨gb,a9⟩:∃ g,g=w.heap.size+2:=⟨_,rfl⟩
 rw[bG, <-a2]at a1
 obtain⟨W1,Z⟩:=vE ((w.alloc (.cells n.cells.toArray 302)).alloc (.cells (List.replicate 17 (Value.string ⟨#[]⟩)).toArray 9))
 rw[<-Z]at a1;have c8:(Instr.makeSlice 52 (.int .i64 17) (.int .i64 17)).run Tryz.prog (w.alloc (.cells n.cells.toArray 302))=.ok (.slice (some ⟨q,0,none⟩) 17 17) W1:=a1;clear a1;have a3:W1.heap.size=gb:=by rw[Z,a9];simp
 have S0:Wz w w.heap.size q gb n (GP 0) (W1.alloc (.cells #[.slice (some ⟨q,0,none⟩) 17 17] 52)):=⟨by rw[Z];exact (((Aa w).alloc _).alloc _).alloc _,by rw[Z];exact ((Ae.new w _).alloc _).alloc _,by rw[<-a3];exact Ae.new W1 _,by rw[Z,a2];have:=(Ae.new (w.alloc (.cells n.cells.toArray 302)) (.cells (List.replicate 17 (Value.string ⟨#[]⟩)).toArray 9)).alloc (.cells #[.slice (some ⟨w.heap.size+1,0,none⟩) 17 17] 52);rw[bG]at this;exact this,rfl⟩
 obtain⟨gn,a4⟩:∃ g,g=w.heap.size:=⟨_,rfl⟩
 rw[<-a4]at S0;have n1:gn≠q:=vO
 have n2:gb≠q:=vO
 have n3:w.heap.size<=q:=vO
 have c2:=Hd S0;have HG:=Hd a4;have c3:=Hd a3;have N1:=Hd n1;have N2:=Hd n2;clear Z S0 a4 a2 a9 a3 n1 n2;unfold Ai.V;refine (callsIn_wide (n:=0)).1 ?_;refine callsIn_of_wp_marks Tryz.func209 rfl trivial ?_ rfl;simp only[Tryz.ntmps209,cQ,bS,cY,Nat.reduceAdd,Nat.reduceSub,cT,cS,dC,cW,cL,cR];gi_wp2_with fail
 rw[<-HG.o,c3.o];gi_loopw [10] (fun i wr=>xX w gn q gb n i wr) (fun i _=>17 - (intOf i).toNat)
 case atStart=>exact⟨0,by omega,rfl,c2.o⟩
 case round =>obtain⟨k,hk,rfl,X⟩:=hrel;have q3:=X.var.cell (i:=0) (v:=.slice (some ⟨q,0,none⟩) 17 17) vF;have J:=Hd X;clear X;by_cases hlt:k < 17;{have b1:(k:Int) < 17:=vO;(gi_wp2_with fail);refine wpIn_wide.2 (Kr [0,1,2,3,4] [4] Af Aa Aq vY vY vY ?_);refine qL ⟨gb,0,none⟩ _ rfl (fun w1 h1=>Bq Bd rfl (Am (by exact J.o.var.cell (i:=0) (v:=.slice (some ⟨q,0,none⟩) 17 17) vF) h1)) (vS ?_);refine vP ?_;refine Zn _ 29 #[.string ⟨#[]⟩] (.string (Ay ⟨#[]⟩)) rfl vY rfl (fun w1=>Ex (vX 29) vY) (fun w1 h1=>Rf w1 ⟨#[]⟩ vI) (vS ?_);refine vP ?_;refine qH _ rfl (fun w1 he K hK=>?_);have S1:=J.o.st ((Ap wr).trans he);obtain⟨old,q1⟩:∃ v,w1.cell? ⟨q,k,none⟩=some v:=⟨_,S1.row.cellL (bB (by rw[bU,S1.len];exact hlt))⟩;have q2:w1.frozen? ⟨q,k,none⟩=false:=S1.row.frozen;have S2:=S1.set n3 N1.o N2.o k (Ay ⟨#[]⟩);rw[jsl k hlt]at S2;have a0:=Hd S2;clear S1 S2 he q3 J;go_simp;refine hK _ _ ?_;clear hK K q1 q2;refine qE (fun w2 he=>?_);have A:=Hd (a0.o.st he);clear he a0;gi_wp2;go_roundw;(case rel=>exact⟨k+1,by omega,by go_num,A.o⟩);case measure=>exact vJ};have a8:k=17:=vO;(subst a8;have hB:=J.o.node;have a5:=DJ wr gn n hr hB;unfold Ai.V at a5;clear hB;gi_wp2_with (refine AJ rfl 302 (.tmp 1) rfl _ _ rfl a5 ?_));refine⟨trivial,rfl,CallsIn.mono (callsIn_wide.2 (OZ _ n)) ?_⟩;rintro e w1 ⟨rfl,a7,hE⟩;have S1:=J.o.st hE;obtain⟨O,H⟩:∃ g,g=wr.heap.size:=⟨_,rfl⟩;(rw[<-H]at a7 ⊢;have h1:gn < O:=by rw[H];exact J.o.node.lt);(have h2:q < O:=by rw[H];exact J.o.row.lt);(have h3:gb < O:=by rw[H];exact J.o.var.lt);(have h4:=a7.lt;have c4:w.heap.size<=w1.heap.size:=S1.ext.size;have b0:GP 17=Zq n 0:=rfl;rw[b0]at S1;clear a5 hE J q3 b0 H;gi_wp2_with fail);refine' DK (N:=n.refsL.length) (gf:=210) (lb:=#[.pointer (some ⟨O,0,none⟩)]) rfl (vX 210) (OC O n hr) (fun k=>rfl) (fun k W=>Wz w gn q gb n (Zq n k) W/\Ae W O (.cells n.cells.toArray 302)) (fun _ _ _=>False) (fun k W W' ⟨h1,h2⟩ e=>⟨h1.st e,h2.keeps e kI⟩) (fun _ _ _ _ h _=>h) (fun k W ⟨_,h⟩=>h) (fun k W o ⟨h5,h6⟩=>⟨h5.put _ vO vO vO vO _,h6.put_other vO _⟩) (fun _ _ _ _ h=>h) ⟨S1,a7⟩ _ ?hassign ?hbody ?hdone ?hstop;(case hassign =>intro l j W K _ hK;rw[PP,EL];simp only[dJ,dE];gi_wp2;exact hK);(case hbody =>intro l k W hk ⟨X,hB⟩ hlt2;have c5:=PO n hr hk;have q3:=X.var.cell (i:=0) (v:=.slice (some ⟨q,0,none⟩) 17 17) vF;have c1:(n.ri k:Int) < 17:=vO;obtain⟨old,q1⟩:∃ v,W.cell? ⟨q,n.ri k,none⟩=some v:=⟨_,X.row.cellL (bB (by rw[bU,X.len];omega))⟩;have q2:W.frozen? ⟨q,n.ri k,none⟩=false:=X.row.frozen;have J:=Hd X;have HB:=Hd hB;clear X hB c5 S1;gi_wp2;exact⟨(Ad.refl _ W).setCell (.inl ⟨by show q≠_;omega,by show q≠_;omega⟩) _,by rw[d_ n hk];exact J.o.set n3 N1.o N2.o _ _,HB.o.set_other (p:=⟨q,n.ri k,none⟩) (by show O≠q;omega) _⟩);(case hdone =>(intro W ⟨X,hB⟩ hd;have q3:=X.var.cell (i:=0) (v:=.slice (some ⟨q,0,none⟩) 17 17) vF;have J:=Hd X;have HD:=Hd hd;clear X hB hd S1;gi_wp2_with fail);refine wpIn_wide.2 (Kr [0,1,2,3,4,5] [5] Af Aa Aq vY vY vY ?_);refine qL ⟨gb,0,none⟩ _ rfl (fun w1 h1=>Bq Bd rfl (Am (by exact J.o.var.cell (i:=0) (v:=.slice (some ⟨q,0,none⟩) 17 17) vF) h1)) (vS ?_);refine vP ?_;refine qL ⟨gn,2,none⟩ (.string n.value) rfl (fun w1 h1=>Bq Ag rfl (Am (by exact J.o.node.cellL vF) h1)) (vS ?_);refine Zn _ 29 #[.string n.value] (.string (Ay n.value)) rfl vY rfl (fun w1=>Ex (vX 29) vY) (fun w1 h1=>Rf w1 n.value vO) (vS ?_);refine vP ?_;refine qH _ rfl (fun w2 he K hK=>?_);have S1:=J.o.st ((Ap W).trans he);have b2:=HD.o.keeps ((Ap W).trans he) kI;obtain⟨old,q1⟩:∃ v,w2.cell? ⟨q,16,none⟩=some v:=⟨_,S1.row.cellL (bB (by rw[bU,S1.len];omega))⟩;(have q2:w2.frozen? ⟨q,16,none⟩=false:=S1.row.frozen;have S2:=S1.set n3 N1.o N2.o 16 (Ay n.value);have b3:=b2.set_other (p:=⟨q,16,none⟩) (by show w1.heap.size≠q;omega) (.string (Ay n.value));have a0:=Hd S2;have b4:=Hd b3;clear S1 S2 he q3 J HD b2 b3;go_simp;refine hK _ _ ?_;clear hK K q1 q2;refine qE (fun w3 he=>?_);have A:=Hd (a0.o.st he);have b5:=Hd (b4.o.keeps he kI);have q3:=A.o.var.cell (i:=0) (v:=.slice (some ⟨q,0,none⟩) 17 17) vF;clear he a0 b4;gi_wp2_with fail);(have b6:Ic w3 (.slice (some ⟨q,0,none⟩) 17 17) (Po n):=by have hl:(Po n).length=17:=A.o.len;exact .inr ⟨q,0,17,by rw[hl],A.o.row.lt,by omega,fun j x hx=>by rw[bX];exact A.o.row.cellL (by rw[bY];show ((Po n)[j]?).map _=_;rw[hx];rfl)⟩);refine⟨trivial,rfl,CallsIn.mono (callsIn_wide.2 (KU w3 _ (Po n) b6 hc (by have:(Po n).length=17:=A.o.len;omega))) ?_⟩;(rintro e w4 ⟨rfl,hE⟩;have b7:=b5.o.keeps hE kI;have HE:=Hd (A.o.ext.trans hE);have c7:=Hd b7;clear hE b7 A b5 b6 q3;gi_wp2_with fail);refine⟨by simp,.inl ⟨_,_,rfl,run_takeDeferred c7.o,?_⟩⟩;refine⟨_,results_tmp rfl _ _ _,?_⟩;exact⟨rfl,HE.o.putObj (.inr c4) _⟩);case hstop=>intro c k W _ _ h;exact h.elim
def Xj(x:vB):Prop:=∀ y:vB,(x++y).size<=1000000000->∃ r,Dq (x++y)=some r/\r.2.1+r.2.2=x.size
theorem CI:Aw (x :: xs)=x++Aw xs:=by
 apply ByteArray.ext;apply Array.ext';simp[Aw,dK]
theorem eX:(x++y).extract 0 x.size=x:=ByteArray.extract_append_eq_left rfl
theorem TK:(x++y).extract x.size (x++y).size=y:=ByteArray.extract_append_eq_right rfl (by rw[cM])
theorem UV{s:vB}{r:Bool × Nat × Nat}(h:Dq s=some r):0 < s.size/\0 < r.2.1+r.2.2:=by
 unfold Dq at h
 by_cases h0:0 < s.size
 ·refine⟨h0,?_⟩;rw[dif_pos h0]at h;simp only at h;by_cases h1:s[0].toNat < 128;{rw[if_pos h1]at h;obtain rfl:=bV h;simp};rw[if_neg h1]at h;(obtain⟨q,e⟩:∃ q:Bool × Nat,q=if s[0].toNat < 192 then (false,s[0].toNat - 128)else (true,s[0].toNat - 192):=⟨_,rfl⟩);rw[<-e]at h;clear e;obtain⟨l,m⟩:=q;simp only at h;by_cases h3:m<=55;{rw[if_pos h3]at h;split at h;{obtain rfl:=bV h;simp only;omega};cases h};rw[if_neg h3]at h;split at h;{split at h;{obtain rfl:=bV h;simp only;omega};cases h};cases h
 ·rw[dif_neg h0]at h;cases h
theorem ju9{xs:vM}(h:k < xs.length):Aw (xs.drop k)=xs[k]++Aw (xs.drop (k+1)):=by
 rw[gT h,CI]
def GX:vV->Nat | .string b=>b.size | _=>0
def jxf(W:vW)(xs:vM)(C:Nat->vW->Prop)(v:vV)(wr:vW):Prop:=∃ k:Nat,k<=xs.length/\v=.string (Aw (xs.drop k))/\C k wr
theorem jxU(b:Nat)(xs:vM)(hx:∀ x∈xs,Xj x)(hs:(Aw xs).size<=1000000000):LB Tryz.prog 222 #[b] xs.length (fun k=>#[xs.getD k ⟨#[]⟩,.nilIface]) (fun W=>Ae W b (.cells #[Aw xs] 9)):=by
 intro l C Cx hC a0 hS W hY h0;have hB:=(hS 0 W h0).cell (i:=0) (v:=.string (Aw xs)) vF;have HY:=Hd hY;have H0:=Hd h0;have a8:=Hd hs;clear hY h0 hS hs;refine callsIn_of_wp Tryz.func222 rfl trivial ?_ rfl;simp only[Tryz.ntmps222,cQ,bS,cY,Nat.reduceAdd,Nat.reduceSub,cT,cS,dC,cW,cL,cR];gi_wp2;have a9:=Hd hC;have b8:=Hd a0;clear hC a0;gi_loopw [3] (fun v wr=>jxf W xs C v wr) (fun v _=>GX v)
 case atStart=>exact⟨0,by omega,rfl,H0.o⟩
 case round =>obtain⟨k,hk,rfl,a1⟩:=hrel;have a2:=Hd a1;clear a1;by_cases hlt:k < xs.length;{obtain⟨x,A⟩:=vE (xs[k]);have q:=ju9 hlt;rw[<-A]at q;obtain⟨y,hy⟩:=vE (Aw (xs.drop (k+1)));(rw[<-hy]at q;have H:(x++y).size<=1000000000:=by(have h1:(Aw (xs.drop k)).size<=(Aw xs).size:=by(have h2:(Aw xs).size=(Aw (xs.take k)).size+(Aw (xs.drop k)).size:=by(conv=>lhs;rw[<-dB k xs]);simp only[Aw,ByteArray.size,bW,List.flatten_append,cQ,bK]);omega);rw[q]at h1;have:=a8.o;omega);obtain⟨r,K,O⟩:=hx x (A ▸ fB hlt) y H;obtain⟨z,hz⟩:=vE (x++y);(have a3:z.size=x.size+y.size:=by rw[hz,cM]);(rw[<-hz]at q H K;rw[q];have J:=UV K;have b9:=Rq J.1;have a4:z.extract (r.2.1+r.2.2) z.size=y:=by rw[O,hz];exact TK x y);(have c0:z.extract 0 x.size=x:=by rw[hz];exact eX x y);(have a5:xs.getD k ⟨#[]⟩=x:=by rw[bJ,bB hlt, <-A];rfl);(have b0:=Hd a5;have HX:=Hd A;have b2:=Hd H;have b3:=Hd hy;have HZ:=Hd hz;have X:=Hd a3;have HP:=Hd J;have b4:=Hd O;clear A q hy hz a5 J O a3;gi_wp2_with fail);refine⟨trivial,rfl,CallsIn.mono (callsIn_wide.2 (sS wr z r H K)) ?_⟩;rintro e w1 ⟨rfl,hE⟩;unfold Un;rw[a4];obtain⟨u,hu⟩:=vE (z.extract r.2.1 (r.2.1+r.2.2));rw[<-hu];obtain⟨b1,o,ln⟩:=r;simp only;clear K a4 hu H;obtain⟨fn,tm,c4,bd,b5,a7⟩:=HY.o k w1 hlt (a9.o k _ _ a2.o hE);simp only[b0.o]at b5;have b6:=Hd a7;clear hE a7;have c1:(z.size:Int) - (y.size:Int)=(x.size:Int):=kL X.o;have c2:(x.size:Int)<=(z.size:Int):=kL X.o;have c3:z.size<=1000000000:=b2.o;gi_wp2;refine⟨rfl,(b6.o.mono ?_)⟩;rintro e w5 (⟨rfl,C5⟩ |⟨rfl,C5⟩);{have Z:=Hd C5;clear C5;gi_wp2;go_roundw;(case rel=>exact⟨k+1,by omega,by rw[<-b3.o],Z.o⟩);case measure=>show y.size < z.size;have:=(show 0 < o+ln from HP.o.2);have:=X.o;have:=(show o+ln=x.size from b4.o);omega};have Z:=Hd C5;clear C5;gi_wp2;refine bodyPost_ret (results_none rfl _ _ _) rfl ?_;exact⟨⟨_,rfl⟩,.inr ⟨k+1,by omega,by omega,Z.o⟩⟩};have b7:k=xs.length:=vO;(subst b7;have hd:Aw (xs.drop xs.length)=⟨#[]⟩:=by rw[gB];rfl);rw[hd];gi_wp2;refine bodyPost_end (results_none rfl _ _ _) rfl ?_;exact⟨⟨_,rfl⟩,.inl a2.o⟩
theorem jz9:vQ 185 #[s] w fun e w'=>e=.returned (.func (.func 222) #[] #[w])/\Ae w' w (.cells #[s] 9)/\Af w w':=by
 unfold vQ;go_in;go_wp2_with fail
 go_ret
 exact⟨rfl,Ae.new w _,(Aa w).alloc _⟩
theorem Cg:Me Tryz.prog 52 9 1 16:=Me.mk' vY (show (Tryz.prog.info? 9).map (fun i=>(i.zero,i.size,i.bytes))=some (some (.string ⟨#[]⟩),1,16) by kernel_rfl) rfl vI
theorem s_{t T:TypeId}(I:Me P t T sz by'){F:Fence}{w0 w:vW}{v:vV}{n:Nat}{xs:List vV}{news:List vV}(hR:Av T sz w0 w v n xs)(s x:Operand)(hgd:o.guard=none)(hs:a.eval s=v)(hx:a.eval x=.slice (some g) m c)(hB:∀ j u,news[j]?=some u->w.cell? ((g:Addr).add j)=some u)(h1:∀ u∈news,u.oneCell'=true)(hl:news.length=m * sz)
  (ho:o.op=Op.call { callee:=Callee.builtin Builtin.append,args:=#[s,x],argTypes:=#[t,t] }) (h63:n+m<=maxLen) (hby:(n+m) * by'<=140737488355328)
  (h:∀ e w',Av T sz w0 w' e (n+m) (xs++news)->Ad (fun b=>v.ownBlock=some b) w w'->(e.ownBlock=v.ownBlock\/∀ b,e.ownBlock=some b->w.heap.size<=b)->wpListIn F nn P ops Q rest (a.put o.dst e) w'):wpListIn F nn P ops Q (o :: rest) a w:=by
 obtain⟨i,z,H,J,K,O,X⟩:=I.hi
 exact IP w (o:=o) hgd s x t ho T i z sz by' I.ht H J K O X I.hsz v n xs hs hR.own g m c news hx hl hB h1 h63 hby (fun e w' Z q A=>h e w' (hR.step Z q A) q A)
structure BS(w:World)(g m:Nat)(xs:vM)(k:Nat)(W:World):Prop where
 ext:Af w W
 b2:Ae W g (.cells #[.slice none 0 0] 52)
 b3:Ae W (g+1) (.cells #[.int .i64 0] 25)
 bc:Ae W (g+3) (.cells #[Aw xs] 9)
 row:∃ v,Ae W (g+2) (.cells #[v] 52)/\W.ownsRow 0 9 1 v k ((xs.take k).map Value.string)/\∀ b,v.ownBlock=some b->m+2<=b
theorem BS.st{w:vW}{xs:vM}(h:BS w g m xs k W)(e:Af W W'):BS w g m xs k W':=
 let ⟨v,h1,h2,h3⟩:=h.row
 ⟨h.ext.trans e,h.b2.keeps e kI,h.b3.keeps e kI,h.bc.keeps e kI,v,h1.keeps e kI,Jy h2 e,h3⟩
theorem BS.put{w:vW}{xs:vM}(h:BS w g m xs k W)(hr:w.heap.size<=r)(h1:g+3 < r)(h2:r < m+2)(o:Obj):BS w g m xs k (W.putObj r o):=
 let ⟨v,h3,h4,h5⟩:=h.row
 ⟨h.ext.putObj (.inr hr) _,h.b2.put_other vO _,h.b3.put_other vO _,h.bc.put_other vO _,v,h3.put_other vO _,
  Kq h4 (Ad.onePut W r o) (fun b hb e=>kL (h5 b hb)),h5⟩
theorem VY(hx:∀ x∈xs,Xj x)(hs:(Aw xs).size<=1000000000)(hn:xs.length<=1000000):vQ 149 #[.string (Aw xs)] w fun e w'=>∃ v,e=.returned (.tuple #[v,.int .i64 0])/\Cd w w' v xs.length xs:=by
 obtain⟨i0,hi,a8,a9,b0⟩:=info_parts Bl
 refine (callsIn_wide (n:=0)).1 ?_;refine callsIn_of_wp_marks Tryz.func149 rfl trivial ?_ rfl;simp only[Tryz.ntmps149,cQ,bS,cY,Nat.reduceAdd,Nat.reduceSub,cT,cS,dC,cW,cL,cR];gi_wp2_with fail
 obtain⟨Z,q⟩:=vE (((w.alloc (.cells #[.slice none 0 0] 52)).alloc (.cells #[.int .i64 0] 25)).alloc (.cells #[.slice none 0 0] 52))
 rw[<-q];have a2:Z.heap.size=w.heap.size+3:=by rw[q];simp
 have E0:Af w Z:=by rw[q];exact ((((Aa w).alloc _).alloc _).alloc _)
 have B2:Ae Z w.heap.size (.cells #[.slice none 0 0] 52):=by rw[q];exact ((Ae.new w _).alloc _).alloc _
 have B3:Ae Z (w.heap.size+1) (.cells #[.int .i64 0] 25):=by rw[q];have:=(Ae.new (w.alloc (.cells #[.slice none 0 0] 52)) (.cells #[.int .i64 0] 25)).alloc (.cells #[.slice none 0 0] 52);rwa [bG]at this
 have B4:Ae Z (w.heap.size+2) (.cells #[.slice none 0 0] 52):=by rw[q];have:=(Ae.new ((w.alloc (.cells #[.slice none 0 0] 52)).alloc (.cells #[.int .i64 0] 25)) (.cells #[.slice none 0 0] 52));rwa [bG,bG]at this
 clear q
 refine⟨trivial,rfl,CallsIn.mono (callsIn_wide.2 (jz9 Z (Aw xs))) ?_⟩
 rintro e w1 ⟨rfl,O,hE⟩;rw[a2]at O ⊢;have S0:BS w w.heap.size w1.heap.size xs 0 w1:=⟨E0.trans hE,B2.keeps hE kI,B3.keeps hE kI,O,_,B4.keeps hE kI,fE _ _ _ _,fun b hb=>by cases hb⟩;have b6:=O.lt;have b1:=Hd S0;clear a2 E0 B2 B3 B4 O hE S0 Z;gi_wp2_with fail
 refine' DK (N:=xs.length) (gf:=222) (lb:=#[.pointer (some ⟨w.heap.size+3,0,none⟩)]) rfl (vX 222) (jxU (w.heap.size+3) xs hx hs) (fun k=>rfl) (BS w w.heap.size w1.heap.size xs) (fun _ _ _=>False) (fun k W W' h e=>h.st e) (fun _ _ _ _ h _=>h) (fun k W h=>h.bc) (fun k W o h=>h.put vO vO vO _) (fun _ _ _ _ h=>h) b1.o _ ?hassign ?hbody ?hdone ?hstop
 case hassign =>intro l j W K _ hK;rw[EL];simp only[dJ,dE];gi_wp2;exact hK
 case hbody =>intro l k W hk H b7;obtain⟨v,h1,h2,h3⟩:=H.row;obtain⟨ad,A,rfl⟩:=Ir h2;obtain⟨x,a0⟩:=vE (xs.getD k ⟨#[]⟩);(rw[<-a0];have q4:W.cell? ⟨w.heap.size+1+1,0,none⟩=some (.slice ad k A):=h1.cell (i:=0) vF;have f4:W.frozen? ⟨w.heap.size+1+1,0,none⟩=false:=h1.frozen;have X:=Hd H;have H1:=Hd h1;have H2:=Hd h2;have H3:=Hd h3;have b4:=Hd a0;clear H h1 h2 h3 a0;gi_wp2_with (gi_at_builtin;refine IP _ rfl (.tmp 21) (.tmp 23) 52 rfl 9 i0 _ 1 16 Bd hi a8 a9 b0 rfl vI (.slice ad k A) k _ rfl (Jy H2.o ((Aa W).alloc _)) ⟨W.heap.size,0,none⟩ 1 1 [.string x] rfl rfl (Jx (Ae.new W _)) (by simp[Value.oneCell']) (by unfold maxLen;omega) vO ?_));(intro v' w6 r1 r2 r3;have K6:Ad (fun b=>(Value.slice ad k A).ownBlock=some b) W w6:=((Ad.refl _ W).alloc _).trans r2;have e1:((xs.take k).map Value.string++[.string x])=(xs.take (k+1)).map Value.string:=by rw[cP hk,bW,b4.o];simp[bJ,hk]);(have r1:w6.ownsRow 0 9 1 v' (k+1) ((xs.take (k+1)).map Value.string):=by rw[<-e1,jJ];exact r1);have nb:∀ b,b < w1.heap.size+2->¬(Value.slice ad k A).ownBlock=some b:=fun b hb e=>kL (H3.o b e);obtain⟨a3,a4,rfl⟩:=Ir r1;(have a5:∀ b,(Value.slice a3 (k+1) a4).ownBlock=some b->w1.heap.size+2<=b:=fun b hb=>by rcases r3 with r3 | r3;{exact H3.o b (r3 ▸ hb)};have:=r3 b hb;omega);have B4:=H1.o.keeps K6 (nb _ vO);have b8:w6.cell? ⟨w.heap.size+1+1,0,none⟩=some (.slice ad k A):=B4.cell (i:=0) vF;have b9:w6.frozen? ⟨w.heap.size+1+1,0,none⟩=false:=B4.frozen;have J:=Hd K6;have b5:=Hd B4;have R1:=Hd r1;have a7:=Hd a5;have NB:=Hd nb;clear K6 r1 r2 r3 e1 a5 B4 nb q4 f4;gi_wp2;have k7:Ad (fun b=>b=w.heap.size+1+1) w6 (w6.setCell ⟨w.heap.size+1+1,0,none⟩ (.slice a3 (k+1) a4)):=Ad.oneSet w6 ⟨w.heap.size+1+1,0,none⟩ _;refine⟨(J.o.mono (fun x _ e=>?_)).trans' k7 (fun x _ e=>?_),?_⟩;{have:=H3.o x e;show x≠_/\x≠_;omega};{have e:x=_:=e;show x≠_/\x≠_;omega};refine⟨(X.o.ext.trans' J.o (fun x hx e=>kL (H3.o x e))).trans' k7 kJ,(X.o.b2.keeps J.o (NB.o _ vO)).keeps k7 (fun e=>by omega),(X.o.b3.keeps J.o (NB.o _ vO)).keeps k7 (fun e=>by omega),(X.o.bc.keeps J.o (NB.o _ vO)).keeps k7 (fun e=>by omega),_,b5.o.set_same (i:=0) _,Kq R1.o k7 (fun b hb e=>kL (a7.o b hb)),a7.o⟩
 case hdone =>intro W H hd;obtain⟨v,h1,h2,h3⟩:=H.row;obtain⟨ad,A,rfl⟩:=Ir h2;have q4:W.cell? ⟨w.heap.size+1+1,0,none⟩=some (.slice ad xs.length A):=h1.cell (i:=0) vF;have q2:=H.b2.cell (i:=0) (v:=.slice none 0 0) vF;have f2:W.frozen? ⟨w.heap.size,0,none⟩=false:=H.b2.frozen;have q3:=H.b3.cell (i:=0) (v:=.int .i64 0) vF;have f3:W.frozen? ⟨w.heap.size+1,0,none⟩=false:=H.b3.frozen;have X:=Hd H;have H2:=Hd h2;have H3:=Hd h3;have HD:=Hd hd;clear H h1 h2 h3 hd;gi_wp2;obtain⟨W3,a1⟩:=vE ((W.setCell ⟨w.heap.size,0,none⟩ (.slice ad xs.length A)).setCell ⟨w.heap.size+1,0,none⟩ (.int .i64 0));(rw[<-a1];have B2:=(X.o.b2.set_same (i:=0) (.slice ad xs.length A)).set_other (p:=⟨w.heap.size+1,0,none⟩) (by show w.heap.size≠w.heap.size+1;omega) (.int .i64 0);have B3:=(X.o.b3.set_other (p:=⟨w.heap.size,0,none⟩) (by show w.heap.size+1≠w.heap.size;omega) (.slice ad xs.length A)).set_same (i:=0) (.int .i64 0);have BD:=(HD.o.set_other (p:=⟨w.heap.size,0,none⟩) (by show w1.heap.size≠w.heap.size;omega) (.slice ad xs.length A)).set_other (p:=⟨w.heap.size+1,0,none⟩) (by show w1.heap.size≠w.heap.size+1;omega) (.int .i64 0);rw[<-a1]at B2 B3 BD;have K3:Ad (fun b=>b=w.heap.size\/b=w.heap.size+1\/b=w1.heap.size) W (W3.putObj w1.heap.size (.deferred none)):=by rw[a1];exact (((Ad.refl _ W).setCell (.inl (.inl rfl)) _).setCell (.inl (.inr (.inl rfl))) _).putObj (.inl (.inr (.inr rfl))) _);have c2:(W3.putObj w1.heap.size (.deferred none)).cell? ⟨w.heap.size,0,none⟩=some (.slice ad xs.length A):=(B2.put_other vO _).cell (i:=0) (by simp);have c3:(W3.putObj w1.heap.size (.deferred none)).cell? ⟨w.heap.size+1,0,none⟩=some (.int .i64 0):=(B3.put_other vO _).cell (i:=0) (by simp);refine⟨by simp,.inl ⟨_,_,rfl,run_takeDeferred BD,?_⟩⟩;refine⟨.tuple #[.slice ad xs.length A,.int .i64 0],by simp[results,Tryz.results149,go_sem,c2,c3],?_⟩;refine⟨_,rfl,⟨_,_,rfl⟩,?_,X.o.ext.trans' K3 (fun x hx e=>by omega),fun b hb=>kL (H3.o b hb)⟩;have h5:=Kq H2.o K3 (fun b hb e=>kL (H3.o b hb));rwa [cD]at h5
 case hstop=>intro c k W _ _ h;exact h.elim
end
theorem pY:∀ (f n:Nat),n < 256 ^ f->Ro (Ow f n).reverse=n
 | 0,n,h=>by simp at h;subst h;rfl
 | f+1,n,h=>by
  unfold Ow
  by_cases h0:n=0
  ·rw[if_pos h0,h0];rfl
  ·rw[if_neg h0,List.reverse_cons,lP,pY f (n / 256) (by rw[Nat.pow_succ]at h;omega)]
   have:(UInt8.ofNat n).toNat=n % 256:=rfl
   omega
theorem mN:∀ (f n:Nat),n < 256 ^ f->0 < n->∃ x l,(Ow f n).reverse=x :: l/\x≠0
 | 0,n,h,h0=>by simp at h;omega
 | f+1,n,h,h0=>by
  unfold Ow;rw[if_neg vO,List.reverse_cons]
  by_cases h1:n / 256=0
  ·have:Ow f (n / 256)=[]:=by rw[h1];cases f <;> simp[Ow]
   rw[this]
   refine⟨_,_,rfl,fun e=>?_⟩
   have H:(UInt8.ofNat n).toNat=(0:vU).toNat:=by rw[e]
   have:(UInt8.ofNat n).toNat=n % 256:=rfl
   have q:(0:vU).toNat=0:=rfl;omega
  ·obtain⟨x,l,A,q⟩:=mN f (n / 256) (by rw[Nat.pow_succ]at h;omega) vO
   exact⟨x,l++[UInt8.ofNat n],by rw[A];rfl,q⟩
theorem MV(a:vU)(t:vN):Dq ⟨(a :: t).toArray⟩ =
  (if a.toNat < 128 then some (false,0,1)else
   if (if a.toNat < 192 then a.toNat - 128 else a.toNat - 192)<=55 then
    if 1+(if a.toNat < 192 then a.toNat - 128 else a.toNat - 192)<=t.length+1/\(decide (192<=a.toNat)=true\/(if a.toNat < 192 then a.toNat - 128 else a.toNat - 192)≠1\/128<=((a :: t).getD 1 0).toNat)then some (decide (192<=a.toNat),1,(if a.toNat < 192 then a.toNat - 128 else a.toNat - 192))else none
   else match Rn ⟨(a :: t).toArray⟩ (1+((if a.toNat < 192 then a.toNat - 128 else a.toNat - 192) - 55))with
    | some n=>if 1+((if a.toNat < 192 then a.toNat - 128 else a.toNat - 192) - 55)+n<=t.length+1 then some (decide (192<=a.toNat),1+((if a.toNat < 192 then a.toNat - 128 else a.toNat - 192) - 55),n)else none
    | none=>none):=by
 have e:(⟨(a :: t).toArray⟩:vB).size=t.length+1:=rfl;have q:0 < (⟨(a :: t).toArray⟩:vB).size:=by rw[e];omega
 have A:(⟨(a :: t).toArray⟩:vB)[0]'q=a:=rfl;unfold Dq;rw[dif_pos q];simp only[A,e]
 by_cases h1:a.toNat < 128
 ·rw[if_pos h1,if_pos h1]
 ·rw[if_neg h1,if_neg h1];by_cases h2:a.toNat < 192;{simp only[if_pos h2,show decide (192<=a.toNat)=false by simp;omega];rfl};simp only[if_neg h2,show decide (192<=a.toNat)=true by simp;omega];rfl
def hb(l:Bool):vU:=if l then 192 else 128
theorem sP(a b:vU)(h:a.toNat+b.toNat < 256):(a+b).toNat=a.toNat+b.toNat:=by rw[UInt8.toNat_add];omega
theorem GZ(n:Nat)(h:n < 256):(UInt8.ofNat n).toNat=n:=by show n % 256=n;omega
theorem rM:(hb l).toNat=if l then 192 else 128:=by cases l <;> rfl
theorem juX(b y:vN)(hn:b.length<=1048576)(h1:l=false->b.length=1->128<=(b.headD 0).toNat):Dq ⟨((Ng (hb l) b.length).data.toList++(b++y)).toArray⟩=some (l,(Ng (hb l) b.length).size,b.length):=by
 by_cases hs:b.length<=55
 ·(have Z:(Ng (hb l) b.length)=⟨#[hb l+UInt8.ofNat b.length]⟩:=by unfold Ng;rw[if_pos hs]);(rw[Z];have q:(hb l+UInt8.ofNat b.length).toNat=(if l then 192 else 128)+b.length:=by rw[sP _ _ (by rw[rM,GZ _ vO];split <;> omega),rM,GZ _ vO]);have a0:(⟨#[hb l+UInt8.ofNat b.length]⟩:vB).size=1:=rfl;rw[a0];obtain⟨a,e⟩:=vE (hb l+UInt8.ofNat b.length);(rw[<-e]at q ⊢;have hm:(if a.toNat < 192 then a.toNat - 128 else a.toNat - 192)=b.length:=by(rw[q];cases l <;> simp only[cH,if_false,if_true]);{rw[if_pos vO];omega};rw[if_neg vO];omega);(have A:decide (192<=a.toNat)=l:=by rw[q];cases l <;> simp <;> omega);show Dq ⟨(a ::(b++y)).toArray⟩=_;rw[MV,hm,A,if_neg (by rw[q];split <;> omega),if_pos hs,if_pos];refine⟨by rw[bK];omega,?_⟩;cases l with| true=>exact .inl rfl| false =>refine .inr ?_;by_cases h2:b.length=1;{refine .inr ?_;have:=h1 rfl h2;match b,h2 with| [x],_=>simpa using this};exact .inl h2
 ·obtain⟨d,X⟩:=vE (Ow 8 b.length).reverse;have hp:b.length < 256 ^ 8:=vO;(have a7:d.length<=8:=by rw[X,List.length_reverse];exact DX _ _);(have a1:Ro d=b.length:=by rw[X];exact pY _ _ hp);obtain⟨x,r,H,a2⟩:=mN 8 b.length hp vO;(rw[<-X]at H;have J:Hn b.length=⟨d.toArray⟩:=by unfold Hn;rw[X]);(have a3:(⟨d.toArray⟩:vB).size=d.length:=rfl;have Z:(Ng (hb l) b.length)=⟨#[hb l+55+UInt8.ofNat d.length]⟩++⟨d.toArray⟩:=by unfold Ng;rw[if_neg hs,J,a3]);(have K:(Ng (hb l) b.length).data.toList=(hb l+55+UInt8.ofNat d.length) :: d:=by rw[Z,dK];simp);(have a4:(Ng (hb l) b.length).size=1+d.length:=by show (Ng (hb l) b.length).data.toList.length=_;rw[K,bS];omega);(rw[K,a4];have O:(hb l+55:vU).toNat=(if l then 192 else 128)+55:=by cases l <;> rfl);(have q:(hb l+55+UInt8.ofNat d.length).toNat=(if l then 192 else 128)+55+d.length:=by rw[sP _ _ (by rw[O,GZ _ vO];split <;> omega),O,GZ _ vO]);obtain⟨a,e⟩:=vE (hb l+55+UInt8.ofNat d.length);(rw[<-e]at q ⊢;have a8:1<=d.length:=by rw[H];simp);(have hm:(if a.toNat < 192 then a.toNat - 128 else a.toNat - 192)=55+d.length:=by(rw[q];cases l <;> simp only[cH,if_false,if_true]);{rw[if_pos vO];omega};rw[if_neg vO];omega);(have A:decide (192<=a.toNat)=l:=by rw[q];cases l <;> simp <;> omega);(have a5:Rn ⟨(a ::(d++(b++y))).toArray⟩ (1+d.length)=some b.length:=by(have e1:((⟨(a ::(d++(b++y))).toArray⟩:vB).data.toList.take (1+d.length)).drop 1=d:=by show ((a ::(d++(b++y))).take (1+d.length)).drop 1=d;rw[iZ,fH,List.drop_succ_cons,List.drop_zero,List.take_left]);unfold Rn;rw[if_neg,e1,a1,if_pos ⟨by omega,hn⟩];rintro (h | h);{have:(⟨(a ::(d++(b++y))).toArray⟩:vB).size=(d++(b++y)).length+1:=rfl;rw[this,bK]at h;omega};(have:(⟨(a ::(d++(b++y))).toArray⟩:vB).data.toList.getD 1 0=x:=by rw[H];rfl);rw[this]at h;exact a2 h);show Dq ⟨(a ::(d++(b++y))).toArray⟩=_;rw[MV,hm,A,if_neg (by rw[q];split <;> omega),if_neg vO,show 55+d.length - 55=d.length by omega,a5];simp only[bK];rw[if_pos vO]
theorem PM:s=⟨s.data.toList.toArray⟩:=rfl
theorem eQ(hn:b.size<=1048576)(h1:l=false->b.size=1->128<=(b.data.toList.headD 0).toNat):Dq (Ng (hb l) b.size++b++y)=some (l,(Ng (hb l) b.size).size,b.size):=by
 have h:=juX l b.data.toList y.data.toList hn h1;rw[PM (Ng (hb l) b.size++b++y)];simp only[dK,fK,bZ];exact h
theorem YM:(h++b++y).extract h.size (h.size+b.size)=b:=by
 apply ByteArray.ext;apply Array.ext';rw[fG,fY,dK,dK,fK,fK,fM,show h.size+b.size - h.size=b.data.toList.length by show _=b.size;omega,bZ,show h.size=h.data.toList.length from rfl,fF,List.take_left]
theorem eS(hn:b.size<=1048576):∃ o,Dq (Ay b++y)=some (false,o,b.size)/\o+b.size=(Ay b).size/\(Ay b++y).extract o (o+b.size)=b:=by
 by_cases h:b.size=1/\b.data.toList.headD 255 < 128
 ·obtain⟨H,A⟩:=h;obtain⟨⟨lb⟩⟩:=b;have e:lb.length=1:=H;match lb,e,A with| [x],_,A =>(have J:x.toNat < 128:=dQ.1 A;have q:Ay ⟨#[x]⟩=⟨#[x]⟩:=by unfold Ay;rw[if_pos ⟨rfl,A⟩]);refine⟨0,?_,?_,?_⟩;{rw[show (⟨[x].toArray⟩:vB)=⟨#[x]⟩from rfl,q,PM (_++y),dK,fK];show Dq ⟨(x :: y.data.toList).toArray⟩=_;rw[MV,if_pos J];rfl};{rw[show (⟨[x].toArray⟩:vB)=⟨#[x]⟩from rfl,q];rfl};rw[show (⟨[x].toArray⟩:vB)=⟨#[x]⟩from rfl,q,bX];exact eX _ _
 ·(have q:Ay b=Ng (hb false) b.size++b:=by unfold Ay;rw[if_neg h];rfl);rw[q];refine⟨_,eQ false b y hn (fun _ H=>?_),by rw[cM],YM _ _ _⟩;obtain⟨⟨lb⟩⟩:=b;have e:lb.length=1:=H;match lb,e,h with| [x],_,h =>have O:¬ x < 128:=fun K=>h ⟨rfl,K⟩;have X:¬ x.toNat < (128:vU).toNat:=fun K=>O (dQ.2 K);have Z:(128:vU).toNat=128:=rfl;show 128<=x.toNat;omega
theorem eR(hn:(Aw xs).size<=1048576):∃ o,Dq (Fj xs++y)=some (true,o,(Aw xs).size)/\o+(Aw xs).size=(Fj xs).size/\(Fj xs++y).extract o (o+(Aw xs).size)=Aw xs:=by
 have e:Fj xs=Ng (hb true) (Aw xs).size++Aw xs:=rfl;rw[e]
 exact⟨_,eQ true _ y hn (fun h=>by cases h),by rw[cM],YM _ _ _⟩
theorem Yf(hn:b.size<=1048576):Xj (Ay b):=fun y _=>let ⟨o,h1,h2,_⟩:=eS b y hn;⟨_,h1,h2⟩
theorem YP(hn:(Aw xs).size<=1048576):Xj (Fj xs):=fun y _=>let ⟨o,h1,h2,_⟩:=eR xs y hn;⟨_,h1,h2⟩
theorem pL:x++⟨#[]⟩=x:=ByteArray.append_empty
theorem JK(hn:b.size<=1048576):∃ o,Dq (Ay b)=some (false,o,b.size)/\o+b.size=(Ay b).size/\(Ay b).extract o (o+b.size)=b:=by
 have:=eS b ⟨#[]⟩ hn;rwa [pL]at this
theorem FG(hn:(Aw xs).size<=1048576):∃ o,Dq (Fj xs)=some (true,o,(Aw xs).size)/\o+(Aw xs).size=(Fj xs).size/\(Fj xs).extract o (o+(Aw xs).size)=Aw xs:=by
 have:=eR xs ⟨#[]⟩ hn;rwa [pL]at this
theorem JC(hn:b.size<=1048576):∃ r,Dq (Ay b)=some r/\Yr (Ay b) r=some b:=by
 obtain⟨o,e,q,A⟩:=JK b hn
 exact⟨_,e,by unfold Yr;rw[if_pos ⟨rfl,q⟩,A]⟩
theorem JO(hn:b.size=32):∃ r,Dq (Ay b)=some r/\Vg (Ay b) r=some b:=by
 obtain⟨r,e,q⟩:=JC b vO
 exact⟨r,e,by unfold Vg;rw[q];simp[Option.filter,hn]⟩
theorem aX(hn:(Aw xs).size<=1048576):∃ r,Dq (Fj xs)=some r/\Vg (Fj xs) r=none:=by
 obtain⟨o,e,q,A⟩:=FG xs hn
 exact⟨_,e,by unfold Vg Yr;rw[if_neg (by simp)];rfl⟩
section
attribute [local go_sem] Oper.semAt_some
theorem Gv{w:vW}(t:TypeId)(x:Operand)(ho:o.op=.load t x)(hw:Region.wanted o (yielded ops a.tmps)=true)(v:vV)(p:Addr)(hx:a.eval x=.pointer (some p))
  (hr:(Instr.loadAt t p).run P w=.ok v w) (h:wpList P ops Q rest (a.put o.dst v) w):wpList P ops Q (o :: rest) a w:=by
 unfold wpList;rw[if_pos hw];refine .inl (Ra (v:=v) (w':=w) ?_ h);simp only[execOp,ho,hx,bQ,hr,Result.andThen,cU]
theorem RP(W:vW)(n:Ai)(hr:n.refs.length=16):(Instr.loadAt 302 W).run Tryz.prog (W.alloc (.cells n.cells.toArray 302))=.ok n.V (W.alloc (.cells n.cells.toArray 302)):=
 DJ _ _ n hr (Ae.new W _)
theorem Se:Xg (Tryz.prog.underlying 215)=true:=vY
theorem Ab:(Tryz.prog.info? 215).map (·.size)=some 19:=vY
theorem Jq(W:vW)(b:Nat)(n:Ai)(hr:n.refs.length=16)(hB:Ae W b (.cells n.cells.toArray 215)):(Instr.loadAt 215 b).run Tryz.prog W=.ok n.V W:=by
 obtain⟨A,e⟩:=Yd Se
 exact Yg e (by rw[n.cells_len hr];exact Ab) (fun j v q=>by rw[NQ];exact hB.cellL q)
theorem wT(hr:n.refs.length=16)(hp:n.pathOk 0=true)(h0:0 < n.value.size)(h8:n.value.size<=80)(hb:n.behindN=0):vR 203 #[n.V] w true:=by
 have H:n.path.size<=1000000:=by have:n.pathOk 0=true:=hp;simp only[Ai.pathOk,cI,decide_eq_true_eq]at this;omega
 have q:=RP w n hr;have X:n.cells[2]?=some (.string n.value):=rfl;have Z:=Rq h0;have c1:(n.value.size:Int)<=80:=vO
 have HP:=Hd hp;have HB:=Hd hb;have HH:=Hd h0;clear hp hb h0;unfold Ai.V at q ⊢;unfold vR vQ;go_in;go_wp2_with (refine Gv 302 (.tmp 1) rfl rfl _ _ rfl q ?_)
 refine vC (rB _ n hr 0 H) fun w1 A=>?_;rw[HP.o];have J:=(Ae.new w (.cells n.cells.toArray 302)).keeps A kI;have q2:=J.cellL X;have e:=DJ w1 _ n hr J;have K:=Hd (((Aa w).alloc _).trans A);unfold Ai.V at e;clear q A J;go_wp2_with (refine Gv 302 (.tmp 1) rfl rfl _ _ rfl e ?_)
 refine vH (lQ _ n hr) fun w2 A=>?_;rw[HB.o];have O:=Hd (K.o.trans A);clear e q2;go_wp2_with fail
 go_ret
 exact⟨rfl,O.o⟩
def Db:Ai:=⟨0,⟨#[]⟩,⟨#[]⟩,List.replicate 16 ⟨#[]⟩⟩
theorem uL:vR 202 #[Db.V] w true:=by
 have e:=RP w Db rfl;have q:Db.cells.toArray=#[.int .i64 0,.string ⟨#[]⟩,.string ⟨#[]⟩,.string ⟨#[]⟩,.string ⟨#[]⟩,.string ⟨#[]⟩,.string ⟨#[]⟩,.string ⟨#[]⟩,.string ⟨#[]⟩,.string ⟨#[]⟩,.string ⟨#[]⟩,.string ⟨#[]⟩,.string ⟨#[]⟩,.string ⟨#[]⟩,.string ⟨#[]⟩,.string ⟨#[]⟩,.string ⟨#[]⟩,.string ⟨#[]⟩,.string ⟨#[]⟩]:=rfl;unfold Ai.V at e ⊢;rw[q]at e ⊢;have A:∀ w,(binOp .eql 302 (.agg #[.int .i64 0,.string ⟨#[]⟩,.string ⟨#[]⟩,.string ⟨#[]⟩,.string ⟨#[]⟩,.string ⟨#[]⟩,.string ⟨#[]⟩,.string ⟨#[]⟩,.string ⟨#[]⟩,.string ⟨#[]⟩,.string ⟨#[]⟩,.string ⟨#[]⟩,.string ⟨#[]⟩,.string ⟨#[]⟩,.string ⟨#[]⟩,.string ⟨#[]⟩,.string ⟨#[]⟩,.string ⟨#[]⟩,.string ⟨#[]⟩]) (.agg #[.int .i64 0,.string ⟨#[]⟩,.string ⟨#[]⟩,.string ⟨#[]⟩,.string ⟨#[]⟩,.string ⟨#[]⟩,.string ⟨#[]⟩,.string ⟨#[]⟩,.string ⟨#[]⟩,.string ⟨#[]⟩,.string ⟨#[]⟩,.string ⟨#[]⟩,.string ⟨#[]⟩,.string ⟨#[]⟩,.string ⟨#[]⟩,.string ⟨#[]⟩,.string ⟨#[]⟩,.string ⟨#[]⟩,.string ⟨#[]⟩])).run Tryz.prog w=.ok true w:=fun w=>by kernel_rfl
 unfold vR vQ;go_in;go_wp2_with (refine Gv 302 (.tmp 1) rfl rfl _ _ rfl e ?_)
 go_ret
 exact⟨rfl,(Aa w).alloc _⟩
end
