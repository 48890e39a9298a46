/- Lemmas; each is under no condition but those that it states. -/
import Derived.Test.YtnkdaacmpceghaaGreatDoorPa10
namespace Go.Proofs.YtnkdaacmpceghaaGreatDoor
set_option linter.unusedSimpArgs false
set_option linter.unusedVariables false
set_option maxRecDepth 100000
set_option maxHeartbeats 16000000
open Go Go.RowKit
variable (l:Bool)(h p x b:vB)(w:vW)(xs:vM)(s y:vB)(n:jae){a:Act}{ops:Array Oper}{Q:Exit->Act->vW->Prop}{rest:List Oper}{k gn gs gb sz by' nn g m c r:Nat}{o:Oper}{P:Program}{W W':vW}
theorem jaS:(jam b).size<=b.size+9:=by
 unfold jam;split
 ·omega
 ·rw[cD];have:=jci 128 b.size;omega
theorem jhI:(jbF s).size=s.size / 2:=by
 show (jcP s.data.toList).length=_;rw[jez];rfl
theorem jbD(leaf:Bool):(putB p leaf).size<=p.size / 2+1:=by
 unfold putB;rw[jhI];show (jdr p leaf++p.data.toList).length / 2<=_;rw[bI,show p.data.toList.length=p.size from rfl];unfold jdr oddB
 by_cases h:p.size % 2=1
 ·simp[h];omega
 ·have:(p.size % 2 == 1)=false:=by simpa using h
  rw[this];simp
theorem jbe:(catB (x :: xs)).size=x.size+(catB xs).size:=by
 show ((x :: xs).map (·.data.toList)).flatten.length=x.data.toList.length+(xs.map (·.data.toList)).flatten.length;rw[bN,List.flatten_cons,bI]
theorem jdq:(catB []).size=0:=rfl
theorem jeD(T:TypeId):RdS (w.alloc (.cells (xs.map Value.string).toArray T)) (.slice (some ⟨w.heap.size,0,none⟩) xs.length xs.length) xs:=
 .inr ⟨w.heap.size,0,xs.length,rfl,by simp,bL _,fun j x e=>by rw[bT];exact (Blk.new w _).cellL (by rw[bV,e];rfl)⟩
def joc(n:jae):vB:=ja6 [jam (putB n.path true),jam n.value]
def extB(n:jae):vB:=ja6 [jam (putB n.path false),n.refs.getD 0 ⟨#[]⟩]
theorem jod(hps:n.path.size<=900000)(hvs:n.value.size<=100000)(hv:jaE n.path=true):vR 202 #[n.V] w (.string (joc n)):=by
 obtain⟨k,p,v,rs⟩:=n
 simp only at hps hvs hv;unfold jae.V;have e1:(jae.cells ⟨k,p,v,rs⟩)[1]?=some (.string p):=rfl;have e2:(jae.cells ⟨k,p,v,rs⟩)[2]?=some (.string v):=rfl;have H:=jbD p true;have J:=jaS (putB p true);have a0:=jaS v;unfold vR vQ;go_in;go_wp2_with fail
 refine vC (jys _ p true hps hv) fun w1 hE=>?_;have hB:=(Blk.new w _).keeps hE (fun h=>h);have O:=((ExtR w).alloc _).trans hE
 obtain⟨g,hg⟩:=vE w.heap.size
 rw[<-hg]at hB ⊢;have q2:=hB.cellL e2
 obtain⟨e,q⟩:=vE (putB p true)
 rw[<-q]at H J ⊢;have HL:=Hd (show joc ⟨k,p,v,rs⟩=ja6 [jam e,jam v] by unfold joc;rw[q]);have X:=Hd O;have Q2:=Hd q2;have A:e.size<=1000000000:=vO
 have hc:(catB [jam e,jam v]).size<=1000000000:=by rw[jbe,jbe,jdq];omega
 have HC:=Hd hc;have HP:=Hd A;have HV:=Hd hvs;clear e1 e2 H J a0 hB hg q hE O q2 A hc hps hv hvs;go_wp2_with fail
 refine jaj [0,2,1,3,4,5,6,7] Ext ExtR ExtT vY vY vY ?_;iterate 2 refine vK ?_
 refine qKC _ 29 #[.string e] (.string (jam e)) rfl (fun w1=>jal (vX 29) vY) (fun w1 h1=>jct w1 e HP.o) ?_;refine vS ?_;refine qKL ⟨g,2,none⟩ _ rfl (fun w2 h2=>jab Tryz.uStr rfl (jaa (by exact Q2.o) h2)) ?_;refine vS ?_;refine qKC _ 29 #[.string v] (.string (jam v)) rfl (fun w1=>jal (vX 29) vY) (fun w1 h1=>jct w1 v (by have:=HV.o;omega)) ?_;refine vS ?_;refine jcH _ rfl vY rfl (fun w2 Z K hK=>?_);have a1:=Hd (X.o.trans ((jak w1).trans Z));have HR:=Hd (jeD w2 [jam e,jam v] 9);clear Z X Q2 HV HP;go_simp;refine hK _ _ ((ExtR w2).alloc _) ?_;clear hK K;refine qKC _ 91 _ (.string (ja6 [jam e,jam v])) rfl (fun w1=>jal (vX 91) vY) (fun w3 h3=>jky w3 _ [jam e,jam v] (HR.o.ext (by exact h3)) HC.o (show 2<=1000000000 by decide)) ?_;refine vS ?_
 refine vK ?_
 refine qKE (fun w3 Z=>?_);go_wp2_with fail
 go_ret
 exact⟨by rw[HL.o];rfl,(a1.o.alloc _).trans Z⟩
theorem jp1(hps:n.path.size<=900000)(r:vB)(hr:n.refs=r :: n.refs.tail)(hvs:r.size<=100000)(hv:jaE n.path=true):vR 203 #[n.V] w (.string (extB n)):=by
 obtain⟨k,p,v,rs⟩:=n
 simp only at hps hvs hr hv;cases rs with
 | nil=>cases hr
 | cons r' rt =>
 simp only[List.tail_cons,List.cons.injEq,and_true]at hr;subst hr;unfold jae.V;have e1:(jae.cells ⟨k,p,v,r' :: rt⟩)[1]?=some (.string p):=rfl;have e2:(jae.cells ⟨k,p,v,r' :: rt⟩)[3]?=some (.string r'):=rfl;have H:=jbD p false;have J:=jaS (putB p false);unfold vR vQ;go_in;go_wp2_with fail
 refine vC (jys _ p false hps hv) fun w1 hE=>?_;have hB:=(Blk.new w _).keeps hE (fun h=>h);have O:=((ExtR w).alloc _).trans hE
 obtain⟨g,hg⟩:=vE w.heap.size
 rw[<-hg]at hB ⊢;have q2:=hB.cellL e2
 obtain⟨e,q⟩:=vE (putB p false)
 rw[<-q]at H J ⊢;have HL:=Hd (show extB ⟨k,p,v,r' :: rt⟩=ja6 [jam e,r'] by unfold extB;rw[q];rfl);have X:=Hd O;have Q2:=Hd q2;have A:e.size<=1000000000:=vO
 have hc:(catB [jam e,r']).size<=1000000000:=by rw[jbe,jbe,jdq];omega
 have HC:=Hd hc;have HP:=Hd A;have HV:=Hd hvs;clear e1 e2 H J hB hg q hE O q2 A hc hps hv hvs;go_wp2_with fail
 refine jaj [0,1,2,3,4,5,6,7] Ext ExtR ExtT vY vY vY ?_
 refine vK ?_
 refine qKC _ 29 #[.string e] (.string (jam e)) rfl (fun w1=>jal (vX 29) vY) (fun w1 h1=>jct w1 e HP.o) ?_;refine vS ?_;iterate 2 refine vK ?_
 refine qKL ⟨g,3,none⟩ _ rfl (fun w2 h2=>jab Tryz.uStr rfl (jaa (by exact Q2.o) h2)) ?_;refine vS ?_;refine jcH _ rfl vY rfl (fun w2 Z K hK=>?_);have a0:=Hd (X.o.trans ((jak w1).trans Z));have HR:=Hd (jeD w2 [jam e,r'] 9);clear Z X Q2 HV HP;go_simp;refine hK _ _ ((ExtR w2).alloc _) ?_;clear hK K;refine qKC _ 91 _ (.string (ja6 [jam e,r'])) rfl (fun w1=>jal (vX 91) vY) (fun w3 h3=>jky w3 _ [jam e,r'] (HR.o.ext (by exact h3)) HC.o (show 2<=1000000000 by decide)) ?_;refine vS ?_
 refine vK ?_
 refine qKE (fun w3 Z=>?_);go_wp2_with fail
 go_ret
 exact⟨by rw[HL.o];rfl,(a0.o.alloc _).trans Z⟩
section
attribute [local go_sem] Oper.semAt_some
def jae.ri(n:jae)(k:Nat):Nat:=(n.refsL.getD k (0,⟨#[]⟩)).1
def jae.rr(n:jae)(k:Nat):vB:=(n.refsL.getD k (0,⟨#[]⟩)).2
theorem jry(k:Nat):n.rv k=#[.int .i64 (n.ri k:Nat),.string (n.rr k)]:=rfl
def jb2(d:Option TypeDesc):Bool:=match d with | some (.struct _)=>true | _=>false
theorem jbv{d:Option TypeDesc}(h:jb2 d=true):∃ fs,d=some (.struct fs):=by
 cases d with
 | none=>cases h
 | some d=>cases d <;> first | exact⟨_,rfl⟩ | cases h
theorem Tryz.isForm:jb2 (Tryz.prog.underlying 298)=true:=vY
theorem jeE:∀ (l:vM) (i:Nat) (x:Nat × vB),x∈jav i l->i<=x.1/\x.1 < i+l.length/\l[x.1 - i]?=some x.2/\x.2.size≠0
 | [],i,x,h=>by cases h
 | r :: l,i,x,h=>by
  have e:x∈jav (i+1) l->i<=x.1/\x.1 < i+(r :: l).length/\(r :: l)[x.1 - i]?=some x.2/\x.2.size≠0:=fun h=>by
   obtain⟨H,J,q,A⟩:=jeE l (i+1) x h
   refine⟨by omega,by simp;omega,?_,A⟩
   rw[show x.1 - i=(x.1 - (i+1))+1 by omega,List.getElem?_cons_succ];exact q
  unfold jav at h;split at h
  ·exact e h
  ·rename_i hr
   rcases bZ.1 h with rfl | h
   ·exact⟨bL _,by simp,by simp,hr⟩
   ·exact e h
theorem jrs(hr:n.refs.length=16)(hk:k < n.refsL.length):n.ri k < 16/\n.refs[n.ri k]?=some (n.rr k)/\(n.rr k).size≠0:=by
 have e:(n.refsL.getD k (0,⟨#[]⟩))∈n.refsL:=by rw[bJ,bB hk];exact dW _
 obtain⟨_,q,A,H⟩:=jeE n.refs 0 _ e
 rw[hr]at q
 exact⟨by unfold jae.ri;omega,A,H⟩
theorem Tryz.szForm:(Tryz.prog.info? 298).map (·.size)=some 19:=vY
theorem ja7(W:vW)(b:Nat)(n:jae)(hr:n.refs.length=16)(hB:Blk W b (.cells n.cells.toArray 298)):(Instr.loadAt 298 (.pointer (some ⟨b,0,none⟩))).run Tryz.prog W=.ok n.V W:=by
 obtain⟨A,e⟩:=jbv Tryz.isForm
 exact ja2 e (by rw[n.cells_len hr];exact Tryz.szForm) (fun j v q=>by rw[jgQ];exact hB.cellL q)
def jvN(n:jae)(k:Nat):Nat:=match k with | 0=>0 | k+1=>n.ri k+1
def jae.behindN(n:jae):Nat:=jvN n n.refsL.length
def BehC(w:vW)(gn gb:Nat)(n:jae)(k:Nat)(W:vW):Prop:=Ext w W/\Blk W gn (.cells n.cells.toArray 298)/\Blk W gb (.cells #[.int .i64 (jvN n k:Nat)] 3)
theorem jgR(hr:n.refs.length=16):vR 229 #[n.V] w (.int .i64 (n.behindN:Nat)):=by
 have HV:Hid (n.V=.agg n.cells.toArray):=rfl
 obtain⟨W0,A⟩:=vE ((w.alloc (.cells n.cells.toArray 298)).alloc (.cells #[.int .i64 0] 3))
 have B0:Blk W0 w.heap.size (.cells n.cells.toArray 298):=by rw[A];exact (Blk.new w _).alloc _
 have J:=ja7 W0 w.heap.size n hr B0;rw[A]at J;unfold jae.V at J ⊢;refine (callsIn_wide (n:=0)).1 ?_;refine callsIn_of_wp_marks Tryz.func229 rfl trivial ?_ rfl;simp only[Tryz.ntmps229,cT,bU,dA,Nat.reduceAdd,Nat.reduceSub,cV,cU,dE,cZ,cN,cY];gi_wp2_with (refine jaI rfl 298 (.tmp 1) rfl _ _ rfl J ?_)
 refine⟨trivial,rfl,CallsIn.mono (callsIn_wide.2 (jkU _ n)) ?_⟩
 rintro e w1 ⟨rfl,O,hE⟩;rw[<-A]at O hE ⊢
 obtain⟨X,a0⟩:=vE (w.heap.size+1)
 have a1:Ext w W0:=by rw[A];exact ((ExtR w).alloc _).alloc _
 have B1:Blk W0 X (.cells #[.int .i64 0] 3):=by
  rw[A,a0];have:=Blk.new (w.alloc (.cells n.cells.toArray 298)) (.cells #[.int .i64 0] 3);rwa [bF]at this
 have a4:W0.heap.size=w.heap.size+2:=by rw[A];simp
 have B2:=B1.keeps hE (fun h=>h);rw[<-a0]
 obtain⟨gn,a2⟩:=vE W0.heap.size
 rw[<-a2]at O ⊢;have a5:X≠gn:=vO
 have b0:=B2.lt;have b1:=O.lt;have a3:=a1.trans hE;have a7:w.heap.size<=X:=vO
 have a8:w.heap.size<=w1.heap.size:=a3.size;have a9:=Hd a3;clear J hE a1 B0 B1 a4 a0 a2 A W0;gi_wp2_with fail
 refine' jdm (N:=n.refsL.length) (gf:=205) (lb:=#[.pointer (some ⟨gn,0,none⟩)]) rfl (vX 205) (jhP gn n hr)
  (fun k=>rfl) (BehC w gn X n) (fun _ _ _=>False) (fun k W W' ⟨Z,h2,H⟩ e=>⟨Z.trans e,h2.keeps e (fun h=>h),H.keeps e (fun h=>h)⟩) (fun _ _ _ _ h _=>h) (fun k W ⟨_,h,_⟩=>h)
  (fun k W o ⟨Z,h2,H⟩=>⟨Z.putObj (.inr vO) _,h2.put_other vO _,H.put_other vO _⟩) (fun _ _ _ _ h=>h)
  ⟨a9.o,O,B2⟩ _
  ?hassign ?hbody ?hdone ?hstop
 case hassign =>
  intro l j W K _ hK;rw[jry,jkm];simp only[dG,dB];gi_wp2;exact hK
 case hbody =>
  intro l k W hk ⟨Z,h2,H⟩ hlt;have q:=H.cell (i:=0) (v:=.int .i64 (jvN n k:Nat)) vF;have f:W.frozen? ⟨X,0,none⟩=false:=H.frozen;have H1:=Hd Z;have H2:=Hd h2;have H3:=Hd H;clear Z h2 H;have b2:=(jrs n hr hk).1;gi_wp2;rw[show ((n.ri k:Nat):Int)+1=((n.ri k+1:Nat):Int)from by omega];have b3:=H2.o.lt;have hx:jac (fun b=>b≠w1.heap.size/\b≠w1.heap.size+1) W (W.setCell ⟨X,0,none⟩ (.int .i64 ((n.ri k+1:Nat):Int))):=(jac.refl _ W).setCell (.inl ⟨by show X≠_;omega,by show X≠_;omega⟩) _
  exact⟨hx,H1.o.setCell (.inr a7) _,H2.o.set_other (p:=⟨X,0,none⟩) (fun e=>a5 e.symm) _,H3.o.set_same (i:=0) _⟩
 case hdone =>
  intro W ⟨Z,h2,H⟩ hd;have q:=H.cell (i:=0) (v:=.int .i64 (n.behindN:Nat)) vF;have H1:=Hd Z;have HD:=Hd hd;clear Z h2 H hd;gi_wp2
  refine⟨by simp,.inl ⟨_,_,rfl,run_takeDeferred HD.o,?_⟩⟩
  refine⟨_,results_tmp rfl _ _ _,?_⟩
  exact⟨rfl,H1.o.putObj (.inr a8) _⟩
 case hstop=>intro c k W _ _ h;exact h.elim
theorem Tryz.uStrs:Tryz.prog.underlying 34=some (.slice 9):=vY
theorem Tryz.infoStr:(Tryz.prog.info? 9).map (fun i=>(i.zero,i.size,i.bytes))=some (some (.string ⟨#[]⟩),1,16):=vY
def jdu(n:jae)(k:Nat):vM:=(n.refsL.take k).foldl (fun l x=>l.set x.1 x.2) (List.replicate 17 (jam ⟨#[]⟩))
def jbB(n:jae):vM:=(jdu n n.refsL.length).set 16 (jam n.value)
def jhb(n:jae):vB:=ja6 (jbB n)
structure BrS(w:World)(gn gs gb:Nat)(n:jae)(xs:vM)(W:World):Prop where
 ext:Ext w W
 node:Blk W gn (.cells n.cells.toArray 298)
 var:Blk W gb (.cells #[.slice (some ⟨gs,0,none⟩) 17 17] 34)
 row:Blk W gs (.cells (xs.map Value.string).toArray 9)
 len:xs.length=17
theorem BrS.st{w:vW}{n:jae}{xs:vM}(h:BrS w gn gs gb n xs W)(e:Ext W W'):BrS w gn gs gb n xs W':=
 ⟨h.ext.trans e,h.node.keeps e (fun h=>h),h.var.keeps e (fun h=>h),h.row.keeps e (fun h=>h),h.len⟩
theorem BrS.put{w:vW}{n:jae}{xs:vM}(h:BrS w gn gs gb n xs W)(r:Nat)(hr:w.heap.size<=r)(h1:gn≠r)(h2:gs≠r)(h3:gb≠r)(o:Obj):BrS w gn gs gb n xs (W.putObj r o):=
 ⟨h.ext.putObj (.inr hr) _,h.node.put_other h1 _,h.var.put_other h3 _,h.row.put_other h2 _,h.len⟩
theorem BrS.set{w:vW}{n:jae}{xs:vM}(h:BrS w gn gs gb n xs W)(hr:w.heap.size<=gs)(h1:gn≠gs)(h3:gb≠gs)(j:Nat)(x:vB):BrS w gn gs gb n (xs.set j x) (W.setCell ⟨gs,j,none⟩ (.string x)):=
 ⟨h.ext.setCell (.inr hr) _,h.node.set_other (p:=⟨gs,j,none⟩) h1 _,h.var.set_other (p:=⟨gs,j,none⟩) h3 _,by
  have:=h.row.set_same (i:=j) (.string x)
  rw[show (xs.map Value.string).toArray.setIfInBounds j (.string x)=((xs.set j x).map Value.string).toArray by simp[gB]]at this;exact this,by simp[h.len]⟩
theorem jha(k:Nat):(jdu n k).length=17:=by
 unfold jdu;generalize n.refsL.take k=l
 suffices ∀ (l:List (Nat × vB)) (m:vM),(l.foldl (fun l x=>l.set x.1 x.2) m).length=m.length by rw[this];simp
 intro l;induction l with
 | nil=>intro m;rfl
 | cons x r ih=>intro m;rw[iD,ih];simp
theorem jjZ(hk:k < n.refsL.length):jdu n (k+1)=(jdu n k).set (n.ri k) (n.rr k):=by
 unfold jdu;rw[cS hk,dX];simp[jae.ri,jae.rr,bJ,hk]
def jn5(k:Nat):vM:=List.replicate k (jam ⟨#[]⟩)++List.replicate (17 - k) ⟨#[]⟩
theorem jqc(k:Nat)(hk:k < 17):(jn5 k).set k (jam ⟨#[]⟩)=jn5 (k+1):=by
 unfold jn5;rw[dK _ _ (by simp),show k - (List.replicate k (jam ⟨#[]⟩)).length=0 by simp,show 17 - k=(17 - (k+1))+1 by omega,dQ,dG,List.replicate_succ']
 simp
def jyN(w:vW)(gn gs gb:Nat)(n:jae)(i:vV)(wr:vW):Prop:=∃ k:Nat,k<=17/\i=.int .i64 k/\BrS w gn gs gb n (jn5 k) wr
theorem jj1(hr:n.refs.length=16)(hv:n.value.size<=100000)(hc:(catB (jbB n)).size<=1000000000):vR 204 #[n.V] w (.string (jhb n)):=by
 have HV:Hid (n.V=.agg n.cells.toArray):=rfl
 obtain⟨i0,hi,b9,c0,c2⟩:=info_parts Tryz.infoStr
 have a1:=jeH (P:=Tryz.prog) (w.alloc (.cells n.cells.toArray 298)) Tryz.uStrs hi b9 c0 rfl .i64 .i64 17 (by rw[c2];omega) (by unfold maxLen;omega)
 obtain⟨q,a2⟩:∃ g,g=w.heap.size+1:=⟨_,rfl⟩
 obtain⟨gb,a3⟩:∃ g,g=w.heap.size+2:=⟨_,rfl⟩
 rw[bF, <-a2]at a1
 obtain⟨W1,Z⟩:=vE ((w.alloc (.cells n.cells.toArray 298)).alloc (.cells (List.replicate 17 (Value.string ⟨#[]⟩)).toArray 9))
 rw[<-Z]at a1;have c8:(Instr.makeSlice 34 (.int .i64 17) (.int .i64 17)).run Tryz.prog (w.alloc (.cells n.cells.toArray 298))=.ok (.slice (some ⟨q,0,none⟩) 17 17) W1:=a1;clear a1;have a4:W1.heap.size=gb:=by rw[Z,a3];simp
 have S0:BrS w w.heap.size q gb n (jn5 0) (W1.alloc (.cells #[.slice (some ⟨q,0,none⟩) 17 17] 34)):=
  ⟨by rw[Z];exact (((ExtR w).alloc _).alloc _).alloc _,by rw[Z];exact ((Blk.new w _).alloc _).alloc _,by rw[<-a4];exact Blk.new W1 _,by
   rw[Z,a2]
   have:=(Blk.new (w.alloc (.cells n.cells.toArray 298)) (.cells (List.replicate 17 (Value.string ⟨#[]⟩)).toArray 9)).alloc (.cells #[.slice (some ⟨w.heap.size+1,0,none⟩) 17 17] 34)
   rw[bF]at this;exact this,rfl⟩
 obtain⟨gn,a5⟩:∃ g,g=w.heap.size:=⟨_,rfl⟩
 rw[<-a5]at S0;have n1:gn≠q:=vO
 have n2:gb≠q:=vO
 have n3:w.heap.size<=q:=vO
 have c3:=Hd S0;have HG:=Hd a5;have c9:=Hd a2;have d0:=Hd a3;have c4:=Hd a4;have N1:=Hd n1;have N2:=Hd n2;clear Z S0 a5 a2 a3 a4 n1 n2;unfold jae.V;refine (callsIn_wide (n:=0)).1 ?_;refine callsIn_of_wp_marks Tryz.func204 rfl trivial ?_ rfl;simp only[Tryz.ntmps204,cT,bU,dA,Nat.reduceAdd,Nat.reduceSub,cV,cU,dE,cZ,cN,cY];gi_wp2_with fail
 rw[<-HG.o,c4.o];gi_loopw [10] (fun i wr=>jyN w gn q gb n i wr) (fun i _=>17 - (intOf i).toNat)
 case atStart=>exact⟨0,by omega,rfl,c3.o⟩
 case round =>
  obtain⟨k,hk,rfl,X⟩:=hrel
  have q3:=X.var.cell (i:=0) (v:=.slice (some ⟨q,0,none⟩) 17 17) vF;have H:=Hd X;clear X
  by_cases hlt:k < 17
  ·have b1:(k:Int) < 17:=vO
   gi_wp2_with fail
   refine wpIn_wide.2 (jaq [0,1,2,3,4] [4] Ext ExtR ExtT vY vY vY ?_);refine qL ⟨gb,0,none⟩ _ rfl (fun w1 h1=>jab Tryz.uStrs rfl (jaa (by exact H.o.var.cell (i:=0) (v:=.slice (some ⟨q,0,none⟩) 17 17) vF) h1)) ?_;refine vS ?_
   refine vP ?_
   refine jcC _ 29 #[.string ⟨#[]⟩] (.string (jam ⟨#[]⟩)) rfl vY rfl (fun w1=>jal (vX 29) vY) (fun w1 h1=>jct w1 ⟨#[]⟩ vI) ?_;refine vS ?_
   refine vP ?_
   refine qH _ rfl (fun w1 he K hK=>?_);have S1:=H.o.st ((jak wr).trans he)
   obtain⟨old,q1⟩:∃ v,w1.cell? ⟨q,k,none⟩=some v:=⟨_,S1.row.cellL (bB (by rw[bS,S1.len];exact hlt))⟩
   have q2:w1.frozen? ⟨q,k,none⟩=false:=S1.row.frozen;have S2:=S1.set n3 N1.o N2.o k (jam ⟨#[]⟩);rw[jqc k hlt]at S2;have a0:=Hd S2;clear S1 S2 he q3 H;go_simp;refine hK _ _ ?_;clear hK K q1 q2;refine qE (fun w2 he=>?_);have A:=Hd (a0.o.st he);clear he a0;gi_wp2;go_roundw
   case rel=>exact⟨k+1,by omega,by go_num,A.o⟩
   case measure=>exact vJ
  ·have a9:k=17:=vO
   subst a9;have hB:=H.o.node;have a7:=ja7 wr gn n hr hB;unfold jae.V at a7;clear hB;gi_wp2_with (refine jaI rfl 298 (.tmp 1) rfl _ _ rfl a7 ?_)
   refine⟨trivial,rfl,CallsIn.mono (callsIn_wide.2 (jkU _ n)) ?_⟩
   rintro e w1 ⟨rfl,a8,hE⟩;have S1:=H.o.st hE
   obtain⟨O,J⟩:∃ g,g=wr.heap.size:=⟨_,rfl⟩
   rw[<-J]at a8 ⊢;have h1:gn < O:=by rw[J];exact H.o.node.lt
   have h2:q < O:=by rw[J];exact H.o.row.lt
   have h3:gb < O:=by rw[J];exact H.o.var.lt
   have h4:=a8.lt;have c5:w.heap.size<=w1.heap.size:=S1.ext.size;have b0:jn5 17=jdu n 0:=rfl;rw[b0]at S1;clear a7 hE H q3 b0 J;gi_wp2_with fail
   refine' jdm (N:=n.refsL.length) (gf:=205) (lb:=#[.pointer (some ⟨O,0,none⟩)]) rfl (vX 205) (jhP O n hr)
    (fun k=>rfl) (fun k W=>BrS w gn q gb n (jdu n k) W/\Blk W O (.cells n.cells.toArray 298)) (fun _ _ _=>False) (fun k W W' ⟨h1,h2⟩ e=>⟨h1.st e,h2.keeps e (fun h=>h)⟩) (fun _ _ _ _ h _=>h) (fun k W ⟨_,h⟩=>h)
    (fun k W o ⟨h5,h6⟩=>⟨h5.put _ vO vO vO vO _,h6.put_other vO _⟩) (fun _ _ _ _ h=>h)
    ⟨S1,a8⟩ _
    ?hassign ?hbody ?hdone ?hstop
   case hassign =>
    intro l j W K _ hK;rw[jry,jkm];simp only[dG,dB];gi_wp2;exact hK
   case hbody =>
    intro l k W hk ⟨X,hB⟩ hlt2;have b2:=jrs n hr hk;have q3:=X.var.cell (i:=0) (v:=.slice (some ⟨q,0,none⟩) 17 17) vF;have d1:=b2.1;have c1:(n.ri k:Int) < 17:=vO
    obtain⟨old,q1⟩:∃ v,W.cell? ⟨q,n.ri k,none⟩=some v:=⟨_,X.row.cellL (bB (by rw[bS,X.len];omega))⟩
    have q2:W.frozen? ⟨q,n.ri k,none⟩=false:=X.row.frozen;have H:=Hd X;have HB:=Hd hB;clear X hB b2 S1;gi_wp2;have d2:=H.o.row.lt;have d3:=H.o.ext.size
    exact⟨(jac.refl _ W).setCell (.inl ⟨by show q≠_;omega,by show q≠_;omega⟩) _,by rw[jjZ n hk];exact H.o.set n3 N1.o N2.o _ _,HB.o.set_other (p:=⟨q,n.ri k,none⟩) (by show O≠q;omega) _⟩
   case hdone =>
    intro W ⟨X,hB⟩ hd;have q3:=X.var.cell (i:=0) (v:=.slice (some ⟨q,0,none⟩) 17 17) vF;have H:=Hd X;have HD:=Hd hd;clear X hB hd S1;gi_wp2_with fail
    refine wpIn_wide.2 (jaq [0,1,2,3,4,5] [5] Ext ExtR ExtT vY vY vY ?_);refine qL ⟨gb,0,none⟩ _ rfl (fun w1 h1=>jab Tryz.uStrs rfl (jaa (by exact H.o.var.cell (i:=0) (v:=.slice (some ⟨q,0,none⟩) 17 17) vF) h1)) ?_;refine vS ?_
    refine vP ?_
    refine qL ⟨gn,2,none⟩ (.string n.value) rfl (fun w1 h1=>jab Tryz.uStr rfl (jaa (by exact H.o.node.cellL vF) h1)) ?_;refine vS ?_;refine jcC _ 29 #[.string n.value] (.string (jam n.value)) rfl vY rfl (fun w1=>jal (vX 29) vY) (fun w1 h1=>jct w1 n.value vO) ?_;refine vS ?_
    refine vP ?_
    refine qH _ rfl (fun w2 he K hK=>?_);have S1:=H.o.st ((jak W).trans he);have b3:=HD.o.keeps ((jak W).trans he) (fun h=>h)
    obtain⟨old,q1⟩:∃ v,w2.cell? ⟨q,16,none⟩=some v:=⟨_,S1.row.cellL (bB (by rw[bS,S1.len];omega))⟩
    have q2:w2.frozen? ⟨q,16,none⟩=false:=S1.row.frozen;have S2:=S1.set n3 N1.o N2.o 16 (jam n.value);have b4:=b3.set_other (p:=⟨q,16,none⟩) (by show w1.heap.size≠q;omega) (.string (jam n.value));have a0:=Hd S2;have b5:=Hd b4;clear S1 S2 he q3 H HD b3 b4;go_simp;refine hK _ _ ?_;clear hK K q1 q2;refine qE (fun w3 he=>?_);have A:=Hd (a0.o.st he);have b6:=Hd (b5.o.keeps he (fun h=>h));have q3:=A.o.var.cell (i:=0) (v:=.slice (some ⟨q,0,none⟩) 17 17) vF;clear he a0 b5;gi_wp2_with fail
    have b7:RdS w3 (.slice (some ⟨q,0,none⟩) 17 17) (jbB n):=by
     have hl:(jbB n).length=17:=A.o.len;exact .inr ⟨q,0,17,by rw[hl],A.o.row.lt,by omega,fun j x hx=>by rw[bT];exact A.o.row.cellL (by rw[bV];show ((jbB n)[j]?).map _=_;rw[hx];rfl)⟩
    refine⟨trivial,rfl,CallsIn.mono (callsIn_wide.2 (jky w3 _ (jbB n) b7 hc (by have:(jbB n).length=17:=A.o.len;omega))) ?_⟩
    rintro e w4 ⟨rfl,hE⟩;have b8:=b6.o.keeps hE (fun h=>h);have HE:=Hd (A.o.ext.trans hE);have c7:=Hd b8;clear hE b8 A b6 b7 q3;gi_wp2_with fail
    refine⟨by simp,.inl ⟨_,_,rfl,run_takeDeferred c7.o,?_⟩⟩
    refine⟨_,results_tmp rfl _ _ _,?_⟩
    exact⟨rfl,HE.o.putObj (.inr c5) _⟩
   case hstop=>intro c k W _ _ h;exact h.elim
def jd9(x:vB):Prop:=∀ y:vB,(x++y).size<=1000000000->∃ r,cutN (x++y)=some r/\r.2.1+r.2.2=x.size
theorem jej:catB (x :: xs)=x++catB xs:=by
 apply ByteArray.ext;apply Array.ext';simp[catB,dL]
theorem jkh:(x++y).extract 0 x.size=x:=ByteArray.extract_append_eq_left rfl
theorem jhr:(x++y).extract x.size (x++y).size=y:=ByteArray.extract_append_eq_right rfl (by rw[cD])
theorem ji6{s:vB}{r:Bool × Nat × Nat}(h:cutN s=some r):0 < s.size/\0 < r.2.1+r.2.2:=by
 unfold cutN at h
 by_cases h0:0 < s.size
 ·refine⟨h0,?_⟩
  rw[dif_pos h0]at h;simp only at h
  by_cases h1:s[0].toNat < 128
  ·rw[if_pos h1]at h
   obtain rfl:=bP h;simp
  ·rw[if_neg h1]at h
   obtain⟨q,e⟩:∃ q:Bool × Nat,q=if s[0].toNat < 192 then (false,s[0].toNat - 128)else (true,s[0].toNat - 192):=⟨_,rfl⟩
   rw[<-e]at h;clear e
   obtain⟨l,m⟩:=q
   simp only at h
   by_cases h3:m<=55
   ·rw[if_pos h3]at h
    split at h
    ·obtain rfl:=bP h;simp only;omega
    ·cases h
   ·rw[if_neg h3]at h
    split at h
    ·split at h
     ·obtain rfl:=bP h;simp only;omega
     ·cases h
    ·cases h
 ·rw[dif_neg h0]at h;cases h
theorem jsP{xs:vM}(h:k < xs.length):catB (xs.drop k)=xs[k]++catB (xs.drop (k+1)):=by
 rw[gF h,jej]
def joB:vV->Nat | .string b=>b.size | _=>0
def juV(W:vW)(xs:vM)(C:Nat->vW->Prop)(v:vV)(wr:vW):Prop:=∃ k:Nat,k<=xs.length/\v=.string (catB (xs.drop k))/\C k wr
theorem jvw(b:Nat)(xs:vM)(hx:∀ x∈xs,jd9 x)(hs:(catB xs).size<=1000000000):jr5 Tryz.prog 218 #[.pointer (some ⟨b,0,none⟩)] xs.length (fun k=>#[.string (xs.getD k ⟨#[]⟩),.nilIface]) (fun W=>Blk W b (.cells #[.string (catB xs)] 9)):=by
 intro l C Cx hC a0 hS W hY h0;have hB:=(hS 0 W h0).cell (i:=0) (v:=.string (catB xs)) vF;have HY:=Hd hY;have H0:=Hd h0;have a8:=Hd hs;clear hY h0 hS hs;refine callsIn_of_wp Tryz.func218 rfl trivial ?_ rfl;simp only[Tryz.ntmps218,cT,bU,dA,Nat.reduceAdd,Nat.reduceSub,cV,cU,dE,cZ,cN,cY];gi_wp2;have a9:=Hd hC;have b8:=Hd a0;clear hC a0;gi_loopw [3] (fun v wr=>juV W xs C v wr) (fun v _=>joB v)
 case atStart=>exact⟨0,by omega,rfl,H0.o⟩
 case round =>
  obtain⟨k,hk,rfl,a1⟩:=hrel
  have a2:=Hd a1;clear a1
  by_cases hlt:k < xs.length
  ·obtain⟨x,A⟩:=vE (xs[k])
   have q:=jsP hlt;rw[<-A]at q
   obtain⟨y,hy⟩:=vE (catB (xs.drop (k+1)))
   rw[<-hy]at q;have H:(x++y).size<=1000000000:=by
    have h1:(catB (xs.drop k)).size<=(catB xs).size:=by
     have h2:(catB xs).size=(catB (xs.take k)).size+(catB (xs.drop k)).size:=by
      conv=>lhs;rw[<-dJ k xs]
      simp only[catB,ByteArray.size,bY,List.flatten_append,cT,bI]
     omega
    rw[q]at h1;have:=a8.o;omega
   obtain⟨r,K,O⟩:=hx x (A ▸ dW hlt) y H
   obtain⟨z,hz⟩:=vE (x++y)
   have a3:z.size=x.size+y.size:=by rw[hz,cD]
   rw[<-hz]at q H K;rw[q];have J:=ji6 K;have b9:=jbq J.1;have a4:z.extract (r.2.1+r.2.2) z.size=y:=by
    rw[O,hz];exact jhr x y
   have c0:z.extract 0 x.size=x:=by
    rw[hz];exact jkh x y
   have a5:xs.getD k ⟨#[]⟩=x:=by rw[bJ,bB hlt, <-A];rfl
   have b0:=Hd a5;have HX:=Hd A;have b2:=Hd H;have b3:=Hd hy;have HZ:=Hd hz;have X:=Hd a3;have HP:=Hd J;have b4:=Hd O;clear A q hy hz a5 J O a3;gi_wp2_with fail
   refine⟨trivial,rfl,CallsIn.mono (callsIn_wide.2 (jxG wr z r H K)) ?_⟩
   rintro e w1 ⟨rfl,hE⟩;unfold jc8;rw[a4]
   obtain⟨u,hu⟩:=vE (z.extract r.2.1 (r.2.1+r.2.2))
   rw[<-hu]
   obtain⟨b1,o,ln⟩:=r
   simp only;clear K a4 hu H
   obtain⟨fn,tm,c4,bd,b5,a7⟩:=HY.o k w1 hlt (a9.o k _ _ a2.o hE)
   simp only[b0.o]at b5;have b6:=Hd a7;clear hE a7;have c1:(z.size:Int) - (y.size:Int)=(x.size:Int):=by have:=X.o;omega
   have c2:(x.size:Int)<=(z.size:Int):=by have:=X.o;omega
   have c3:z.size<=1000000000:=b2.o;gi_wp2
   refine⟨rfl,(b6.o.mono ?_)⟩
   rintro e w5 (⟨rfl,C5⟩ |⟨rfl,C5⟩)
   ·have Z:=Hd C5
    clear C5;gi_wp2;go_roundw
    case rel=>exact⟨k+1,by omega,by rw[<-b3.o],Z.o⟩
    case measure=>show y.size < z.size;have:=(show 0 < o+ln from HP.o.2);have:=X.o;have:=(show o+ln=x.size from b4.o);omega
   ·have Z:=Hd C5
    clear C5;gi_wp2;refine bodyPost_ret (results_none rfl _ _ _) rfl ?_
    exact⟨⟨_,rfl⟩,.inr ⟨k+1,by omega,by omega,Z.o⟩⟩
  ·have b7:k=xs.length:=vO
   subst b7;have hd:catB (xs.drop xs.length)=⟨#[]⟩:=by rw[fS];rfl
   rw[hd];gi_wp2;refine bodyPost_end (results_none rfl _ _ _) rfl ?_
   exact⟨⟨_,rfl⟩,.inl a2.o⟩
theorem jxI:vQ 180 #[.string s] w fun e w'=>e=.returned (.func (.func 218) #[] #[.pointer (some ⟨w.heap.size,0,none⟩)])/\Blk w' w.heap.size (.cells #[.string s] 9)/\Ext w w':=by
 unfold vQ;go_in;go_wp2_with fail
 go_ret
 exact⟨rfl,Blk.new w _,(ExtR w).alloc _⟩
theorem Tryz.sStrs:jcw Tryz.prog 34 9 1 16:=jcw.mk' vY (show (Tryz.prog.info? 9).map (fun i=>(i.zero,i.size,i.bytes))=some (some (.string ⟨#[]⟩),1,16) by kernel_rfl) rfl vI
theorem jk7{t T:TypeId}(I:jcw P t T sz by'){F:Fence}{w0 w:vW}{v:vV}{n:Nat}{xs:List vV}{news:List vV}(hR:ORow T sz w0 w v n xs)(s x:Operand)(hgd:o.guard=none)(hs:a.eval s=v)(hx:a.eval x=.slice (some ⟨g,0,none⟩) m c)(hB:∀ j u,news[j]?=some u->w.cell? ((⟨g,0,none⟩:Addr).add j)=some u)(h1:∀ u∈news,u.oneCell'=true)(hl:news.length=m * sz)
  (ho:o.op=Op.call { callee:=Callee.builtin Builtin.append,args:=#[s,x],argTypes:=#[t,t] }) (h63:n+m<=maxLen) (hby:(n+m) * by'<=140737488355328)
  (h:∀ e w',ORow T sz w0 w' e (n+m) (xs++news)->jac (fun b=>v.ownBlock=some b) w w'->(e.ownBlock=v.ownBlock\/∀ b,e.ownBlock=some b->w.heap.size<=b)->wpListIn F nn P ops Q rest (a.put o.dst e) w'):wpListIn F nn P ops Q (o :: rest) a w:=by
 obtain⟨i,z,H,J,K,O,X⟩:=I.hi
 exact jbK w (o:=o) hgd s x t ho T i z sz by' I.ht H J K O X I.hsz v n xs hs hR.own ⟨g,0,none⟩ m c news hx hl hB h1 h63 hby (fun e w' Z q A=>h e w' (hR.step Z q A) q A)
structure ItS(w:World)(g m:Nat)(xs:vM)(k:Nat)(W:World):Prop where
 ext:Ext w W
 b2:Blk W g (.cells #[.slice none 0 0] 34)
 b3:Blk W (g+1) (.cells #[.int .i64 0] 27)
 bc:Blk W (g+3) (.cells #[.string (catB xs)] 9)
 row:∃ v,Blk W (g+2) (.cells #[v] 34)/\W.ownsRow 0 9 1 v k ((xs.take k).map Value.string)/\∀ b,v.ownBlock=some b->m+2<=b
theorem ItS.st{w:vW}{xs:vM}(h:ItS w g m xs k W)(e:Ext W W'):ItS w g m xs k W':=
 let ⟨v,h1,h2,h3⟩:=h.row
 ⟨h.ext.trans e,h.b2.keeps e (fun h=>h),h.b3.keeps e (fun h=>h),h.bc.keeps e (fun h=>h),v,h1.keeps e (fun h=>h),jaZ h2 e,h3⟩
theorem ItS.put{w:vW}{xs:vM}(h:ItS w g m xs k W)(hr:w.heap.size<=r)(h1:g+3 < r)(h2:r < m+2)(o:Obj):ItS w g m xs k (W.putObj r o):=
 let ⟨v,h3,h4,h5⟩:=h.row
 ⟨h.ext.putObj (.inr hr) _,h.b2.put_other vO _,h.b3.put_other vO _,h.bc.put_other vO _,v,h3.put_other vO _,
  jaL h4 (jac.onePut W r o) (fun b hb e=>by have:=h5 b hb;omega),h5⟩
theorem jls(hx:∀ x∈xs,jd9 x)(hs:(catB xs).size<=1000000000)(hn:xs.length<=1000000):vQ 142 #[.string (catB xs)] w fun e w'=>∃ v,e=.returned (.tuple #[v,.int .i64 0])/\SRow w w' v xs.length xs:=by
 obtain⟨i0,hi,a8,a9,b0⟩:=info_parts Tryz.infoStr
 refine (callsIn_wide (n:=0)).1 ?_;refine callsIn_of_wp_marks Tryz.func142 rfl trivial ?_ rfl;simp only[Tryz.ntmps142,cT,bU,dA,Nat.reduceAdd,Nat.reduceSub,cV,cU,dE,cZ,cN,cY];gi_wp2_with fail
 obtain⟨Z,q⟩:=vE (((w.alloc (.cells #[.slice none 0 0] 34)).alloc (.cells #[.int .i64 0] 27)).alloc (.cells #[.slice none 0 0] 34))
 rw[<-q];have a2:Z.heap.size=w.heap.size+3:=by rw[q];simp
 have E0:Ext w Z:=by rw[q];exact ((((ExtR w).alloc _).alloc _).alloc _)
 have B2:Blk Z w.heap.size (.cells #[.slice none 0 0] 34):=by rw[q];exact ((Blk.new w _).alloc _).alloc _
 have B3:Blk Z (w.heap.size+1) (.cells #[.int .i64 0] 27):=by
  rw[q];have:=(Blk.new (w.alloc (.cells #[.slice none 0 0] 34)) (.cells #[.int .i64 0] 27)).alloc (.cells #[.slice none 0 0] 34);rwa [bF]at this
 have B4:Blk Z (w.heap.size+2) (.cells #[.slice none 0 0] 34):=by
  rw[q];have:=(Blk.new ((w.alloc (.cells #[.slice none 0 0] 34)).alloc (.cells #[.int .i64 0] 27)) (.cells #[.slice none 0 0] 34));rwa [bF,bF]at this
 clear q
 refine⟨trivial,rfl,CallsIn.mono (callsIn_wide.2 (jxI Z (catB xs))) ?_⟩
 rintro e w1 ⟨rfl,O,hE⟩;rw[a2]at O ⊢;have S0:ItS w w.heap.size w1.heap.size xs 0 w1:=⟨E0.trans hE,B2.keeps hE (fun h=>h),B3.keeps hE (fun h=>h),O,_,B4.keeps hE (fun h=>h),fE _ _ _ _,fun b hb=>by cases hb⟩;have b8:=O.lt;have b1:=Hd S0;clear a2 E0 B2 B3 B4 O hE S0 Z;gi_wp2_with fail
 refine' jdm (N:=xs.length) (gf:=218) (lb:=#[.pointer (some ⟨w.heap.size+3,0,none⟩)]) rfl (vX 218) (jvw (w.heap.size+3) xs hx hs)
  (fun k=>rfl) (ItS w w.heap.size w1.heap.size xs) (fun _ _ _=>False) (fun k W W' h e=>h.st e) (fun _ _ _ _ h _=>h) (fun k W h=>h.bc)
  (fun k W o h=>h.put vO vO vO _) (fun _ _ _ _ h=>h)
  b1.o _
  ?hassign ?hbody ?hdone ?hstop
 case hassign =>
  intro l j W K _ hK;rw[jkm];simp only[dG,dB];gi_wp2;exact hK
 case hbody =>
  intro l k W hk H b9
  obtain⟨v,h1,h2,h3⟩:=H.row
  obtain⟨ad,A,rfl⟩:=jaD h2
  obtain⟨x,a0⟩:=vE (xs.getD k ⟨#[]⟩)
  rw[<-a0];have q4:W.cell? ⟨w.heap.size+1+1,0,none⟩=some (.slice ad k A):=h1.cell (i:=0) vF;have f4:W.frozen? ⟨w.heap.size+1+1,0,none⟩=false:=h1.frozen;have X:=Hd H;have H1:=Hd h1;have H2:=Hd h2;have H3:=Hd h3;have b4:=Hd a0;clear H h1 h2 h3 a0;gi_wp2_with (gi_at_builtin;refine jbK _ rfl (.tmp 21) (.tmp 23) 34 rfl 9 i0 _ 1 16 Tryz.uStrs hi a8 a9 b0 rfl vI (.slice ad k A) k _ rfl (jaZ H2.o ((ExtR W).alloc _)) ⟨W.heap.size,0,none⟩ 1 1 [.string x] rfl rfl (jaN (Blk.new W _)) (by simp[Value.oneCell']) (by unfold maxLen;omega) vO ?_)
  intro v' w6 r1 r2 r3;have K6:jac (fun b=>(Value.slice ad k A).ownBlock=some b) W w6:=((jac.refl _ W).alloc _).trans r2;have e1:((xs.take k).map Value.string++[.string x])=(xs.take (k+1)).map Value.string:=by
   rw[cS hk,bY,b4.o];simp[bJ,hk]
  have r1:w6.ownsRow 0 9 1 v' (k+1) ((xs.take (k+1)).map Value.string):=by rw[<-e1,iT];exact r1
  have b6:=X.o.b2.lt;have b7:=H1.o.lt;have c0:w.heap.size<=w1.heap.size:=vO
  have nb:∀ b,b < w1.heap.size+2->¬(Value.slice ad k A).ownBlock=some b:=fun b hb e=>by have:=H3.o b e;omega
  obtain⟨a3,a4,rfl⟩:=jaD r1
  have a5:∀ b,(Value.slice a3 (k+1) a4).ownBlock=some b->w1.heap.size+2<=b:=fun b hb=>by
   rcases r3 with r3 | r3
   ·exact H3.o b (r3 ▸ hb)
   ·have:=r3 b hb;omega
  have B4:=H1.o.keeps K6 (nb _ vO);have c1:w6.cell? ⟨w.heap.size+1+1,0,none⟩=some (.slice ad k A):=B4.cell (i:=0) vF;have c4:w6.frozen? ⟨w.heap.size+1+1,0,none⟩=false:=B4.frozen;have J:=Hd K6;have b5:=Hd B4;have R1:=Hd r1;have a7:=Hd a5;have NB:=Hd nb;clear K6 r1 r2 r3 e1 a5 B4 nb q4 f4;gi_wp2;have k7:jac (fun b=>b=w.heap.size+1+1) w6 (w6.setCell ⟨w.heap.size+1+1,0,none⟩ (.slice a3 (k+1) a4)):=jac.oneSet w6 ⟨w.heap.size+1+1,0,none⟩ _
  refine⟨(J.o.mono (fun x _ e=>?_)).trans' k7 (fun x _ e=>?_),?_⟩
  ·have:=H3.o x e;show x≠_/\x≠_;omega
  ·have e:x=_:=e;show x≠_/\x≠_;omega
  ·refine⟨(X.o.ext.trans' J.o (fun x hx e=>by have:=H3.o x e;omega)).trans' k7 (fun x hx e=>by have e:x=_:=e;omega),
    (X.o.b2.keeps J.o (NB.o _ vO)).keeps k7 (fun e=>by omega),(X.o.b3.keeps J.o (NB.o _ vO)).keeps k7 (fun e=>by omega),(X.o.bc.keeps J.o (NB.o _ vO)).keeps k7 (fun e=>by omega),
    _,b5.o.set_same (i:=0) _,jaL R1.o k7 (fun b hb e=>by have:=a7.o b hb;omega),a7.o⟩
 case hdone =>
  intro W H hd
  obtain⟨v,h1,h2,h3⟩:=H.row
  obtain⟨ad,A,rfl⟩:=jaD h2
  have q4:W.cell? ⟨w.heap.size+1+1,0,none⟩=some (.slice ad xs.length A):=h1.cell (i:=0) vF;have q2:=H.b2.cell (i:=0) (v:=.slice none 0 0) vF;have f2:W.frozen? ⟨w.heap.size,0,none⟩=false:=H.b2.frozen;have q3:=H.b3.cell (i:=0) (v:=.int .i64 0) vF;have f3:W.frozen? ⟨w.heap.size+1,0,none⟩=false:=H.b3.frozen;have X:=Hd H;have H2:=Hd h2;have H3:=Hd h3;have HD:=Hd hd;clear H h1 h2 h3 hd;gi_wp2
  obtain⟨W3,a1⟩:=vE ((W.setCell ⟨w.heap.size,0,none⟩ (.slice ad xs.length A)).setCell ⟨w.heap.size+1,0,none⟩ (.int .i64 0))
  rw[<-a1];have B2:=(X.o.b2.set_same (i:=0) (.slice ad xs.length A)).set_other (p:=⟨w.heap.size+1,0,none⟩) (by show w.heap.size≠w.heap.size+1;omega) (.int .i64 0);have B3:=(X.o.b3.set_other (p:=⟨w.heap.size,0,none⟩) (by show w.heap.size+1≠w.heap.size;omega) (.slice ad xs.length A)).set_same (i:=0) (.int .i64 0);have BD:=(HD.o.set_other (p:=⟨w.heap.size,0,none⟩) (by show w1.heap.size≠w.heap.size;omega) (.slice ad xs.length A)).set_other (p:=⟨w.heap.size+1,0,none⟩) (by show w1.heap.size≠w.heap.size+1;omega) (.int .i64 0);rw[<-a1]at B2 B3 BD;have K1:=(jac.oneSet W ⟨w.heap.size,0,none⟩ (.slice ad xs.length A));have K3:jac (fun b=>b=w.heap.size\/b=w.heap.size+1\/b=w1.heap.size) W (W3.putObj w1.heap.size (.deferred none)):=by
   rw[a1];exact (((jac.refl _ W).setCell (.inl (.inl rfl)) _).setCell (.inl (.inr (.inl rfl))) _).putObj (.inl (.inr (.inr rfl))) _
  have c2:(W3.putObj w1.heap.size (.deferred none)).cell? ⟨w.heap.size,0,none⟩=some (.slice ad xs.length A):=(B2.put_other vO _).cell (i:=0) (by simp);have c3:(W3.putObj w1.heap.size (.deferred none)).cell? ⟨w.heap.size+1,0,none⟩=some (.int .i64 0):=(B3.put_other vO _).cell (i:=0) (by simp)
  refine⟨by simp,.inl ⟨_,_,rfl,run_takeDeferred BD,?_⟩⟩
  refine⟨.tuple #[.slice ad xs.length A,.int .i64 0],by simp[results,Tryz.results142,go_sem,c2,c3],?_⟩
  refine⟨_,rfl,⟨_,_,rfl⟩,?_,X.o.ext.trans' K3 (fun x hx e=>by omega),fun b hb=>by have:=H3.o b hb;omega⟩
  have h5:=jaL H2.o K3 (fun b hb e=>by have:=H3.o b hb;omega)
  rwa [cG]at h5
 case hstop=>intro c k W _ _ h;exact h.elim
end
theorem jqy:∀ (f n:Nat),n < 256 ^ f->beN (leF f n).reverse=n
 | 0,n,h=>by simp at h;subst h;rfl
 | f+1,n,h=>by
  unfold leF
  by_cases h0:n=0
  ·rw[if_pos h0,h0];rfl
  ·rw[if_neg h0,List.reverse_cons,jl3,jqy f (n / 256) (by rw[Nat.pow_succ]at h;omega)]
   have:(UInt8.ofNat n).toNat=n % 256:=rfl
   omega
theorem jmO:∀ (f n:Nat),n < 256 ^ f->0 < n->∃ x l,(leF f n).reverse=x :: l/\x≠0
 | 0,n,h,h0=>by simp at h;omega
 | f+1,n,h,h0=>by
  unfold leF;rw[if_neg vO,List.reverse_cons]
  by_cases h1:n / 256=0
  ·have:leF f (n / 256)=[]:=by rw[h1];cases f <;> simp[leF]
   rw[this]
   refine⟨_,_,rfl,fun e=>?_⟩
   have H:(UInt8.ofNat n).toNat=(0:vU).toNat:=by rw[e]
   have:(UInt8.ofNat n).toNat=n % 256:=rfl
   have q:(0:vU).toNat=0:=rfl;omega
  ·obtain⟨x,l,A,q⟩:=jmO f (n / 256) (by rw[Nat.pow_succ]at h;omega) vO
   exact⟨x,l++[UInt8.ofNat n],by rw[A];rfl,q⟩
theorem jfw(a:vU)(t:vN):cutN ⟨(a :: t).toArray⟩ =
  (if a.toNat < 128 then some (false,0,1)else
   if (if a.toNat < 192 then a.toNat - 128 else a.toNat - 192)<=55 then
    if 1+(if a.toNat < 192 then a.toNat - 128 else a.toNat - 192)<=t.length+1/\(decide (192<=a.toNat)=true\/(if a.toNat < 192 then a.toNat - 128 else a.toNat - 192)≠1\/128<=((a :: t).getD 1 0).toNat)then some (decide (192<=a.toNat),1,(if a.toNat < 192 then a.toNat - 128 else a.toNat - 192))else none
   else match lenB ⟨(a :: t).toArray⟩ (1+((if a.toNat < 192 then a.toNat - 128 else a.toNat - 192) - 55))with
    | some n=>if 1+((if a.toNat < 192 then a.toNat - 128 else a.toNat - 192) - 55)+n<=t.length+1 then some (decide (192<=a.toNat),1+((if a.toNat < 192 then a.toNat - 128 else a.toNat - 192) - 55),n)else none
    | none=>none):=by
 have e:(⟨(a :: t).toArray⟩:vB).size=t.length+1:=rfl;have q:0 < (⟨(a :: t).toArray⟩:vB).size:=by rw[e];omega
 have A:(⟨(a :: t).toArray⟩:vB)[0]'q=a:=rfl;unfold cutN;rw[dif_pos q];simp only[A,e]
 by_cases h1:a.toNat < 128
 ·rw[if_pos h1,if_pos h1]
 ·rw[if_neg h1,if_neg h1]
  by_cases h2:a.toNat < 192
  ·simp only[if_pos h2,show decide (192<=a.toNat)=false by simp;omega];rfl
  ·simp only[if_neg h2,show decide (192<=a.toNat)=true by simp;omega];rfl
def hb(l:Bool):vU:=if l then 192 else 128
theorem juR(a b:vU)(h:a.toNat+b.toNat < 256):(a+b).toNat=a.toNat+b.toNat:=by rw[UInt8.toNat_add];omega
theorem joE(n:Nat)(h:n < 256):(UInt8.ofNat n).toNat=n:=by show n % 256=n;omega
theorem juF:(hb l).toNat=if l then 192 else 128:=by cases l <;> rfl
theorem jsF(b y:vN)(hn:b.length<=1048576)(h1:l=false->b.length=1->128<=(b.headD 0).toNat) :
  cutN ⟨((jcN (hb l) b.length).data.toList++(b++y)).toArray⟩=some (l,(jcN (hb l) b.length).size,b.length):=by
 by_cases hs:b.length<=55
 ·have Z:(jcN (hb l) b.length)=⟨#[hb l+UInt8.ofNat b.length]⟩:=by unfold jcN;rw[if_pos hs]
  rw[Z];have q:(hb l+UInt8.ofNat b.length).toNat=(if l then 192 else 128)+b.length:=by
   rw[juR _ _ (by rw[juF,joE _ vO];split <;> omega),juF,joE _ vO]
  have a0:(⟨#[hb l+UInt8.ofNat b.length]⟩:vB).size=1:=rfl;rw[a0]
  obtain⟨a,e⟩:=vE (hb l+UInt8.ofNat b.length)
  rw[<-e]at q ⊢;have hm:(if a.toNat < 192 then a.toNat - 128 else a.toNat - 192)=b.length:=by
   rw[q];cases l <;> simp only[cH,if_false,if_true]
   ·rw[if_pos vO];omega
   ·rw[if_neg vO];omega
  have A:decide (192<=a.toNat)=l:=by
   rw[q];cases l <;> simp <;> omega
  show cutN ⟨(a ::(b++y)).toArray⟩=_;rw[jfw,hm,A,if_neg (by rw[q];split <;> omega),if_pos hs,if_pos]
  refine⟨by rw[bI];omega,?_⟩
  cases l with
  | true=>exact .inl rfl
  | false =>
   refine .inr ?_
   by_cases h2:b.length=1
   ·refine .inr ?_
    have:=h1 rfl h2
    match b,h2 with
    | [x],_=>simpa using this
   ·exact .inl h2
 ·obtain⟨d,X⟩:=vE (leF 8 b.length).reverse
  have hp:b.length < 256 ^ 8:=vO
  have a7:d.length<=8:=by rw[X,List.length_reverse];exact jff _ _
  have a1:beN d=b.length:=by rw[X];exact jqy _ _ hp
  obtain⟨x,r,H,a2⟩:=jmO 8 b.length hp vO
  rw[<-X]at H;have J:jaK b.length=⟨d.toArray⟩:=by unfold jaK;rw[X]
  have a3:(⟨d.toArray⟩:vB).size=d.length:=rfl;have Z:(jcN (hb l) b.length)=⟨#[hb l+55+UInt8.ofNat d.length]⟩++⟨d.toArray⟩:=by unfold jcN;rw[if_neg hs,J,a3]
  have K:(jcN (hb l) b.length).data.toList=(hb l+55+UInt8.ofNat d.length) :: d:=by
   rw[Z,dL];simp
  have a4:(jcN (hb l) b.length).size=1+d.length:=by
   show (jcN (hb l) b.length).data.toList.length=_;rw[K,bU];omega
  rw[K,a4];have O:(hb l+55:vU).toNat=(if l then 192 else 128)+55:=by cases l <;> rfl
  have q:(hb l+55+UInt8.ofNat d.length).toNat=(if l then 192 else 128)+55+d.length:=by
   rw[juR _ _ (by rw[O,joE _ vO];split <;> omega),O,joE _ vO]
  obtain⟨a,e⟩:=vE (hb l+55+UInt8.ofNat d.length)
  rw[<-e]at q ⊢;have a8:1<=d.length:=by rw[H];simp
  have hm:(if a.toNat < 192 then a.toNat - 128 else a.toNat - 192)=55+d.length:=by
   rw[q];cases l <;> simp only[cH,if_false,if_true]
   ·rw[if_pos vO];omega
   ·rw[if_neg vO];omega
  have A:decide (192<=a.toNat)=l:=by
   rw[q];cases l <;> simp <;> omega
  have a5:lenB ⟨(a ::(d++(b++y))).toArray⟩ (1+d.length)=some b.length:=by
   have e1:((⟨(a ::(d++(b++y))).toArray⟩:vB).data.toList.take (1+d.length)).drop 1=d:=by
    show ((a ::(d++(b++y))).take (1+d.length)).drop 1=d;rw[iL,fP,List.drop_succ_cons,List.drop_zero,List.take_left]
   unfold lenB;rw[if_neg,e1,a1,if_pos ⟨by omega,hn⟩];rintro (h | h)
   ·have:(⟨(a ::(d++(b++y))).toArray⟩:vB).size=(d++(b++y)).length+1:=rfl
    rw[this,bI]at h;omega
   ·have:(⟨(a ::(d++(b++y))).toArray⟩:vB).data.toList.getD 1 0=x:=by rw[H];rfl
    rw[this]at h;exact a2 h
  show cutN ⟨(a ::(d++(b++y))).toArray⟩=_;rw[jfw,hm,A,if_neg (by rw[q];split <;> omega),if_neg vO,show 55+d.length - 55=d.length by omega,a5];simp only[bI];rw[if_pos vO]
theorem jsi:s=⟨s.data.toList.toArray⟩:=rfl
theorem jkb(hn:b.size<=1048576)(h1:l=false->b.size=1->128<=(b.data.toList.headD 0).toNat) :
  cutN (jcN (hb l) b.size++b++y)=some (l,(jcN (hb l) b.size).size,b.size):=by
 have h:=jsF l b.data.toList y.data.toList hn h1;rw[jsi (jcN (hb l) b.size++b++y)];simp only[dL,fQ,cE];exact h
theorem jht:(h++b++y).extract h.size (h.size+b.size)=b:=by
 apply ByteArray.ext;apply Array.ext';rw[fH,gA,dL,dL,fQ,fQ,fL,
  show h.size+b.size - h.size=b.data.toList.length by show _=b.size;omega,cE,show h.size=h.data.toList.length from rfl,List.drop_left,List.take_left]
theorem jkd(hn:b.size<=1048576):∃ o,cutN (jam b++y)=some (false,o,b.size)/\o+b.size=(jam b).size/\(jam b++y).extract o (o+b.size)=b:=by
 by_cases h:b.size=1/\b.data.toList.headD 255 < 128
 ·obtain⟨H,A⟩:=h
  obtain⟨⟨lb⟩⟩:=b
  have e:lb.length=1:=H
  match lb,e,A with
  | [x],_,A =>
   have J:x.toNat < 128:=dS.1 A;have q:jam ⟨#[x]⟩=⟨#[x]⟩:=by unfold jam;rw[if_pos ⟨rfl,A⟩]
   refine⟨0,?_,?_,?_⟩
   ·rw[show (⟨[x].toArray⟩:vB)=⟨#[x]⟩from rfl,q,jsi (_++y),dL,fQ]
    show cutN ⟨(x :: y.data.toList).toArray⟩=_;rw[jfw,if_pos J];rfl
   ·rw[show (⟨[x].toArray⟩:vB)=⟨#[x]⟩from rfl,q];rfl
   ·rw[show (⟨[x].toArray⟩:vB)=⟨#[x]⟩from rfl,q,bT];exact jkh _ _
 ·have q:jam b=jcN (hb false) b.size++b:=by unfold jam;rw[if_neg h];rfl
  rw[q]
  refine⟨_,jkb false b y hn (fun _ H=>?_),by rw[cD],jht _ _ _⟩
  obtain⟨⟨lb⟩⟩:=b
  have e:lb.length=1:=H
  match lb,e,h with
  | [x],_,h =>
   have O:¬ x < 128:=fun K=>h ⟨rfl,K⟩;have X:¬ x.toNat < (128:vU).toNat:=fun K=>O (dS.2 K);have Z:(128:vU).toNat=128:=rfl;show 128<=x.toNat;omega
theorem jkc(hn:(catB xs).size<=1048576):∃ o,cutN (ja6 xs++y)=some (true,o,(catB xs).size)/\o+(catB xs).size=(ja6 xs).size/\(ja6 xs++y).extract o (o+(catB xs).size)=catB xs:=by
 have e:ja6 xs=jcN (hb true) (catB xs).size++catB xs:=rfl;rw[e]
 exact⟨_,jkb true _ y hn (fun h=>by cases h),by rw[cD],jht _ _ _⟩
theorem jbo(hn:b.size<=1048576):jd9 (jam b):=fun y _=>let ⟨o,h1,h2,_⟩:=jkd b y hn;⟨_,h1,h2⟩
theorem jhA(hn:(catB xs).size<=1048576):jd9 (ja6 xs):=fun y _=>let ⟨o,h1,h2,_⟩:=jkc xs y hn;⟨_,h1,h2⟩
theorem jo2:x++⟨#[]⟩=x:=ByteArray.append_empty
theorem jem(hn:b.size<=1048576):∃ o,cutN (jam b)=some (false,o,b.size)/\o+b.size=(jam b).size/\(jam b).extract o (o+b.size)=b:=by
 have:=jkd b ⟨#[]⟩ hn;rwa [jo2]at this
theorem jdB(hn:(catB xs).size<=1048576):∃ o,cutN (ja6 xs)=some (true,o,(catB xs).size)/\o+(catB xs).size=(ja6 xs).size/\(ja6 xs).extract o (o+(catB xs).size)=catB xs:=by
 have:=jkc xs ⟨#[]⟩ hn;rwa [jo2]at this
theorem jdL(hn:b.size<=1048576):∃ r,cutN (jam b)=some r/\jeB (jam b) r=some b:=by
 obtain⟨o,e,q,A⟩:=jem b hn
 exact⟨_,e,by unfold jeB;rw[if_pos ⟨rfl,q⟩,A]⟩
theorem jeu(hn:b.size=32):∃ r,cutN (jam b)=some r/\jfA (jam b) r=some b:=by
 obtain⟨r,e,q⟩:=jdL b vO
 exact⟨r,e,by unfold jfA;rw[q];simp[Option.filter,hn]⟩
theorem jks(hn:(catB xs).size<=1048576):∃ r,cutN (ja6 xs)=some r/\jfA (ja6 xs) r=none:=by
 obtain⟨o,e,q,A⟩:=jdB xs hn
 exact⟨_,e,by unfold jfA jeB;rw[if_neg (by simp)];rfl⟩
section
attribute [local go_sem] Oper.semAt_some
theorem jaf{w:vW}(t:TypeId)(x:Operand)(ho:o.op=.load t x)(hw:Region.wanted o (yielded ops a.tmps)=true)(v:vV)(p:Addr)(hx:a.eval x=.pointer (some p))
  (hr:(Instr.loadAt t (.pointer (some p))).run P w=.ok v w) (h:wpList P ops Q rest (a.put o.dst v) w):wpList P ops Q (o :: rest) a w:=by
 unfold wpList;rw[if_pos hw];refine .inl (jbk (v:=v) (w':=w) ?_ h);simp only[execOp,ho,hx,bK,hr,Result.andThen,cP]
theorem jbH(W:vW)(n:jae)(hr:n.refs.length=16):(Instr.loadAt 298 (.pointer (some ⟨W.heap.size,0,none⟩))).run Tryz.prog (W.alloc (.cells n.cells.toArray 298))=.ok n.V (W.alloc (.cells n.cells.toArray 298)):=
 ja7 _ _ n hr (Blk.new W _)
theorem Tryz.isNode:jb2 (Tryz.prog.underlying 206)=true:=vY
theorem Tryz.szNode:(Tryz.prog.info? 206).map (·.size)=some 19:=vY
theorem jap(W:vW)(b:Nat)(n:jae)(hr:n.refs.length=16)(hB:Blk W b (.cells n.cells.toArray 206)):(Instr.loadAt 206 (.pointer (some ⟨b,0,none⟩))).run Tryz.prog W=.ok n.V W:=by
 obtain⟨A,e⟩:=jbv Tryz.isNode
 exact ja2 e (by rw[n.cells_len hr];exact Tryz.szNode) (fun j v q=>by rw[jgQ];exact hB.cellL q)
theorem jx3(hr:n.refs.length=16)(hp:n.pathOk 0=true)(h0:0 < n.value.size)(h8:n.value.size<=80)(hb:n.behindN=0):vR 198 #[n.V] w (.bool true):=by
 have H:n.path.size<=1000000:=by
  have:n.pathOk 0=true:=hp
  simp only[jae.pathOk,cC,decide_eq_true_eq]at this;omega
 have q:=jbH w n hr;have X:n.cells[2]?=some (.string n.value):=rfl;have Z:=jbq h0;have c1:(n.value.size:Int)<=80:=vO
 have HP:=Hd hp;have HB:=Hd hb;have HH:=Hd h0;clear hp hb h0;unfold jae.V at q ⊢;unfold vR vQ;go_in;go_wp2_with (refine jaf 298 (.tmp 1) rfl rfl _ _ rfl q ?_)
 refine vC (jfi _ n hr 0 H) fun w1 A=>?_;rw[HP.o];have J:=(Blk.new w (.cells n.cells.toArray 298)).keeps A (fun h=>h);have q2:=J.cellL X;have e:=ja7 w1 _ n hr J;have K:=Hd (((ExtR w).alloc _).trans A);unfold jae.V at e;clear q A J;go_wp2_with (refine jaf 298 (.tmp 1) rfl rfl _ _ rfl e ?_)
 refine vH (jgR _ n hr) fun w2 A=>?_;rw[HB.o];have O:=Hd (K.o.trans A);clear e q2;go_wp2_with fail
 go_ret
 exact⟨rfl,O.o⟩
def jas:jae:=⟨0,⟨#[]⟩,⟨#[]⟩,List.replicate 16 ⟨#[]⟩⟩
theorem jyd:vR 197 #[jas.V] w (.bool true):=by
 have e:=jbH w jas rfl;have q:jas.cells.toArray=#[.int .i64 0,.string ⟨#[]⟩,.string ⟨#[]⟩,.string ⟨#[]⟩,.string ⟨#[]⟩,.string ⟨#[]⟩,.string ⟨#[]⟩,.string ⟨#[]⟩,.string ⟨#[]⟩,.string ⟨#[]⟩,.string ⟨#[]⟩,.string ⟨#[]⟩,.string ⟨#[]⟩,.string ⟨#[]⟩,.string ⟨#[]⟩,.string ⟨#[]⟩,.string ⟨#[]⟩,.string ⟨#[]⟩,.string ⟨#[]⟩]:=rfl;unfold jae.V at e ⊢;rw[q]at e ⊢;have A:∀ w,(binOp .eql 298 (.agg #[.int .i64 0,.string ⟨#[]⟩,.string ⟨#[]⟩,.string ⟨#[]⟩,.string ⟨#[]⟩,.string ⟨#[]⟩,.string ⟨#[]⟩,.string ⟨#[]⟩,.string ⟨#[]⟩,.string ⟨#[]⟩,.string ⟨#[]⟩,.string ⟨#[]⟩,.string ⟨#[]⟩,.string ⟨#[]⟩,.string ⟨#[]⟩,.string ⟨#[]⟩,.string ⟨#[]⟩,.string ⟨#[]⟩,.string ⟨#[]⟩]) (.agg #[.int .i64 0,.string ⟨#[]⟩,.string ⟨#[]⟩,.string ⟨#[]⟩,.string ⟨#[]⟩,.string ⟨#[]⟩,.string ⟨#[]⟩,.string ⟨#[]⟩,.string ⟨#[]⟩,.string ⟨#[]⟩,.string ⟨#[]⟩,.string ⟨#[]⟩,.string ⟨#[]⟩,.string ⟨#[]⟩,.string ⟨#[]⟩,.string ⟨#[]⟩,.string ⟨#[]⟩,.string ⟨#[]⟩,.string ⟨#[]⟩])).run Tryz.prog w=.ok (.bool true) w:=fun w=>by kernel_rfl
 unfold vR vQ;go_in;go_wp2_with (refine jaf 298 (.tmp 1) rfl rfl _ _ rfl e ?_)
 go_ret
 exact⟨rfl,(ExtR w).alloc _⟩
end
