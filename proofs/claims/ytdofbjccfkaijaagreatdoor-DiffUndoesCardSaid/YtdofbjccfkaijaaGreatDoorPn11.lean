/- Lemmas; each is under no condition but those that it states. -/
import Derived.Test.YtdofbjccfkaijaaGreatDoorPn10
namespace Go.Proofs.YtdofbjccfkaijaaGreatDoor
set_option linter.unusedSimpArgs false
set_option linter.unusedVariables false
set_option maxRecDepth 100000
set_option maxHeartbeats 16000000
open Go Go.RowKit
theorem jaN(b:vB):(jan b).size<=b.size+9:=by
 unfold jan;split
 ·omega
 ·rw[bU];have:=jes 128 b.size;omega
theorem jnZ(s:vB):(jbt s).size=s.size / 2:=by
 show (jcz s.data.toList).length=_;rw[jdo];rfl
theorem jbn(p:vB)(leaf:Bool):(putB p leaf).size<=p.size / 2+1:=by
 unfold putB;rw[jnZ];show (jch p leaf++p.data.toList).length / 2<=_;rw[bC,show p.data.toList.length=p.size from rfl];unfold jch oddB
 by_cases h:p.size % 2=1
 ·simp[h];omega
 ·have:(p.size % 2 == 1)=false:=by simpa using h
  rw[this];simp
theorem ja8(x:vB)(xs:vM):(catB (x :: xs)).size=x.size+(catB xs).size:=by
 show ((x :: xs).map (·.data.toList)).flatten.length=x.data.toList.length+(xs.map (·.data.toList)).flatten.length;rw[bV,List.flatten_cons,bC]
theorem jcJ:(catB []).size=0:=rfl
theorem jcm(w:vW)(xs:vM)(T:TypeId):RdS (w.alloc (.cells (xs.map Value.string).toArray T)) (.slice (some ⟨w.heap.size,0,none⟩) xs.length xs.length) xs:=
 .inr ⟨w.heap.size,0,xs.length,rfl,by simp,bL _,fun j x e=>by rw[cG];exact (Blk.new w _).cellL (by rw[cA,e];rfl)⟩
def jme(n:jad):vB:=jbb [jan (putB n.path true),jan n.value]
def extB(n:jad):vB:=jbb [jan (putB n.path false),n.refs.getD 0 ⟨#[]⟩]
theorem jqF(w:vW)(n:jad)(hps:n.path.size<=900000)(hvs:n.value.size<=100000)(hv:jaB n.path=true):vR 124 #[n.V] w (.string (jme n)):=by
 obtain⟨k,p,v,X⟩:=n
 simp only at hps hvs hv;unfold jad.V;have e1:(jad.cells ⟨k,p,v,X⟩)[1]?=some (.string p):=rfl;have e2:(jad.cells ⟨k,p,v,X⟩)[2]?=some (.string v):=rfl;have E:=jbn p true;have H:=jaN (putB p true);have Z:=jaN v;unfold vR vQ;go_in;go_wp2_with fail
 refine vC (jAv _ p true hps hv) fun w1 hE=>?_;have hB:=(Blk.new w _).keeps hE (fun h=>h);have J:=((ExtR w).alloc _).trans hE
 obtain⟨g,hg⟩:=vE w.heap.size
 rw[<-hg]at hB ⊢;have q2:=hB.cellL e2
 obtain⟨e,z⟩:=vE (putB p true)
 rw[<-z]at E H ⊢;have HL:=Hd (show jme ⟨k,p,v,X⟩=jbb [jan e,jan v] by unfold jme;rw[z]);have O:=Hd J;have Q2:=Hd q2;have A:e.size<=1000000000:=vO
 have hc:(catB [jan e,jan v]).size<=1000000000:=by rw[ja8,ja8,jcJ];omega
 have HC:=Hd hc;have HP:=Hd A;have HV:=Hd hvs;clear e1 e2 E H Z hB hg z hE J q2 A hc hps hv hvs;go_wp2_with fail
 refine jag [0,2,1,3,4,5,6,7] Ext ExtR ExtT vY vY vY ?_;iterate 2 refine vK ?_
 refine qKC _ 83 #[.string e] (.string (jan e)) rfl (fun w1=>jaq (vX 83) vY) (fun w1 h1=>jea w1 e HP.o) ?_;refine vS ?_;refine qKL ⟨g,2,none⟩ _ rfl (fun w2 h2=>jab Tryz.uStr rfl (jaa (by exact Q2.o) h2)) ?_;refine vS ?_;refine qKC _ 83 #[.string v] (.string (jan v)) rfl (fun w1=>jaq (vX 83) vY) (fun w1 h1=>jea w1 v (by have:=HV.o;omega)) ?_;refine vS ?_;refine jeu _ rfl vY rfl (fun w2 Q K hK=>?_);have a0:=Hd (O.o.trans ((jah w1).trans Q));have HR:=Hd (jcm w2 [jan e,jan v] 9);clear Q O Q2 HV HP;go_simp;refine hK _ _ ((ExtR w2).alloc _) ?_;clear hK K;refine qKC _ 151 _ (.string (jbb [jan e,jan v])) rfl (fun w1=>jaq (vX 151) vY) (fun w3 h3=>jsM w3 _ [jan e,jan v] (HR.o.ext (by exact h3)) HC.o (show 2<=1000000000 by decide)) ?_;refine vS ?_
 refine vK ?_
 refine qKE (fun w3 Q=>?_);go_wp2_with fail
 go_ret
 exact⟨by rw[HL.o];rfl,(a0.o.alloc _).trans Q⟩
theorem jsg(w:vW)(n:jad)(hps:n.path.size<=900000)(r:vB)(hr:n.refs=r :: n.refs.tail)(hvs:r.size<=100000)(hv:jaB n.path=true):vR 125 #[n.V] w (.string (extB n)):=by
 obtain⟨k,p,v,rs⟩:=n
 simp only at hps hvs hr hv;cases rs with
 | nil=>cases hr
 | cons r' rt =>
 simp only[List.tail_cons,List.cons.injEq,and_true]at hr;subst hr;unfold jad.V;have e1:(jad.cells ⟨k,p,v,r' :: rt⟩)[1]?=some (.string p):=rfl;have e2:(jad.cells ⟨k,p,v,r' :: rt⟩)[3]?=some (.string r'):=rfl;have E:=jbn p false;have H:=jaN (putB p false);unfold vR vQ;go_in;go_wp2_with fail
 refine vC (jAv _ p false hps hv) fun w1 X=>?_;have Z:=(Blk.new w _).keeps X (fun h=>h);have J:=((ExtR w).alloc _).trans X
 obtain⟨g,hg⟩:=vE w.heap.size
 rw[<-hg]at Z ⊢;have q2:=Z.cellL e2
 obtain⟨e,z⟩:=vE (putB p false)
 rw[<-z]at E H ⊢;have HL:=Hd (show extB ⟨k,p,v,r' :: rt⟩=jbb [jan e,r'] by unfold extB;rw[z];rfl);have O:=Hd J;have Q2:=Hd q2;have A:e.size<=1000000000:=vO
 have hc:(catB [jan e,r']).size<=1000000000:=by rw[ja8,ja8,jcJ];omega
 have HC:=Hd hc;have HP:=Hd A;have HV:=Hd hvs;clear e1 e2 E H Z hg z X J q2 A hc hps hv hvs;go_wp2_with fail
 refine jag [0,1,2,3,4,5,6,7] Ext ExtR ExtT vY vY vY ?_
 refine vK ?_
 refine qKC _ 83 #[.string e] (.string (jan e)) rfl (fun w1=>jaq (vX 83) vY) (fun w1 h1=>jea w1 e HP.o) ?_;refine vS ?_;iterate 2 refine vK ?_
 refine qKL ⟨g,3,none⟩ _ rfl (fun w2 h2=>jab Tryz.uStr rfl (jaa (by exact Q2.o) h2)) ?_;refine vS ?_;refine jeu _ rfl vY rfl (fun w2 Q K hK=>?_);have a0:=Hd (O.o.trans ((jah w1).trans Q));have HR:=Hd (jcm w2 [jan e,r'] 9);clear Q O Q2 HV HP;go_simp;refine hK _ _ ((ExtR w2).alloc _) ?_;clear hK K;refine qKC _ 151 _ (.string (jbb [jan e,r'])) rfl (fun w1=>jaq (vX 151) vY) (fun w3 h3=>jsM w3 _ [jan e,r'] (HR.o.ext (by exact h3)) HC.o (show 2<=1000000000 by decide)) ?_;refine vS ?_
 refine vK ?_
 refine qKE (fun w3 Q=>?_);go_wp2_with fail
 go_ret
 exact⟨by rw[HL.o];rfl,(a0.o.alloc _).trans Q⟩
section
attribute [local go_sem] Oper.semAt_some
def jad.ri(n:jad)(k:Nat):Nat:=(n.refsL.getD k (0,⟨#[]⟩)).1
def jad.rr(n:jad)(k:Nat):vB:=(n.refsL.getD k (0,⟨#[]⟩)).2
theorem jwj(n:jad)(k:Nat):n.rv k=#[.int .i64 (n.ri k:Nat),.string (n.rr k)]:=rfl
def jgG(d:Option TypeDesc):Bool:=match d with | some (.struct _)=>true | _=>false
theorem jfR{d:Option TypeDesc}(h:jgG d=true):∃ fs,d=some (.struct fs):=by
 cases d with
 | none=>cases h
 | some d=>cases d <;> first | exact⟨_,rfl⟩ | cases h
theorem Tryz.isForm:jgG (Tryz.prog.underlying 154)=true:=vY
theorem jfn:∀ (l:vM) (i:Nat) (x:Nat × vB),x∈jay i l->i<=x.1/\x.1 < i+l.length/\l[x.1 - i]?=some x.2/\x.2.size≠0
 | [],i,x,h=>by cases h
 | r :: l,i,x,h=>by
  have e:x∈jay (i+1) l->i<=x.1/\x.1 < i+(r :: l).length/\(r :: l)[x.1 - i]?=some x.2/\x.2.size≠0:=fun h=>by
   obtain⟨A,E,o,z⟩:=jfn l (i+1) x h
   refine⟨by omega,by simp;omega,?_,z⟩
   rw[show x.1 - i=(x.1 - (i+1))+1 by omega,List.getElem?_cons_succ];exact o
  unfold jay at h;split at h
  ·exact e h
  ·rename_i hr
   rcases bM.1 h with rfl | h
   ·exact⟨bL _,by simp,by simp,hr⟩
   ·exact e h
theorem jwd(n:jad)(hr:n.refs.length=16){k:Nat}(hk:k < n.refsL.length):n.ri k < 16/\n.refs[n.ri k]?=some (n.rr k)/\(n.rr k).size≠0:=by
 have e:(n.refsL.getD k (0,⟨#[]⟩))∈n.refsL:=by rw[bG,bA hk];exact dG _
 obtain⟨_,o,z,A⟩:=jfn n.refs 0 _ e
 rw[hr]at o
 exact⟨by unfold jad.ri;omega,z,A⟩
theorem Tryz.szForm:(Tryz.prog.info? 154).map (·.size)=some 19:=vY
theorem jb1(W:vW)(b:Nat)(n:jad)(hr:n.refs.length=16)(hB:Blk W b (.cells n.cells.toArray 154)):(Instr.loadAt 154 (.pointer (some ⟨b,0,none⟩))).run Tryz.prog W=.ok n.V W:=by
 obtain⟨z,e⟩:=jfR Tryz.isForm
 exact jd9 e (by rw[n.cells_len hr];exact Tryz.szForm) (fun j v o=>by rw[jhU];exact hB.cellL o)
def jxU(n:jad)(k:Nat):Nat:=match k with | 0=>0 | k+1=>n.ri k+1
def jad.behindN(n:jad):Nat:=jxU n n.refsL.length
def BehC(w:vW)(gn gb:Nat)(n:jad)(k:Nat)(W:vW):Prop:=Ext w W/\Blk W gn (.cells n.cells.toArray 154)/\Blk W gb (.cells #[.int .i64 (jxU n k:Nat)] 3)
theorem jow(w:vW)(n:jad)(hr:n.refs.length=16):vR 148 #[n.V] w (.int .i64 (n.behindN:Nat)):=by
 have HV:Hid (n.V=.agg n.cells.toArray):=rfl
 obtain⟨X,z⟩:=vE ((w.alloc (.cells n.cells.toArray 154)).alloc (.cells #[.int .i64 0] 3))
 have B0:Blk X w.heap.size (.cells n.cells.toArray 154):=by rw[z];exact (Blk.new w _).alloc _
 have O:=jb1 X w.heap.size n hr B0;rw[z]at O;unfold jad.V at O ⊢;refine (callsIn_wide (n:=0)).1 ?_;refine callsIn_of_wp_marks Tryz.func148 rfl trivial ?_ rfl;simp only[Tryz.ntmps148,dL,bF,cF,Nat.reduceAdd,Nat.reduceSub,dO,dN,fC,dS,cP,cZ];gi_wp2_with (refine jbx rfl 154 (.tmp 1) rfl _ _ rfl O ?_)
 refine⟨trivial,rfl,CallsIn.mono (callsIn_wide.2 (jpE _ n)) ?_⟩
 rintro e w1 ⟨rfl,Q,hE⟩;rw[<-z]at Q hE ⊢
 obtain⟨H,Z⟩:=vE (w.heap.size+1)
 have a0:Ext w X:=by rw[z];exact ((ExtR w).alloc _).alloc _
 have B1:Blk X H (.cells #[.int .i64 0] 3):=by
  rw[z,Z];have:=Blk.new (w.alloc (.cells n.cells.toArray 154)) (.cells #[.int .i64 0] 3);rwa [bR]at this
 have a4:X.heap.size=w.heap.size+2:=by rw[z];simp
 have B2:=B1.keeps hE (fun h=>h);rw[<-Z]
 obtain⟨gn,a1⟩:=vE X.heap.size
 rw[<-a1]at Q ⊢;have a5:H≠gn:=vO
 have a8:=B2.lt;have a9:=Q.lt;have a2:=a0.trans hE;have a6:w.heap.size<=H:=vO
 have a3:w.heap.size<=w1.heap.size:=a2.size;have a7:=Hd a2;clear O hE a0 B0 B1 a4 Z a1 z X;gi_wp2_with fail
 refine jeD (N:=n.refsL.length) (gf:=145) (lb:=#[.pointer (some ⟨gn,0,none⟩)]) rfl (vX 145) (jk7 gn n hr)
  (fun k=>rfl) (BehC w gn H n) (fun _ _ _=>False) (fun k W W' ⟨E,J,A⟩ e=>⟨E.trans e,J.keeps e (fun h=>h),A.keeps e (fun h=>h)⟩) (fun _ _ _ _ h _=>h) (fun k W ⟨_,h,_⟩=>h)
  (fun k W o ⟨E,J,A⟩=>⟨E.putObj (.inr a3) _,J.put_other vO _,A.put_other vO _⟩)
  (fun k W o ⟨E,J,A⟩=>⟨E.putObj (.inr vO) _,J.put_other vO _,A.put_other vO _⟩) (fun _ _ _ _ h=>h)
  ⟨a7.o,Q,B2⟩ (fun k=>{ tmps:=#[n.V,.pointer (some ⟨w.heap.size,0,none⟩),.int .i64 0,.pointer (some ⟨H,0,none⟩),.int .i64 (n.ri k:Nat),n.V,.func (.func 145) #[] #[.pointer (some ⟨gn,0,none⟩)],.int .i64 (n.ri k:Nat),.string (n.rr k),undef,undef,undef],defers:=[] })
  ?hassign ?hbody ?hdone ?hstop
 case hassign =>
  intro l j W K hK;rw[jwj,jsi];simp only[dM,dF];gi_wp2;exact hK
 case hbody =>
  intro l k W hk ⟨E,J,A⟩ hlt;have q:=A.cell (i:=0) (v:=.int .i64 (jxU n k:Nat)) vF;have f:W.frozen? ⟨H,0,none⟩=false:=A.frozen;have H1:=Hd E;have H2:=Hd J;have H3:=Hd A;clear E J A;have b0:=(jwd n hr hk).1;gi_wp2;rw[show ((n.ri k:Nat):Int)+1=((n.ri k+1:Nat):Int)from by omega];have b1:=H2.o.lt;have hx:jaf (fun b=>b≠w1.heap.size/\b≠w1.heap.size+1) W (W.setCell ⟨H,0,none⟩ (.int .i64 ((n.ri k+1:Nat):Int))):=(jaf.refl _ W).setCell (.inl ⟨by show H≠_;omega,by show H≠_;omega⟩) _
  exact⟨hx,H1.o.setCell (.inr a6) _,H2.o.set_other (p:=⟨H,0,none⟩) (fun e=>a5 e.symm) _,H3.o.set_same (i:=0) _⟩
 case hdone =>
  intro W ⟨E,J,A⟩ hd;have q:=A.cell (i:=0) (v:=.int .i64 (n.behindN:Nat)) vF;have H1:=Hd E;have HD:=Hd hd;clear E J A hd;gi_wp2
  refine⟨by simp,.inl ⟨_,_,rfl,run_takeDeferred HD.o,?_⟩⟩
  refine⟨_,results_tmp rfl _ _ _,?_⟩
  exact⟨rfl,H1.o.putObj (.inr a3) _⟩
 case hstop=>intro c k W _ _ h;exact h.elim
theorem Tryz.uStrs:Tryz.prog.underlying 28=some (.slice 9):=vY
theorem Tryz.infoStr:(Tryz.prog.info? 9).map (fun i=>(i.zero,i.size,i.bytes))=some (some (.string ⟨#[]⟩),1,16):=vY
def jeb(n:jad)(k:Nat):vM:=(n.refsL.take k).foldl (fun l x=>l.set x.1 x.2) (List.replicate 17 (jan ⟨#[]⟩))
def jbP(n:jad):vM:=(jeb n n.refsL.length).set 16 (jan n.value)
def jec(n:jad):vB:=jbb (jbP n)
structure BrS(w:World)(gn gs gb:Nat)(n:jad)(xs:vM)(W:World):Prop where
 ext:Ext w W
 node:Blk W gn (.cells n.cells.toArray 154)
 var:Blk W gb (.cells #[.slice (some ⟨gs,0,none⟩) 17 17] 28)
 row:Blk W gs (.cells (xs.map Value.string).toArray 9)
 len:xs.length=17
theorem BrS.st{w:vW}{gn gs gb:Nat}{n:jad}{xs:vM}{W W':vW}(h:BrS w gn gs gb n xs W)(e:Ext W W'):BrS w gn gs gb n xs W':=
 ⟨h.ext.trans e,h.node.keeps e (fun h=>h),h.var.keeps e (fun h=>h),h.row.keeps e (fun h=>h),h.len⟩
theorem BrS.put{w:vW}{gn gs gb:Nat}{n:jad}{xs:vM}{W:vW}(h:BrS w gn gs gb n xs W)(r:Nat)(hr:w.heap.size<=r)(h1:gn≠r)(h2:gs≠r)(h3:gb≠r)(o:Obj):BrS w gn gs gb n xs (W.putObj r o):=
 ⟨h.ext.putObj (.inr hr) _,h.node.put_other h1 _,h.var.put_other h3 _,h.row.put_other h2 _,h.len⟩
theorem BrS.set{w:vW}{gn gs gb:Nat}{n:jad}{xs:vM}{W:vW}(h:BrS w gn gs gb n xs W)(hr:w.heap.size<=gs)(h1:gn≠gs)(h3:gb≠gs)(j:Nat)(x:vB):BrS w gn gs gb n (xs.set j x) (W.setCell ⟨gs,j,none⟩ (.string x)):=
 ⟨h.ext.setCell (.inr hr) _,h.node.set_other (p:=⟨gs,j,none⟩) h1 _,h.var.set_other (p:=⟨gs,j,none⟩) h3 _,by
  have:=h.row.set_same (i:=j) (.string x)
  rw[show (xs.map Value.string).toArray.setIfInBounds j (.string x)=((xs.set j x).map Value.string).toArray by simp[iA]]at this;exact this,by simp[h.len]⟩
theorem jih(n:jad)(k:Nat):(jeb n k).length=17:=by
 unfold jeb;generalize n.refsL.take k=l
 suffices ∀ (l:List (Nat × vB)) (m:vM),(l.foldl (fun l x=>l.set x.1 x.2) m).length=m.length by rw[this];simp
 intro l;induction l with
 | nil=>intro m;rfl
 | cons x r ih=>intro m;rw[dE,ih];simp
theorem jlF(n:jad){k:Nat}(hk:k < n.refsL.length):jeb n (k+1)=(jeb n k).set (n.ri k) (n.rr k):=by
 unfold jeb;rw[cT hk,dX];simp[jad.ri,jad.rr,bG,hk]
def jqw(k:Nat):vM:=List.replicate k (jan ⟨#[]⟩)++List.replicate (17 - k) ⟨#[]⟩
theorem jsh(k:Nat)(hk:k < 17):(jqw k).set k (jan ⟨#[]⟩)=jqw (k+1):=by
 unfold jqw;rw[fJ _ _ (by simp),show k - (List.replicate k (jan ⟨#[]⟩)).length=0 by simp,show 17 - k=(17 - (k+1))+1 by omega,fH,dM,List.replicate_succ']
 simp
def jAW(w:vW)(gn gs gb:Nat)(n:jad)(i:vV)(wr:vW):Prop:=∃ k:Nat,k<=17/\i=.int .i64 k/\BrS w gn gs gb n (jqw k) wr
theorem jlH(w:vW)(n:jad)(hr:n.refs.length=16)(hv:n.value.size<=100000)(hc:(catB (jbP n)).size<=1000000000):vR 126 #[n.V] w (.string (jec n)):=by
 have HV:Hid (n.V=.agg n.cells.toArray):=rfl
 obtain⟨i0,hi,b9,c0,c2⟩:=info_parts Tryz.infoStr
 have a1:=jfp (P:=Tryz.prog) (w.alloc (.cells n.cells.toArray 154)) Tryz.uStrs hi b9 c0 rfl .i64 .i64 17 (by rw[c2];omega) (by unfold maxLen;omega)
 obtain⟨z,a2⟩:∃ g,g=w.heap.size+1:=⟨_,rfl⟩
 obtain⟨gb,a3⟩:∃ g,g=w.heap.size+2:=⟨_,rfl⟩
 rw[bR, <-a2]at a1
 obtain⟨W1,X⟩:=vE ((w.alloc (.cells n.cells.toArray 154)).alloc (.cells (List.replicate 17 (Value.string ⟨#[]⟩)).toArray 9))
 rw[<-X]at a1;have c6:(Instr.makeSlice 28 (.int .i64 17) (.int .i64 17)).run Tryz.prog (w.alloc (.cells n.cells.toArray 154))=.ok (.slice (some ⟨z,0,none⟩) 17 17) W1:=a1;clear a1;have a4:W1.heap.size=gb:=by rw[X,a3];simp
 have S0:BrS w w.heap.size z gb n (jqw 0) (W1.alloc (.cells #[.slice (some ⟨z,0,none⟩) 17 17] 28)):=
  ⟨by rw[X];exact (((ExtR w).alloc _).alloc _).alloc _,by rw[X];exact ((Blk.new w _).alloc _).alloc _,by rw[<-a4];exact Blk.new W1 _,by
   rw[X,a2]
   have:=(Blk.new (w.alloc (.cells n.cells.toArray 154)) (.cells (List.replicate 17 (Value.string ⟨#[]⟩)).toArray 9)).alloc (.cells #[.slice (some ⟨w.heap.size+1,0,none⟩) 17 17] 28)
   rw[bR]at this;exact this,rfl⟩
 obtain⟨gn,a5⟩:∃ g,g=w.heap.size:=⟨_,rfl⟩
 rw[<-a5]at S0;have n1:gn≠z:=vO
 have n2:gb≠z:=vO
 have n3:w.heap.size<=z:=vO
 have c3:=Hd S0;have HG:=Hd a5;have c7:=Hd a2;have c8:=Hd a3;have c4:=Hd a4;have N1:=Hd n1;have N2:=Hd n2;clear X S0 a5 a2 a3 a4 n1 n2;unfold jad.V;refine (callsIn_wide (n:=0)).1 ?_;refine callsIn_of_wp_marks Tryz.func126 rfl trivial ?_ rfl;simp only[Tryz.ntmps126,dL,bF,cF,Nat.reduceAdd,Nat.reduceSub,dO,dN,fC,dS,cP,cZ];gi_wp2_with fail
 rw[<-HG.o,c4.o];gi_loopw [10] (fun i wr=>jAW w gn z gb n i wr) (fun i _=>17 - (intOf i).toNat)
 case atStart=>exact⟨0,by omega,rfl,c3.o⟩
 case round =>
  obtain⟨k,hk,rfl,Q⟩:=hrel
  have q3:=Q.var.cell (i:=0) (v:=.slice (some ⟨z,0,none⟩) 17 17) vF;have E:=Hd Q;clear Q
  by_cases hlt:k < 17
  ·have b1:(k:Int) < 17:=vO
   gi_wp2_with fail
   refine wpIn_wide.2 (jaz [0,1,2,3,4] [4] Ext ExtR ExtT vY vY vY ?_);refine qL ⟨gb,0,none⟩ _ rfl (fun w1 h1=>jab Tryz.uStrs rfl (jaa (by exact E.o.var.cell (i:=0) (v:=.slice (some ⟨z,0,none⟩) 17 17) vF) h1)) ?_;refine vS ?_
   refine vP ?_
   refine jc9 _ 83 #[.string ⟨#[]⟩] (.string (jan ⟨#[]⟩)) rfl vY rfl (fun w1=>jaq (vX 83) vY) (fun w1 h1=>jea w1 ⟨#[]⟩ vI) ?_;refine vS ?_
   refine vP ?_
   refine qH _ rfl (fun w1 Z K hK=>?_);have H:=E.o.st ((jah wr).trans Z)
   obtain⟨old,q1⟩:∃ v,w1.cell? ⟨z,k,none⟩=some v:=⟨_,H.row.cellL (bA (by rw[cC,H.len];exact hlt))⟩
   have q2:w1.frozen? ⟨z,k,none⟩=false:=H.row.frozen;have S2:=H.set n3 N1.o N2.o k (jan ⟨#[]⟩);rw[jsh k hlt]at S2;have a0:=Hd S2;clear H S2 Z q3 E;go_simp;refine hK _ _ ?_;clear hK K q1 q2;refine qE (fun w2 Z=>?_);have A:=Hd (a0.o.st Z);clear Z a0;gi_wp2;go_roundw
   case rel=>exact⟨k+1,by omega,by go_num,A.o⟩
   case measure=>exact vJ
  ·have a8:k=17:=vO
   subst a8;have hB:=E.o.node;have a6:=jb1 wr gn n hr hB;unfold jad.V at a6;clear hB;gi_wp2_with (refine jbx rfl 154 (.tmp 1) rfl _ _ rfl a6 ?_)
   refine⟨trivial,rfl,CallsIn.mono (callsIn_wide.2 (jpE _ n)) ?_⟩
   rintro e w1 ⟨rfl,a7,hE⟩;have H:=E.o.st hE
   obtain⟨J,O⟩:∃ g,g=wr.heap.size:=⟨_,rfl⟩
   rw[<-O]at a7 ⊢;have h1:gn < J:=by rw[O];exact E.o.node.lt
   have h2:z < J:=by rw[O];exact E.o.row.lt
   have h3:gb < J:=by rw[O];exact E.o.var.lt
   have h4:=a7.lt;have a9:w.heap.size<=w1.heap.size:=H.ext.size;have b0:jqw 17=jeb n 0:=rfl;rw[b0]at H;clear a6 hE E q3 b0 O;gi_wp2_with fail
   refine jeD (N:=n.refsL.length) (gf:=145) (lb:=#[.pointer (some ⟨J,0,none⟩)]) rfl (vX 145) (jk7 J n hr)
    (fun k=>rfl) (fun k W=>BrS w gn z gb n (jeb n k) W/\Blk W J (.cells n.cells.toArray 154)) (fun _ _ _=>False) (fun k W W' ⟨h1,h2⟩ e=>⟨h1.st e,h2.keeps e (fun h=>h)⟩) (fun _ _ _ _ h _=>h) (fun k W ⟨_,h⟩=>h)
    (fun k W o ⟨h5,h6⟩=>⟨h5.put _ a9 vO vO vO _,h6.put_other vO _⟩)
    (fun k W o ⟨h5,h6⟩=>⟨h5.put _ vO vO vO vO _,h6.put_other vO _⟩) (fun _ _ _ _ h=>h)
    ⟨H,a7⟩ (fun k=>{ tmps:=#[n.V,.pointer (some ⟨gn,0,none⟩),.string ⟨#[]⟩,.pointer (some ⟨gb,0,none⟩),u4,.int .i64 (n.ri k:Nat),.string (n.rr k),.slice (some ⟨z,0,none⟩) 17 17,.slice (some ⟨z,0,none⟩) 17 17,.int .i64 17,.int .i64 17,.bool false,u12,u13,u14,u15,u16,u17,n.V,.func (.func 145) #[] #[.pointer (some ⟨J,0,none⟩)],.int .i64 (n.ri k:Nat),.string (n.rr k),undef,undef,undef,undef,undef,undef,undef,undef,undef,undef,undef],defers:=[] })
    ?hassign ?hbody ?hdone ?hstop
   case hassign =>
    intro l j W K hK;rw[jwj,jsi];simp only[dM,dF];gi_wp2;exact hK
   case hbody =>
    intro l k W hk ⟨Q,hB⟩ hlt2;have b2:=jwd n hr hk;have q3:=Q.var.cell (i:=0) (v:=.slice (some ⟨z,0,none⟩) 17 17) vF;have c9:=b2.1;have c1:(n.ri k:Int) < 17:=vO
    obtain⟨old,q1⟩:∃ v,W.cell? ⟨z,n.ri k,none⟩=some v:=⟨_,Q.row.cellL (bA (by rw[cC,Q.len];omega))⟩
    have q2:W.frozen? ⟨z,n.ri k,none⟩=false:=Q.row.frozen;have E:=Hd Q;have HB:=Hd hB;clear Q hB b2 H;gi_wp2;have d0:=E.o.row.lt;have d1:=E.o.ext.size
    exact⟨(jaf.refl _ W).setCell (.inl ⟨by show z≠_;omega,by show z≠_;omega⟩) _,by rw[jlF n hk];exact E.o.set n3 N1.o N2.o _ _,HB.o.set_other (p:=⟨z,n.ri k,none⟩) (by show J≠z;omega) _⟩
   case hdone =>
    intro W ⟨Q,hB⟩ hd;have q3:=Q.var.cell (i:=0) (v:=.slice (some ⟨z,0,none⟩) 17 17) vF;have E:=Hd Q;have HD:=Hd hd;clear Q hB hd H;gi_wp2_with fail
    refine wpIn_wide.2 (jaz [0,1,2,3,4,5] [5] Ext ExtR ExtT vY vY vY ?_);refine qL ⟨gb,0,none⟩ _ rfl (fun w1 h1=>jab Tryz.uStrs rfl (jaa (by exact E.o.var.cell (i:=0) (v:=.slice (some ⟨z,0,none⟩) 17 17) vF) h1)) ?_;refine vS ?_
    refine vP ?_
    refine qL ⟨gn,2,none⟩ (.string n.value) rfl (fun w1 h1=>jab Tryz.uStr rfl (jaa (by exact E.o.node.cellL vF) h1)) ?_;refine vS ?_;refine jc9 _ 83 #[.string n.value] (.string (jan n.value)) rfl vY rfl (fun w1=>jaq (vX 83) vY) (fun w1 h1=>jea w1 n.value vO) ?_;refine vS ?_
    refine vP ?_
    refine qH _ rfl (fun w2 Z K hK=>?_);have H:=E.o.st ((jah W).trans Z);have b3:=HD.o.keeps ((jah W).trans Z) (fun h=>h)
    obtain⟨old,q1⟩:∃ v,w2.cell? ⟨z,16,none⟩=some v:=⟨_,H.row.cellL (bA (by rw[cC,H.len];omega))⟩
    have q2:w2.frozen? ⟨z,16,none⟩=false:=H.row.frozen;have S2:=H.set n3 N1.o N2.o 16 (jan n.value);have b4:=b3.set_other (p:=⟨z,16,none⟩) (by show w1.heap.size≠z;omega) (.string (jan n.value));have a0:=Hd S2;have b5:=Hd b4;clear H S2 Z q3 E HD b3 b4;go_simp;refine hK _ _ ?_;clear hK K q1 q2;refine qE (fun w3 Z=>?_);have A:=Hd (a0.o.st Z);have b6:=Hd (b5.o.keeps Z (fun h=>h));have q3:=A.o.var.cell (i:=0) (v:=.slice (some ⟨z,0,none⟩) 17 17) vF;clear Z a0 b5;gi_wp2_with fail
    have b7:RdS w3 (.slice (some ⟨z,0,none⟩) 17 17) (jbP n):=by
     have hl:(jbP n).length=17:=A.o.len;exact .inr ⟨z,0,17,by rw[hl],A.o.row.lt,by omega,fun j x hx=>by rw[cG];exact A.o.row.cellL (by rw[cA];show ((jbP n)[j]?).map _=_;rw[hx];rfl)⟩
    refine⟨trivial,rfl,CallsIn.mono (callsIn_wide.2 (jsM w3 _ (jbP n) b7 hc (by have:(jbP n).length=17:=A.o.len;omega))) ?_⟩
    rintro e w4 ⟨rfl,hE⟩;have b8:=b6.o.keeps hE (fun h=>h);have HE:=Hd (A.o.ext.trans hE);have c5:=Hd b8;clear hE b8 A b6 b7 q3;gi_wp2_with fail
    refine⟨by simp,.inl ⟨_,_,rfl,run_takeDeferred c5.o,?_⟩⟩
    refine⟨_,results_tmp rfl _ _ _,?_⟩
    exact⟨rfl,HE.o.putObj (.inr a9) _⟩
   case hstop=>intro c k W _ _ h;exact h.elim
def jgp(x:vB):Prop:=∀ y:vB,(x++y).size<=1000000000->∃ r,cutN (x++y)=some r/\r.2.1+r.2.2=x.size
theorem jxw(x:vB)(xs:vM):catB (x :: xs)=x++catB xs:=by
 apply ByteArray.ext;apply Array.ext';simp[catB,cY]
theorem jlX(x y:vB):(x++y).extract 0 x.size=x:=ByteArray.extract_append_eq_left rfl
theorem jiB(x y:vB):(x++y).extract x.size (x++y).size=y:=ByteArray.extract_append_eq_right rfl (by rw[bU])
theorem jkv{s:vB}{r:Bool × Nat × Nat}(h:cutN s=some r):0 < s.size/\0 < r.2.1+r.2.2:=by
 unfold cutN at h
 by_cases h0:0 < s.size
 ·refine⟨h0,?_⟩
  rw[dif_pos h0]at h;simp only at h
  by_cases h1:s[0].toNat < 128
  ·rw[if_pos h1]at h
   obtain rfl:=bS h;simp
  ·rw[if_neg h1]at h
   obtain⟨o,e⟩:∃ o:Bool × Nat,o=if s[0].toNat < 192 then (false,s[0].toNat - 128)else (true,s[0].toNat - 192):=⟨_,rfl⟩
   rw[<-e]at h;clear e
   obtain⟨l,m⟩:=o
   simp only at h
   by_cases h3:m<=55
   ·rw[if_pos h3]at h
    split at h
    ·obtain rfl:=bS h;simp only;omega
    ·cases h
   ·rw[if_neg h3]at h
    split at h
    ·split at h
     ·obtain rfl:=bS h;simp only;omega
     ·cases h
    ·cases h
 ·rw[dif_neg h0]at h;cases h
theorem ju9{xs:vM}{k:Nat}(h:k < xs.length):catB (xs.drop k)=xs[k]++catB (xs.drop (k+1)):=by
 rw[fY h,jxw]
def jBU:vV->Nat | .string b=>b.size | _=>0
def jw7(W:vW)(xs:vM)(C:Nat->vW->Prop)(v:vV)(wr:vW):Prop:=∃ k:Nat,k<=xs.length/\v=.string (catB (xs.drop k))/\C k wr
theorem jxF(b:Nat)(xs:vM)(hx:∀ x∈xs,jgp x)(hs:(catB xs).size<=1000000000):juw Tryz.prog 185 #[.pointer (some ⟨b,0,none⟩)] xs.length (fun k=>#[.string (xs.getD k ⟨#[]⟩),.nilIface]) (fun W=>Blk W b (.cells #[.string (catB xs)] 9)):=by
 intro l C Cx hC a0 hS W hY h0;have hB:=(hS 0 W h0).cell (i:=0) (v:=.string (catB xs)) vF;have HY:=Hd hY;have H0:=Hd h0;have a7:=Hd hs;clear hY h0 hS hs;refine callsIn_of_wp Tryz.func185 rfl trivial ?_ rfl;simp only[Tryz.ntmps185,dL,bF,cF,Nat.reduceAdd,Nat.reduceSub,dO,dN,fC,dS,cP,cZ];gi_wp2;have a8:=Hd hC;have b7:=Hd a0;clear hC a0;gi_loopw [3] (fun v wr=>jw7 W xs C v wr) (fun v _=>jBU v)
 case atStart=>exact⟨0,by omega,rfl,H0.o⟩
 case round =>
  obtain⟨k,hk,rfl,a1⟩:=hrel
  have a2:=Hd a1;clear a1
  by_cases hlt:k < xs.length
  ·obtain⟨x,E⟩:=vE (xs[k])
   have A:=ju9 hlt;rw[<-E]at A
   obtain⟨y,hy⟩:=vE (catB (xs.drop (k+1)))
   rw[<-hy]at A;have H:(x++y).size<=1000000000:=by
    have h1:(catB (xs.drop k)).size<=(catB xs).size:=by
     have h2:(catB xs).size=(catB (xs.take k)).size+(catB (xs.drop k)).size:=by
      conv=>lhs;rw[<-cX k xs]
      simp only[catB,ByteArray.size,cB,List.flatten_append,dL,bC]
     omega
    rw[A]at h1;have:=a7.o;omega
   obtain⟨r,K,O⟩:=hx x (E ▸ dG hlt) y H
   obtain⟨z,Z⟩:=vE (x++y)
   have a3:z.size=x.size+y.size:=by rw[Z,bU]
   rw[<-Z]at A H K;rw[A];have J:=jkv K;have b8:=jbe J.1;have a4:z.extract (r.2.1+r.2.2) z.size=y:=by
    rw[O,Z];exact jiB x y
   have b9:z.extract 0 x.size=x:=by
    rw[Z];exact jlX x y
   have a5:xs.getD k ⟨#[]⟩=x:=by rw[bG,bA hlt, <-E];rfl
   have a9:=Hd a5;have HX:=Hd E;have b0:=Hd H;have b2:=Hd hy;have HZ:=Hd Z;have Q:=Hd a3;have HP:=Hd J;have b3:=Hd O;clear E A hy Z a5 J O a3;gi_wp2_with fail
   refine⟨trivial,rfl,CallsIn.mono (callsIn_wide.2 (jzO wr z r H K)) ?_⟩
   rintro e w1 ⟨rfl,hE⟩;unfold jdM;rw[a4]
   obtain⟨u,hu⟩:=vE (z.extract r.2.1 (r.2.1+r.2.2))
   rw[<-hu]
   obtain⟨b1,o,ln⟩:=r
   simp only;clear K a4 hu H
   obtain⟨fn,tm,c0,bd,b4,a6⟩:=HY.o k w1 hlt (a8.o k _ _ a2.o hE)
   simp only[a9.o]at b4;have b5:=Hd a6;clear hE a6;have c1:(z.size:Int) - (y.size:Int)=(x.size:Int):=by have:=Q.o;omega
   have c2:(x.size:Int)<=(z.size:Int):=by have:=Q.o;omega
   have c3:z.size<=1000000000:=b0.o;gi_wp2
   refine⟨rfl,(b5.o.mono ?_)⟩
   rintro e w5 (⟨rfl,C5⟩ |⟨rfl,C5⟩)
   ·have X:=Hd C5
    clear C5;gi_wp2;go_roundw
    case rel=>exact⟨k+1,by omega,by rw[<-b2.o],X.o⟩
    case measure=>show y.size < z.size;have:=(show 0 < o+ln from HP.o.2);have:=Q.o;have:=(show o+ln=x.size from b3.o);omega
   ·have X:=Hd C5
    clear C5;gi_wp2;refine bodyPost_ret (results_none rfl _ _ _) rfl ?_
    exact⟨⟨_,rfl⟩,.inr ⟨k+1,by omega,by omega,X.o⟩⟩
  ·have b6:k=xs.length:=vO
   subst b6;have hd:catB (xs.drop xs.length)=⟨#[]⟩:=by rw[gH];rfl
   rw[hd];gi_wp2;refine bodyPost_end (results_none rfl _ _ _) rfl ?_
   exact⟨⟨_,rfl⟩,.inl a2.o⟩
theorem jzX(w:vW)(s:vB):vQ 171 #[.string s] w fun e w'=>e=.returned (.func (.func 185) #[] #[.pointer (some ⟨w.heap.size,0,none⟩)])/\Blk w' w.heap.size (.cells #[.string s] 9)/\Ext w w':=by
 unfold vQ;go_in;go_wp2_with fail
 go_ret
 exact⟨rfl,Blk.new w _,(ExtR w).alloc _⟩
theorem Tryz.sStrs:jd0 Tryz.prog 28 9 1 16:=jd0.mk' vY (show (Tryz.prog.info? 9).map (fun i=>(i.zero,i.size,i.bytes))=some (some (.string ⟨#[]⟩),1,16) by kernel_rfl) rfl vI
structure ItS(w:World)(g m:Nat)(xs:vM)(k:Nat)(W:World):Prop where
 ext:Ext w W
 b2:Blk W g (.cells #[.slice none 0 0] 28)
 b3:Blk W (g+1) (.cells #[.int .i64 0] 25)
 bc:Blk W (g+3) (.cells #[.string (catB xs)] 9)
 row:∃ v,Blk W (g+2) (.cells #[v] 28)/\W.ownsRow 0 9 1 v k ((xs.take k).map Value.string)/\∀ b,v.ownBlock=some b->m+2<=b
theorem ItS.st{w:vW}{g m:Nat}{xs:vM}{k:Nat}{W W':vW}(h:ItS w g m xs k W)(e:Ext W W'):ItS w g m xs k W':=
 let ⟨v,h1,h2,h3⟩:=h.row
 ⟨h.ext.trans e,h.b2.keeps e (fun h=>h),h.b3.keeps e (fun h=>h),h.bc.keeps e (fun h=>h),v,h1.keeps e (fun h=>h),jbo h2 e,h3⟩
theorem ItS.put{w:vW}{g m:Nat}{xs:vM}{k:Nat}{W:vW}(h:ItS w g m xs k W){r:Nat}(hr:w.heap.size<=r)(h1:g+3 < r)(h2:r < m+2)(o:Obj):ItS w g m xs k (W.putObj r o):=
 let ⟨v,h3,h4,h5⟩:=h.row
 ⟨h.ext.putObj (.inr hr) _,h.b2.put_other vO _,h.b3.put_other vO _,h.bc.put_other vO _,v,h3.put_other vO _,
  jbc h4 (jaf.onePut W r o) (fun b hb e=>by have:=h5 b hb;omega),h5⟩
theorem jsB(w:vW)(xs:vM)(hx:∀ x∈xs,jgp x)(hs:(catB xs).size<=1000000000)(hn:xs.length<=1000000):vQ 152 #[.string (catB xs)] w fun e w'=>∃ v,e=.returned (.tuple #[v,.int .i64 0])/\SRow w w' v xs.length xs:=by
 obtain⟨i0,hi,a7,a8,a9⟩:=info_parts Tryz.infoStr
 refine (callsIn_wide (n:=0)).1 ?_;refine callsIn_of_wp_marks Tryz.func152 rfl trivial ?_ rfl;simp only[Tryz.ntmps152,dL,bF,cF,Nat.reduceAdd,Nat.reduceSub,dO,dN,fC,dS,cP,cZ];gi_wp2_with fail
 obtain⟨X,z⟩:=vE (((w.alloc (.cells #[.slice none 0 0] 28)).alloc (.cells #[.int .i64 0] 25)).alloc (.cells #[.slice none 0 0] 28))
 rw[<-z];have a2:X.heap.size=w.heap.size+3:=by rw[z];simp
 have E0:Ext w X:=by rw[z];exact ((((ExtR w).alloc _).alloc _).alloc _)
 have B2:Blk X w.heap.size (.cells #[.slice none 0 0] 28):=by rw[z];exact ((Blk.new w _).alloc _).alloc _
 have B3:Blk X (w.heap.size+1) (.cells #[.int .i64 0] 25):=by
  rw[z];have:=(Blk.new (w.alloc (.cells #[.slice none 0 0] 28)) (.cells #[.int .i64 0] 25)).alloc (.cells #[.slice none 0 0] 28);rwa [bR]at this
 have Z:Blk X (w.heap.size+2) (.cells #[.slice none 0 0] 28):=by
  rw[z];have:=(Blk.new ((w.alloc (.cells #[.slice none 0 0] 28)).alloc (.cells #[.int .i64 0] 25)) (.cells #[.slice none 0 0] 28));rwa [bR,bR]at this
 clear z
 refine⟨trivial,rfl,CallsIn.mono (callsIn_wide.2 (jzX X (catB xs))) ?_⟩
 rintro e w1 ⟨rfl,O,hE⟩;rw[a2]at O ⊢;have S0:ItS w w.heap.size w1.heap.size xs 0 w1:=⟨E0.trans hE,B2.keeps hE (fun h=>h),B3.keeps hE (fun h=>h),O,_,Z.keeps hE (fun h=>h),gA _ _ _ _,fun b hb=>by cases hb⟩;have b7:=O.lt;have b0:=Hd S0;clear a2 E0 B2 B3 Z O hE S0 X;gi_wp2_with fail
 refine jeD (N:=xs.length) (gf:=185) (lb:=#[.pointer (some ⟨w.heap.size+3,0,none⟩)]) rfl (vX 185) (jxF (w.heap.size+3) xs hx hs)
  (fun k=>rfl) (ItS w w.heap.size w1.heap.size xs) (fun _ _ _=>False) (fun k W W' h e=>h.st e) (fun _ _ _ _ h _=>h) (fun k W h=>h.bc)
  (fun k W o h=>h.put vO vO vO _)
  (fun k W o h=>h.put vO vO vO _) (fun _ _ _ _ h=>h)
  b0.o (fun k=>{ tmps:=#[.string (catB xs),undef,.pointer (some ⟨w.heap.size,0,none⟩),.pointer (some ⟨w.heap.size+1,0,none⟩),.pointer (some ⟨w.heap.size+1+1,0,none⟩),.string (xs.getD k ⟨#[]⟩),.nilIface,undef,undef,.string (catB xs),.func (.func 185) #[] #[.pointer (some ⟨w.heap.size+3,0,none⟩)],.string (xs.getD k ⟨#[]⟩),.nilIface,undef,undef,undef,undef,undef,undef,undef,undef,undef,undef,undef,undef,undef],defers:=[] })
  ?hassign ?hbody ?hdone ?hstop
 case hassign =>
  intro l j W K hK;rw[jsi];simp only[dM,dF];gi_wp2;exact hK
 case hbody =>
  intro l k W hk H b8
  obtain⟨v,h1,h2,h3⟩:=H.row
  obtain⟨A,E,rfl⟩:=jaU h2
  obtain⟨x,a0⟩:=vE (xs.getD k ⟨#[]⟩)
  rw[<-a0];have q4:W.cell? ⟨w.heap.size+1+1,0,none⟩=some (.slice A k E):=h1.cell (i:=0) vF;have f4:W.frozen? ⟨w.heap.size+1+1,0,none⟩=false:=h1.frozen;have Q:=Hd H;have H1:=Hd h1;have H2:=Hd h2;have H3:=Hd h3;have b1:=Hd a0;clear H h1 h2 h3 a0;gi_wp2_with (gi_at_builtin;refine jb3 _ rfl (.tmp 21) (.tmp 23) 28 rfl 9 i0 _ 1 16 Tryz.uStrs hi a7 a8 a9 rfl vI (.slice A k E) k _ rfl (jbo H2.o ((ExtR W).alloc _)) ⟨W.heap.size,0,none⟩ 1 1 [.string x] rfl rfl (jaI (Blk.new W _)) (by simp[Value.oneCell']) (by unfold maxLen;omega) vO ?_)
  intro v' w6 r1 r2 r3;have K6:jaf (fun b=>(Value.slice A k E).ownBlock=some b) W w6:=((jaf.refl _ W).alloc _).trans r2;have e1:((xs.take k).map Value.string++[.string x])=(xs.take (k+1)).map Value.string:=by
   rw[cT hk,cB,b1.o];simp[bG,hk]
  have r1:w6.ownsRow 0 9 1 v' (k+1) ((xs.take (k+1)).map Value.string):=by rw[<-e1,jM];exact r1
  have b5:=Q.o.b2.lt;have b6:=H1.o.lt;have b9:w.heap.size<=w1.heap.size:=vO
  have nb:∀ b,b < w1.heap.size+2->¬(Value.slice A k E).ownBlock=some b:=fun b hb e=>by have:=H3.o b e;omega
  obtain⟨a3,a4,rfl⟩:=jaU r1
  have a5:∀ b,(Value.slice a3 (k+1) a4).ownBlock=some b->w1.heap.size+2<=b:=fun b hb=>by
   rcases r3 with r3 | r3
   ·exact H3.o b (r3 ▸ hb)
   ·have:=r3 b hb;omega
  have Z:=H1.o.keeps K6 (nb _ vO);have c0:w6.cell? ⟨w.heap.size+1+1,0,none⟩=some (.slice A k E):=Z.cell (i:=0) vF;have c1:w6.frozen? ⟨w.heap.size+1+1,0,none⟩=false:=Z.frozen;have J:=Hd K6;have b4:=Hd Z;have R1:=Hd r1;have a6:=Hd a5;have NB:=Hd nb;clear K6 r1 r2 r3 e1 a5 Z nb q4 f4;gi_wp2;have k7:jaf (fun b=>b=w.heap.size+1+1) w6 (w6.setCell ⟨w.heap.size+1+1,0,none⟩ (.slice a3 (k+1) a4)):=jaf.oneSet w6 ⟨w.heap.size+1+1,0,none⟩ _
  refine⟨(J.o.mono (fun x _ e=>?_)).trans' k7 (fun x _ e=>?_),?_⟩
  ·have:=H3.o x e;show x≠_/\x≠_;omega
  ·have e:x=_:=e;show x≠_/\x≠_;omega
  ·refine⟨(Q.o.ext.trans' J.o (fun x hx e=>by have:=H3.o x e;omega)).trans' k7 (fun x hx e=>by have e:x=_:=e;omega),
    (Q.o.b2.keeps J.o (NB.o _ vO)).keeps k7 (fun e=>by omega),(Q.o.b3.keeps J.o (NB.o _ vO)).keeps k7 (fun e=>by omega),(Q.o.bc.keeps J.o (NB.o _ vO)).keeps k7 (fun e=>by omega),
    _,b4.o.set_same (i:=0) _,jbc R1.o k7 (fun b hb e=>by have:=a6.o b hb;omega),a6.o⟩
 case hdone =>
  intro W H hd
  obtain⟨v,h1,h2,h3⟩:=H.row
  obtain⟨A,E,rfl⟩:=jaU h2
  have q4:W.cell? ⟨w.heap.size+1+1,0,none⟩=some (.slice A xs.length E):=h1.cell (i:=0) vF;have q2:=H.b2.cell (i:=0) (v:=.slice none 0 0) vF;have f2:W.frozen? ⟨w.heap.size,0,none⟩=false:=H.b2.frozen;have q3:=H.b3.cell (i:=0) (v:=.int .i64 0) vF;have f3:W.frozen? ⟨w.heap.size+1,0,none⟩=false:=H.b3.frozen;have Q:=Hd H;have H2:=Hd h2;have H3:=Hd h3;have HD:=Hd hd;clear H h1 h2 h3 hd;gi_wp2
  obtain⟨W3,a1⟩:=vE ((W.setCell ⟨w.heap.size,0,none⟩ (.slice A xs.length E)).setCell ⟨w.heap.size+1,0,none⟩ (.int .i64 0))
  rw[<-a1];have B2:=(Q.o.b2.set_same (i:=0) (.slice A xs.length E)).set_other (p:=⟨w.heap.size+1,0,none⟩) (by show w.heap.size≠w.heap.size+1;omega) (.int .i64 0);have B3:=(Q.o.b3.set_other (p:=⟨w.heap.size,0,none⟩) (by show w.heap.size+1≠w.heap.size;omega) (.slice A xs.length E)).set_same (i:=0) (.int .i64 0);have BD:=(HD.o.set_other (p:=⟨w.heap.size,0,none⟩) (by show w1.heap.size≠w.heap.size;omega) (.slice A xs.length E)).set_other (p:=⟨w.heap.size+1,0,none⟩) (by show w1.heap.size≠w.heap.size+1;omega) (.int .i64 0);rw[<-a1]at B2 B3 BD;have K1:=(jaf.oneSet W ⟨w.heap.size,0,none⟩ (.slice A xs.length E));have K3:jaf (fun b=>b=w.heap.size\/b=w.heap.size+1\/b=w1.heap.size) W (W3.putObj w1.heap.size (.deferred none)):=by
   rw[a1];exact (((jaf.refl _ W).setCell (.inl (.inl rfl)) _).setCell (.inl (.inr (.inl rfl))) _).putObj (.inl (.inr (.inr rfl))) _
  have c2:(W3.putObj w1.heap.size (.deferred none)).cell? ⟨w.heap.size,0,none⟩=some (.slice A xs.length E):=(B2.put_other vO _).cell (i:=0) (by simp);have c3:(W3.putObj w1.heap.size (.deferred none)).cell? ⟨w.heap.size+1,0,none⟩=some (.int .i64 0):=(B3.put_other vO _).cell (i:=0) (by simp)
  refine⟨by simp,.inl ⟨_,_,rfl,run_takeDeferred BD,?_⟩⟩
  refine⟨.tuple #[.slice A xs.length E,.int .i64 0],by simp[results,Tryz.results152,go_sem,c2,c3],?_⟩
  refine⟨_,rfl,⟨_,_,rfl⟩,?_,Q.o.ext.trans' K3 (fun x hx e=>by omega),fun b hb=>by have:=H3.o b hb;omega⟩
  have h5:=jbc H2.o K3 (fun b hb e=>by have:=H3.o b hb;omega)
  rwa [cJ]at h5
 case hstop=>intro c k W _ _ h;exact h.elim
end
theorem jsG:∀ (f n:Nat),n < 256 ^ f->beN (leF f n).reverse=n
 | 0,n,h=>by simp at h;subst h;rfl
 | f+1,n,h=>by
  unfold leF
  by_cases h0:n=0
  ·rw[if_pos h0,h0];rfl
  ·rw[if_neg h0,gP,jkl,jsG f (n / 256) (by rw[Nat.pow_succ]at h;omega)]
   have:(UInt8.ofNat n).toNat=n % 256:=rfl
   omega
theorem jpa:∀ (f n:Nat),n < 256 ^ f->0 < n->∃ x l,(leF f n).reverse=x :: l/\x≠0
 | 0,n,h,h0=>by simp at h;omega
 | f+1,n,h,h0=>by
  unfold leF;rw[if_neg vO,gP]
  by_cases h1:n / 256=0
  ·have:leF f (n / 256)=[]:=by rw[h1];cases f <;> simp[leF]
   rw[this]
   refine⟨_,_,rfl,fun e=>?_⟩
   have A:(UInt8.ofNat n).toNat=(0:vU).toNat:=by rw[e]
   have:(UInt8.ofNat n).toNat=n % 256:=rfl
   have o:(0:vU).toNat=0:=rfl;omega
  ·obtain⟨x,l,z,o⟩:=jpa f (n / 256) (by rw[Nat.pow_succ]at h;omega) vO
   exact⟨x,l++[UInt8.ofNat n],by rw[z];rfl,o⟩
theorem jgA(a:vU)(t:vN):cutN ⟨(a :: t).toArray⟩ =
  (if a.toNat < 128 then some (false,0,1)else
   if (if a.toNat < 192 then a.toNat - 128 else a.toNat - 192)<=55 then
    if 1+(if a.toNat < 192 then a.toNat - 128 else a.toNat - 192)<=t.length+1/\(decide (192<=a.toNat)=true\/(if a.toNat < 192 then a.toNat - 128 else a.toNat - 192)≠1\/128<=((a :: t).getD 1 0).toNat)then some (decide (192<=a.toNat),1,(if a.toNat < 192 then a.toNat - 128 else a.toNat - 192))else none
   else match lenB ⟨(a :: t).toArray⟩ (1+((if a.toNat < 192 then a.toNat - 128 else a.toNat - 192) - 55))with
    | some n=>if 1+((if a.toNat < 192 then a.toNat - 128 else a.toNat - 192) - 55)+n<=t.length+1 then some (decide (192<=a.toNat),1+((if a.toNat < 192 then a.toNat - 128 else a.toNat - 192) - 55),n)else none
    | none=>none):=by
 have e:(⟨(a :: t).toArray⟩:vB).size=t.length+1:=rfl;have o:0 < (⟨(a :: t).toArray⟩:vB).size:=by rw[e];omega
 have z:(⟨(a :: t).toArray⟩:vB)[0]'o=a:=rfl;unfold cutN;rw[dif_pos o];simp only[z,e]
 by_cases h1:a.toNat < 128
 ·rw[if_pos h1,if_pos h1]
 ·rw[if_neg h1,if_neg h1]
  by_cases h2:a.toNat < 192
  ·simp only[if_pos h2,show decide (192<=a.toNat)=false by simp;omega];rfl
  ·simp only[if_neg h2,show decide (192<=a.toNat)=true by simp;omega];rfl
def hb(l:Bool):vU:=if l then 192 else 128
theorem jw4(a b:vU)(h:a.toNat+b.toNat < 256):(a+b).toNat=a.toNat+b.toNat:=by rw[iY];omega
theorem jok(n:Nat)(h:n < 256):(UInt8.ofNat n).toNat=n:=by show n % 256=n;omega
theorem jwS(l:Bool):(hb l).toNat=if l then 192 else 128:=by cases l <;> rfl
theorem juZ(l:Bool)(b y:vN)(hn:b.length<=1048576)(h1:l=false->b.length=1->128<=(b.headD 0).toNat) :
  cutN ⟨((jb6 (hb l) b.length).data.toList++(b++y)).toArray⟩=some (l,(jb6 (hb l) b.length).size,b.length):=by
 by_cases hs:b.length<=55
 ·have O:(jb6 (hb l) b.length)=⟨#[hb l+UInt8.ofNat b.length]⟩:=by unfold jb6;rw[if_pos hs]
  rw[O];have o:(hb l+UInt8.ofNat b.length).toNat=(if l then 192 else 128)+b.length:=by
   rw[jw4 _ _ (by rw[jwS,jok _ vO];split <;> omega),jwS,jok _ vO]
  have Q:(⟨#[hb l+UInt8.ofNat b.length]⟩:vB).size=1:=rfl;rw[Q]
  obtain⟨a,e⟩:=vE (hb l+UInt8.ofNat b.length)
  rw[<-e]at o ⊢;have X:(if a.toNat < 192 then a.toNat - 128 else a.toNat - 192)=b.length:=by
   rw[o];cases l <;> simp only[cI,if_false,if_true]
   ·rw[if_pos vO];omega
   ·rw[if_neg vO];omega
  have z:decide (192<=a.toNat)=l:=by
   rw[o];cases l <;> simp <;> omega
  show cutN ⟨(a ::(b++y)).toArray⟩=_;rw[jgA,X,z,if_neg (by rw[o];split <;> omega),if_pos hs,if_pos]
  refine⟨by rw[bC];omega,?_⟩
  cases l with
  | true=>exact .inl rfl
  | false =>
   refine .inr ?_
   by_cases h2:b.length=1
   ·refine .inr ?_
    have:=h1 rfl h2
    match b,h2 with
    | [x],_=>simpa using this
   ·exact .inl h2
 ·obtain⟨d,K⟩:=vE (leF 8 b.length).reverse
  have hp:b.length < 256 ^ 8:=vO
  have a4:d.length<=8:=by rw[K,fI];exact jht _ _
  have Z:beN d=b.length:=by rw[K];exact jsG _ _ hp
  obtain⟨x,r,A,a0⟩:=jpa 8 b.length hp vO
  rw[<-K]at A;have E:jcV b.length=⟨d.toArray⟩:=by unfold jcV;rw[K]
  have a1:(⟨d.toArray⟩:vB).size=d.length:=rfl;have O:(jb6 (hb l) b.length)=⟨#[hb l+55+UInt8.ofNat d.length]⟩++⟨d.toArray⟩:=by unfold jb6;rw[if_neg hs,E,a1]
  have H:(jb6 (hb l) b.length).data.toList=(hb l+55+UInt8.ofNat d.length) :: d:=by
   rw[O,cY];simp
  have a2:(jb6 (hb l) b.length).size=1+d.length:=by
   show (jb6 (hb l) b.length).data.toList.length=_;rw[H,bF];omega
  rw[H,a2];have J:(hb l+55:vU).toNat=(if l then 192 else 128)+55:=by cases l <;> rfl
  have o:(hb l+55+UInt8.ofNat d.length).toNat=(if l then 192 else 128)+55+d.length:=by
   rw[jw4 _ _ (by rw[J,jok _ vO];split <;> omega),J,jok _ vO]
  obtain⟨a,e⟩:=vE (hb l+55+UInt8.ofNat d.length)
  rw[<-e]at o ⊢;have a5:1<=d.length:=by rw[A];simp
  have X:(if a.toNat < 192 then a.toNat - 128 else a.toNat - 192)=55+d.length:=by
   rw[o];cases l <;> simp only[cI,if_false,if_true]
   ·rw[if_pos vO];omega
   ·rw[if_neg vO];omega
  have z:decide (192<=a.toNat)=l:=by
   rw[o];cases l <;> simp <;> omega
  have a3:lenB ⟨(a ::(d++(b++y))).toArray⟩ (1+d.length)=some b.length:=by
   have e1:((⟨(a ::(d++(b++y))).toArray⟩:vB).data.toList.take (1+d.length)).drop 1=d:=by
    show ((a ::(d++(b++y))).take (1+d.length)).drop 1=d;rw[gL,dZ,iN,List.drop_zero,List.take_left]
   unfold lenB;rw[if_neg,e1,Z,if_pos ⟨by omega,hn⟩];rintro (h | h)
   ·have:(⟨(a ::(d++(b++y))).toArray⟩:vB).size=(d++(b++y)).length+1:=rfl
    rw[this,bC]at h;omega
   ·have:(⟨(a ::(d++(b++y))).toArray⟩:vB).data.toList.getD 1 0=x:=by rw[A];rfl
    rw[this]at h;exact a0 h
  show cutN ⟨(a ::(d++(b++y))).toArray⟩=_;rw[jgA,X,z,if_neg (by rw[o];split <;> omega),if_neg vO,show 55+d.length - 55=d.length by omega,a3];simp only[bC];rw[if_pos vO]
theorem juG(s:vB):s=⟨s.data.toList.toArray⟩:=rfl
theorem jlQ(l:Bool)(b y:vB)(hn:b.size<=1048576)(h1:l=false->b.size=1->128<=(b.data.toList.headD 0).toNat) :
  cutN (jb6 (hb l) b.size++b++y)=some (l,(jb6 (hb l) b.size).size,b.size):=by
 have h:=juZ l b.data.toList y.data.toList hn h1;rw[juG (jb6 (hb l) b.size++b++y)];simp only[cY,fW,cD];exact h
theorem jiE(h b y:vB):(h++b++y).extract h.size (h.size+b.size)=b:=by
 apply ByteArray.ext;apply Array.ext';rw[dA,fL,cY,cY,fW,fW,dU,
  show h.size+b.size - h.size=b.data.toList.length by show _=b.size;omega,cD,show h.size=h.data.toList.length from rfl,fV,List.take_left]
theorem jiq(b y:vB)(hn:b.size<=1048576):∃ o,cutN (jan b++y)=some (false,o,b.size)/\o+b.size=(jan b).size/\(jan b++y).extract o (o+b.size)=b:=by
 by_cases h:b.size=1/\b.data.toList.headD 255 < 128
 ·obtain⟨E,A⟩:=h
  obtain⟨⟨lb⟩⟩:=b
  have e:lb.length=1:=E
  match lb,e,A with
  | [x],_,A =>
   have H:x.toNat < 128:=dD.1 A;have z:jan ⟨#[x]⟩=⟨#[x]⟩:=by unfold jan;rw[if_pos ⟨rfl,A⟩]
   refine⟨0,?_,?_,?_⟩
   ·rw[show (⟨[x].toArray⟩:vB)=⟨#[x]⟩from rfl,z,juG (_++y),cY,fW]
    show cutN ⟨(x :: y.data.toList).toArray⟩=_;rw[jgA,if_pos H];rfl
   ·rw[show (⟨[x].toArray⟩:vB)=⟨#[x]⟩from rfl,z];rfl
   ·rw[show (⟨[x].toArray⟩:vB)=⟨#[x]⟩from rfl,z,cG];exact jlX _ _
 ·have z:jan b=jb6 (hb false) b.size++b:=by unfold jan;rw[if_neg h];rfl
  rw[z]
  refine⟨_,jlQ false b y hn (fun _ E=>?_),by rw[bU],jiE _ _ _⟩
  obtain⟨⟨lb⟩⟩:=b
  have e:lb.length=1:=E
  match lb,e,h with
  | [x],_,h =>
   have K:¬ x < 128:=fun J=>h ⟨rfl,J⟩;have O:¬ x.toNat < (128:vU).toNat:=fun J=>K (dD.2 J);have Q:(128:vU).toNat=128:=rfl;show 128<=x.toNat;omega
theorem jio(xs:vM)(y:vB)(hn:(catB xs).size<=1048576):∃ o,cutN (jbb xs++y)=some (true,o,(catB xs).size)/\o+(catB xs).size=(jbb xs).size/\(jbb xs++y).extract o (o+(catB xs).size)=catB xs:=by
 have e:jbb xs=jb6 (hb true) (catB xs).size++catB xs:=rfl;rw[e]
 exact⟨_,jlQ true _ y hn (fun h=>by cases h),by rw[bU],jiE _ _ _⟩
theorem jc1(b:vB)(hn:b.size<=1048576):jgp (jan b):=fun y _=>let ⟨o,h1,h2,_⟩:=jiq b y hn;⟨_,h1,h2⟩
theorem jnO(xs:vM)(hn:(catB xs).size<=1048576):jgp (jbb xs):=fun y _=>let ⟨o,h1,h2,_⟩:=jio xs y hn;⟨_,h1,h2⟩
theorem jrA(x:vB):x++⟨#[]⟩=x:=iD
theorem jlR(b:vB)(hn:b.size<=1048576):∃ o,cutN (jan b)=some (false,o,b.size)/\o+b.size=(jan b).size/\(jan b).extract o (o+b.size)=b:=by
 have:=jiq b ⟨#[]⟩ hn;rwa [jrA]at this
theorem jfa(xs:vM)(hn:(catB xs).size<=1048576):∃ o,cutN (jbb xs)=some (true,o,(catB xs).size)/\o+(catB xs).size=(jbb xs).size/\(jbb xs).extract o (o+(catB xs).size)=catB xs:=by
 have:=jio xs ⟨#[]⟩ hn;rwa [jrA]at this
theorem jey(b:vB)(hn:b.size<=1048576):∃ r,cutN (jan b)=some r/\jfk (jan b) r=some b:=by
 obtain⟨o,e,z,A⟩:=jlR b hn
 exact⟨_,e,by unfold jfk;rw[if_pos ⟨rfl,z⟩,A]⟩
theorem jdU(b:vB)(hn:b.size=32):∃ r,cutN (jan b)=some r/\jfc (jan b) r=some b:=by
 obtain⟨r,e,o⟩:=jey b vO
 exact⟨r,e,by unfold jfc;rw[o];simp[Option.filter,hn]⟩
theorem jl7(xs:vM)(hn:(catB xs).size<=1048576):∃ r,cutN (jbb xs)=some r/\jfc (jbb xs) r=none:=by
 obtain⟨o,e,z,A⟩:=jfa xs hn
 exact⟨_,e,by unfold jfc jfk;rw[if_neg (by simp)];rfl⟩
section
attribute [local go_sem] Oper.semAt_some
theorem jae{P:Program}{w:vW}{ops:Array Oper}{rest:List Oper}{o:Oper}{a:Act}{Q:Exit->Act->vW->Prop}(t:TypeId)(x:Operand)(ho:o.op=.load t x)(hw:Region.wanted o (yielded ops a.tmps)=true)(v:vV)(p:Addr)(hx:a.eval x=.pointer (some p))
  (hr:(Instr.loadAt t (.pointer (some p))).run P w=.ok v w) (h:wpList P ops Q rest (a.put o.dst v) w):wpList P ops Q (o :: rest) a w:=by
 unfold wpList;rw[if_pos hw];refine .inl (jcb (v:=v) (w':=w) ?_ h);simp only[execOp,ho,hx,bX,hr,Result.andThen,cO]
theorem jfo(W:vW)(n:jad)(hr:n.refs.length=16):(Instr.loadAt 154 (.pointer (some ⟨W.heap.size,0,none⟩))).run Tryz.prog (W.alloc (.cells n.cells.toArray 154))=.ok n.V (W.alloc (.cells n.cells.toArray 154)):=
 jb1 _ _ n hr (Blk.new W _)
theorem Tryz.isNode:jgG (Tryz.prog.underlying 94)=true:=vY
theorem Tryz.szNode:(Tryz.prog.info? 94).map (·.size)=some 19:=vY
theorem jao(W:vW)(b:Nat)(n:jad)(hr:n.refs.length=16)(hB:Blk W b (.cells n.cells.toArray 94)):(Instr.loadAt 94 (.pointer (some ⟨b,0,none⟩))).run Tryz.prog W=.ok n.V W:=by
 obtain⟨z,e⟩:=jfR Tryz.isNode
 exact jd9 e (by rw[n.cells_len hr];exact Tryz.szNode) (fun j v o=>by rw[jhU];exact hB.cellL o)
theorem jAe(w:vW)(n:jad)(hr:n.refs.length=16)(hp:n.pathOk 0=true)(h0:0 < n.value.size)(h8:n.value.size<=80)(hb:n.behindN=0):vR 120 #[n.V] w (.bool true):=by
 have E:n.path.size<=1000000:=by
  have:n.pathOk 0=true:=hp
  simp only[jad.pathOk,cU,decide_eq_true_eq]at this;omega
 have z:=jfo w n hr;have O:n.cells[2]?=some (.string n.value):=rfl;have Q:=jbe h0;have c1:(n.value.size:Int)<=80:=vO
 have X:=Hd hp;have Z:=Hd hb;have HH:=Hd h0;clear hp hb h0;unfold jad.V at z ⊢;unfold vR vQ;go_in;go_wp2_with (refine jae 154 (.tmp 1) rfl rfl _ _ rfl z ?_)
 refine vC (jtg _ n hr 0 E) fun w1 A=>?_;rw[X.o];have H:=(Blk.new w (.cells n.cells.toArray 154)).keeps A (fun h=>h);have q2:=H.cellL O;have e:=jb1 w1 _ n hr H;have J:=Hd (((ExtR w).alloc _).trans A);unfold jad.V at e;clear z A H;go_wp2_with (refine jae 154 (.tmp 1) rfl rfl _ _ rfl e ?_)
 refine vH (jow _ n hr) fun w2 A=>?_;rw[Z.o];have K:=Hd (J.o.trans A);clear e q2;go_wp2_with fail
 go_ret
 exact⟨rfl,K.o⟩
def jaG:jad:=⟨0,⟨#[]⟩,⟨#[]⟩,List.replicate 16 ⟨#[]⟩⟩
theorem jAi(w:vW):vR 119 #[jaG.V] w (.bool true):=by
 have e:=jfo w jaG rfl;have o:jaG.cells.toArray=#[.int .i64 0,.string ⟨#[]⟩,.string ⟨#[]⟩,.string ⟨#[]⟩,.string ⟨#[]⟩,.string ⟨#[]⟩,.string ⟨#[]⟩,.string ⟨#[]⟩,.string ⟨#[]⟩,.string ⟨#[]⟩,.string ⟨#[]⟩,.string ⟨#[]⟩,.string ⟨#[]⟩,.string ⟨#[]⟩,.string ⟨#[]⟩,.string ⟨#[]⟩,.string ⟨#[]⟩,.string ⟨#[]⟩,.string ⟨#[]⟩]:=rfl;unfold jad.V at e ⊢;rw[o]at e ⊢;have z:∀ w,(binOp .eql 154 (.agg #[.int .i64 0,.string ⟨#[]⟩,.string ⟨#[]⟩,.string ⟨#[]⟩,.string ⟨#[]⟩,.string ⟨#[]⟩,.string ⟨#[]⟩,.string ⟨#[]⟩,.string ⟨#[]⟩,.string ⟨#[]⟩,.string ⟨#[]⟩,.string ⟨#[]⟩,.string ⟨#[]⟩,.string ⟨#[]⟩,.string ⟨#[]⟩,.string ⟨#[]⟩,.string ⟨#[]⟩,.string ⟨#[]⟩,.string ⟨#[]⟩]) (.agg #[.int .i64 0,.string ⟨#[]⟩,.string ⟨#[]⟩,.string ⟨#[]⟩,.string ⟨#[]⟩,.string ⟨#[]⟩,.string ⟨#[]⟩,.string ⟨#[]⟩,.string ⟨#[]⟩,.string ⟨#[]⟩,.string ⟨#[]⟩,.string ⟨#[]⟩,.string ⟨#[]⟩,.string ⟨#[]⟩,.string ⟨#[]⟩,.string ⟨#[]⟩,.string ⟨#[]⟩,.string ⟨#[]⟩,.string ⟨#[]⟩])).run Tryz.prog w=.ok (.bool true) w:=fun w=>by kernel_rfl
 unfold vR vQ;go_in;go_wp2_with (refine jae 154 (.tmp 1) rfl rfl _ _ rfl e ?_)
 go_ret
 exact⟨rfl,(ExtR w).alloc _⟩
end
