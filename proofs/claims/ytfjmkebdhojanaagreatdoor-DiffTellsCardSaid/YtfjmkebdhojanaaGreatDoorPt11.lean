/- Lemmas; each is under no condition but those that it states. -/
import Derived.Test.YtfjmkebdhojanaaGreatDoorPt10
namespace Go.Proofs.YtfjmkebdhojanaaGreatDoor
set_option linter.unusedSimpArgs false
set_option linter.unusedVariables false
set_option maxRecDepth 100000
set_option maxHeartbeats 16000000
open Go Go.RowKit
theorem jaN(b:vB):(jao b).size<=b.size+9:=by
 unfold jao;split
 ·omega
 ·rw[bV];have:=jer 128 b.size;omega
theorem jod(s:vB):(jbu s).size=s.size / 2:=by
 show (jcC s.data.toList).length=_;rw[jdo];rfl
theorem jbn(p:vB)(leaf:Bool):(putB p leaf).size<=p.size / 2+1:=by
 unfold putB;rw[jod];show (jci p leaf++p.data.toList).length / 2<=_;rw[bC,show p.data.toList.length=p.size from rfl];unfold jci oddB
 by_cases h:p.size % 2=1
 ·simp[h];omega
 ·have:(p.size % 2 == 1)=false:=by simpa using h
  rw[this];simp
theorem ja4(x:vB)(xs:vM):(catB (x :: xs)).size=x.size+(catB xs).size:=by
 show ((x :: xs).map (·.data.toList)).flatten.length=x.data.toList.length+(xs.map (·.data.toList)).flatten.length;rw[bS,List.flatten_cons,bC]
theorem jcK:(catB []).size=0:=rfl
theorem jb2(w:vW)(xs:vM)(T:TypeId):RdS (w.alloc (.cells (xs.map Value.string).toArray T)) (.slice (some ⟨w.heap.size,0,none⟩) xs.length xs.length) xs:=
 .inr ⟨w.heap.size,0,xs.length,rfl,by simp,bL _,fun j x e=>by rw[cH];exact (Blk.new w _).cellL (by rw[bX,e];rfl)⟩
def jmp(n:jad):vB:=ja7 [jao (putB n.path true),jao n.value]
def extB(n:jad):vB:=ja7 [jao (putB n.path false),n.refs.getD 0 ⟨#[]⟩]
theorem jqJ(w:vW)(n:jad)(hps:n.path.size<=900000)(hvs:n.value.size<=100000)(hv:jaB n.path=true):vR 140 #[n.V] w (.string (jmp n)):=by
 obtain⟨k,p,v,Z⟩:=n
 simp only at hps hvs hv;unfold jad.V;have e1:(jad.cells ⟨k,p,v,Z⟩)[1]?=some (.string p):=rfl;have e2:(jad.cells ⟨k,p,v,Z⟩)[2]?=some (.string v):=rfl;have H:=jbn p true;have J:=jaN (putB p true);have a0:=jaN v;unfold vR vQ;go_in;go_wp2_with fail
 refine vC (jAi _ p true hps hv) fun w1 hE=>?_;have hB:=(Blk.new w _).keeps hE (fun h=>h);have O:=((ExtR w).alloc _).trans hE
 obtain⟨g,hg⟩:=vE w.heap.size
 rw[<-hg]at hB ⊢;have q2:=hB.cellL e2
 obtain⟨e,A⟩:=vE (putB p true)
 rw[<-A]at H J ⊢;have HL:=Hd (show jmp ⟨k,p,v,Z⟩=ja7 [jao e,jao v] by unfold jmp;rw[A]);have Q:=Hd O;have Q2:=Hd q2;have E:e.size<=1000000000:=vO
 have hc:(catB [jao e,jao v]).size<=1000000000:=by rw[ja4,ja4,jcK];omega
 have HC:=Hd hc;have HP:=Hd E;have HV:=Hd hvs;clear e1 e2 H J a0 hB hg A hE O q2 E hc hps hv hvs;go_wp2_with fail
 refine jag [0,2,1,3,4,5,6,7] Ext ExtR ExtT vY vY vY ?_;iterate 2 refine vK ?_
 refine qKC _ 50 #[.string e] (.string (jao e)) rfl (fun w1=>jat (vX 50) vY) (fun w1 h1=>jea w1 e HP.o) ?_;refine vS ?_;refine qKL ⟨g,2,none⟩ _ rfl (fun w2 h2=>jab Tryz.uStr rfl (jaa (by exact Q2.o) h2)) ?_;refine vS ?_;refine qKC _ 50 #[.string v] (.string (jao v)) rfl (fun w1=>jat (vX 50) vY) (fun w1 h1=>jea w1 v (by have:=HV.o;omega)) ?_;refine vS ?_;refine jeu _ rfl vY rfl (fun w2 X K hK=>?_);have a1:=Hd (Q.o.trans ((jai w1).trans X));have HR:=Hd (jb2 w2 [jao e,jao v] 9);clear X Q Q2 HV HP;go_simp;refine hK _ _ ((ExtR w2).alloc _) ?_;clear hK K;refine qKC _ 162 _ (.string (ja7 [jao e,jao v])) rfl (fun w1=>jat (vX 162) vY) (fun w3 h3=>jsL w3 _ [jao e,jao v] (HR.o.ext (by exact h3)) HC.o (show 2<=1000000000 by decide)) ?_;refine vS ?_
 refine vK ?_
 refine qKE (fun w3 X=>?_);go_wp2_with fail
 go_ret
 exact⟨by rw[HL.o];rfl,(a1.o.alloc _).trans X⟩
theorem jsf(w:vW)(n:jad)(hps:n.path.size<=900000)(r:vB)(hr:n.refs=r :: n.refs.tail)(hvs:r.size<=100000)(hv:jaB n.path=true):vR 141 #[n.V] w (.string (extB n)):=by
 obtain⟨k,p,v,rs⟩:=n
 simp only at hps hvs hr hv;cases rs with
 | nil=>cases hr
 | cons r' rt =>
 simp only[List.tail_cons,List.cons.injEq,and_true]at hr;subst hr;unfold jad.V;have e1:(jad.cells ⟨k,p,v,r' :: rt⟩)[1]?=some (.string p):=rfl;have e2:(jad.cells ⟨k,p,v,r' :: rt⟩)[3]?=some (.string r'):=rfl;have H:=jbn p false;have J:=jaN (putB p false);unfold vR vQ;go_in;go_wp2_with fail
 refine vC (jAi _ p false hps hv) fun w1 Z=>?_;have hB:=(Blk.new w _).keeps Z (fun h=>h);have O:=((ExtR w).alloc _).trans Z
 obtain⟨g,hg⟩:=vE w.heap.size
 rw[<-hg]at hB ⊢;have q2:=hB.cellL e2
 obtain⟨e,A⟩:=vE (putB p false)
 rw[<-A]at H J ⊢;have HL:=Hd (show extB ⟨k,p,v,r' :: rt⟩=ja7 [jao e,r'] by unfold extB;rw[A];rfl);have Q:=Hd O;have Q2:=Hd q2;have E:e.size<=1000000000:=vO
 have hc:(catB [jao e,r']).size<=1000000000:=by rw[ja4,ja4,jcK];omega
 have HC:=Hd hc;have HP:=Hd E;have HV:=Hd hvs;clear e1 e2 H J hB hg A Z O q2 E hc hps hv hvs;go_wp2_with fail
 refine jag [0,1,2,3,4,5,6,7] Ext ExtR ExtT vY vY vY ?_
 refine vK ?_
 refine qKC _ 50 #[.string e] (.string (jao e)) rfl (fun w1=>jat (vX 50) vY) (fun w1 h1=>jea w1 e HP.o) ?_;refine vS ?_;iterate 2 refine vK ?_
 refine qKL ⟨g,3,none⟩ _ rfl (fun w2 h2=>jab Tryz.uStr rfl (jaa (by exact Q2.o) h2)) ?_;refine vS ?_;refine jeu _ rfl vY rfl (fun w2 X K hK=>?_);have a0:=Hd (Q.o.trans ((jai w1).trans X));have HR:=Hd (jb2 w2 [jao e,r'] 9);clear X Q Q2 HV HP;go_simp;refine hK _ _ ((ExtR w2).alloc _) ?_;clear hK K;refine qKC _ 162 _ (.string (ja7 [jao e,r'])) rfl (fun w1=>jat (vX 162) vY) (fun w3 h3=>jsL w3 _ [jao e,r'] (HR.o.ext (by exact h3)) HC.o (show 2<=1000000000 by decide)) ?_;refine vS ?_
 refine vK ?_
 refine qKE (fun w3 X=>?_);go_wp2_with fail
 go_ret
 exact⟨by rw[HL.o];rfl,(a0.o.alloc _).trans X⟩
section
attribute [local go_sem] Oper.semAt_some
def jad.ri(n:jad)(k:Nat):Nat:=(n.refsL.getD k (0,⟨#[]⟩)).1
def jad.rr(n:jad)(k:Nat):vB:=(n.refsL.getD k (0,⟨#[]⟩)).2
theorem jwc(n:jad)(k:Nat):n.rv k=#[.int .i64 (n.ri k:Nat),.string (n.rr k)]:=rfl
def jgB(d:Option TypeDesc):Bool:=match d with | some (.struct _)=>true | _=>false
theorem jfS{d:Option TypeDesc}(h:jgB d=true):∃ fs,d=some (.struct fs):=by
 cases d with
 | none=>cases h
 | some d=>cases d <;> first | exact⟨_,rfl⟩ | cases h
theorem Tryz.isForm:jgB (Tryz.prog.underlying 172)=true:=vY
theorem jft:∀ (l:vM) (i:Nat) (x:Nat × vB),x∈jax i l->i<=x.1/\x.1 < i+l.length/\l[x.1 - i]?=some x.2/\x.2.size≠0
 | [],i,x,h=>by cases h
 | r :: l,i,x,h=>by
  have e:x∈jax (i+1) l->i<=x.1/\x.1 < i+(r :: l).length/\(r :: l)[x.1 - i]?=some x.2/\x.2.size≠0:=fun h=>by
   obtain⟨E,H,o,A⟩:=jft l (i+1) x h
   refine⟨by omega,by simp;omega,?_,A⟩
   rw[show x.1 - i=(x.1 - (i+1))+1 by omega,List.getElem?_cons_succ];exact o
  unfold jax at h;split at h
  ·exact e h
  ·rename_i hr
   rcases bM.1 h with rfl | h
   ·exact⟨bL _,by simp,by simp,hr⟩
   ·exact e h
theorem jv8(n:jad)(hr:n.refs.length=16){k:Nat}(hk:k < n.refsL.length):n.ri k < 16/\n.refs[n.ri k]?=some (n.rr k)/\(n.rr k).size≠0:=by
 have e:(n.refsL.getD k (0,⟨#[]⟩))∈n.refsL:=by rw[bH,bA hk];exact dD _
 obtain⟨_,o,A,E⟩:=jft n.refs 0 _ e
 rw[hr]at o
 exact⟨by unfold jad.ri;omega,A,E⟩
theorem Tryz.szForm:(Tryz.prog.info? 172).map (·.size)=some 19:=vY
theorem jb3(W:vW)(b:Nat)(n:jad)(hr:n.refs.length=16)(hB:Blk W b (.cells n.cells.toArray 172)):(Instr.loadAt 172 (.pointer (some ⟨b,0,none⟩))).run Tryz.prog W=.ok n.V W:=by
 obtain⟨A,e⟩:=jfS Tryz.isForm
 exact jd9 e (by rw[n.cells_len hr];exact Tryz.szForm) (fun j v o=>by rw[jhO];exact hB.cellL o)
def jxQ(n:jad)(k:Nat):Nat:=match k with | 0=>0 | k+1=>n.ri k+1
def jad.behindN(n:jad):Nat:=jxQ n n.refsL.length
def BehC(w:vW)(gn gb:Nat)(n:jad)(k:Nat)(W:vW):Prop:=Ext w W/\Blk W gn (.cells n.cells.toArray 172)/\Blk W gb (.cells #[.int .i64 (jxQ n k:Nat)] 3)
theorem joH(w:vW)(n:jad)(hr:n.refs.length=16):vR 149 #[n.V] w (.int .i64 (n.behindN:Nat)):=by
 have HV:Hid (n.V=.agg n.cells.toArray):=rfl
 obtain⟨Z,A⟩:=vE ((w.alloc (.cells n.cells.toArray 172)).alloc (.cells #[.int .i64 0] 3))
 have B0:Blk Z w.heap.size (.cells n.cells.toArray 172):=by rw[A];exact (Blk.new w _).alloc _
 have Q:=jb3 Z w.heap.size n hr B0;rw[A]at Q;unfold jad.V at Q ⊢;refine (callsIn_wide (n:=0)).1 ?_;refine callsIn_of_wp_marks Tryz.func149 rfl trivial ?_ rfl;simp only[Tryz.ntmps149,dK,bF,cF,Nat.reduceAdd,Nat.reduceSub,dP,dO,fC,dY,cT,dA];gi_wp2_with (refine jbx rfl 172 (.tmp 1) rfl _ _ rfl Q ?_)
 refine⟨trivial,rfl,CallsIn.mono (callsIn_wide.2 (jpL _ n)) ?_⟩
 rintro e w1 ⟨rfl,X,hE⟩;rw[<-A]at X hE ⊢
 obtain⟨J,a0⟩:=vE (w.heap.size+1)
 have a1:Ext w Z:=by rw[A];exact ((ExtR w).alloc _).alloc _
 have B1:Blk Z J (.cells #[.int .i64 0] 3):=by
  rw[A,a0];have:=Blk.new (w.alloc (.cells n.cells.toArray 172)) (.cells #[.int .i64 0] 3);rwa [bT]at this
 have a5:Z.heap.size=w.heap.size+2:=by rw[A];simp
 have B2:=B1.keeps hE (fun h=>h);rw[<-a0]
 obtain⟨gn,a2⟩:=vE Z.heap.size
 rw[<-a2]at X ⊢;have a6:J≠gn:=vO
 have a9:=B2.lt;have b0:=X.lt;have a3:=a1.trans hE;have a7:w.heap.size<=J:=vO
 have a4:w.heap.size<=w1.heap.size:=a3.size;have a8:=Hd a3;clear Q hE a1 B0 B1 a5 a0 a2 A Z;gi_wp2_with fail
 refine jeD (N:=n.refsL.length) (gf:=122) (lb:=#[.pointer (some ⟨gn,0,none⟩)]) rfl (vX 122) (jld gn n hr)
  (fun k=>rfl) (BehC w gn J n) (fun _ _ _=>False) (fun k W W' ⟨H,O,E⟩ e=>⟨H.trans e,O.keeps e (fun h=>h),E.keeps e (fun h=>h)⟩) (fun _ _ _ _ h _=>h) (fun k W ⟨_,h,_⟩=>h)
  (fun k W o ⟨H,O,E⟩=>⟨H.putObj (.inr a4) _,O.put_other vO _,E.put_other vO _⟩)
  (fun k W o ⟨H,O,E⟩=>⟨H.putObj (.inr vO) _,O.put_other vO _,E.put_other vO _⟩) (fun _ _ _ _ h=>h)
  ⟨a8.o,X,B2⟩ (fun k=>{ tmps:=#[n.V,.pointer (some ⟨w.heap.size,0,none⟩),.int .i64 0,.pointer (some ⟨J,0,none⟩),.int .i64 (n.ri k:Nat),n.V,.func (.func 122) #[] #[.pointer (some ⟨gn,0,none⟩)],.int .i64 (n.ri k:Nat),.string (n.rr k),undef,undef,undef],defers:=[] })
  ?hassign ?hbody ?hdone ?hstop
 case hassign =>
  intro l j W K hK;rw[jwc,jsh];simp only[dL,dG];gi_wp2;exact hK
 case hbody =>
  intro l k W hk ⟨H,O,E⟩ hlt;have q:=E.cell (i:=0) (v:=.int .i64 (jxQ n k:Nat)) vF;have f:W.frozen? ⟨J,0,none⟩=false:=E.frozen;have H1:=Hd H;have H2:=Hd O;have H3:=Hd E;clear H O E;have b1:=(jv8 n hr hk).1;gi_wp2;rw[show ((n.ri k:Nat):Int)+1=((n.ri k+1:Nat):Int)from by omega];have b2:=H2.o.lt;have hx:jae (fun b=>b≠w1.heap.size/\b≠w1.heap.size+1) W (W.setCell ⟨J,0,none⟩ (.int .i64 ((n.ri k+1:Nat):Int))):=(jae.refl _ W).setCell (.inl ⟨by show J≠_;omega,by show J≠_;omega⟩) _
  exact⟨hx,H1.o.setCell (.inr a7) _,H2.o.set_other (p:=⟨J,0,none⟩) (fun e=>a6 e.symm) _,H3.o.set_same (i:=0) _⟩
 case hdone =>
  intro W ⟨H,O,E⟩ hd;have q:=E.cell (i:=0) (v:=.int .i64 (n.behindN:Nat)) vF;have H1:=Hd H;have HD:=Hd hd;clear H O E hd;gi_wp2
  refine⟨by simp,.inl ⟨_,_,rfl,run_takeDeferred HD.o,?_⟩⟩
  refine⟨_,results_tmp rfl _ _ _,?_⟩
  exact⟨rfl,H1.o.putObj (.inr a4) _⟩
 case hstop=>intro c k W _ _ h;exact h.elim
theorem Tryz.uStrs:Tryz.prog.underlying 31=some (.slice 9):=vY
theorem Tryz.infoStr:(Tryz.prog.info? 9).map (fun i=>(i.zero,i.size,i.bytes))=some (some (.string ⟨#[]⟩),1,16):=vY
def jeb(n:jad)(k:Nat):vM:=(n.refsL.take k).foldl (fun l x=>l.set x.1 x.2) (List.replicate 17 (jao ⟨#[]⟩))
def jbP(n:jad):vM:=(jeb n n.refsL.length).set 16 (jao n.value)
def jec(n:jad):vB:=ja7 (jbP n)
structure BrS(w:World)(gn gs gb:Nat)(n:jad)(xs:vM)(W:World):Prop where
 ext:Ext w W
 node:Blk W gn (.cells n.cells.toArray 172)
 var:Blk W gb (.cells #[.slice (some ⟨gs,0,none⟩) 17 17] 31)
 row:Blk W gs (.cells (xs.map Value.string).toArray 9)
 len:xs.length=17
theorem BrS.st{w:vW}{gn gs gb:Nat}{n:jad}{xs:vM}{W W':vW}(h:BrS w gn gs gb n xs W)(e:Ext W W'):BrS w gn gs gb n xs W':=
 ⟨h.ext.trans e,h.node.keeps e (fun h=>h),h.var.keeps e (fun h=>h),h.row.keeps e (fun h=>h),h.len⟩
theorem BrS.put{w:vW}{gn gs gb:Nat}{n:jad}{xs:vM}{W:vW}(h:BrS w gn gs gb n xs W)(r:Nat)(hr:w.heap.size<=r)(h1:gn≠r)(h2:gs≠r)(h3:gb≠r)(o:Obj):BrS w gn gs gb n xs (W.putObj r o):=
 ⟨h.ext.putObj (.inr hr) _,h.node.put_other h1 _,h.var.put_other h3 _,h.row.put_other h2 _,h.len⟩
theorem BrS.set{w:vW}{gn gs gb:Nat}{n:jad}{xs:vM}{W:vW}(h:BrS w gn gs gb n xs W)(hr:w.heap.size<=gs)(h1:gn≠gs)(h3:gb≠gs)(j:Nat)(x:vB):BrS w gn gs gb n (xs.set j x) (W.setCell ⟨gs,j,none⟩ (.string x)):=
 ⟨h.ext.setCell (.inr hr) _,h.node.set_other (p:=⟨gs,j,none⟩) h1 _,h.var.set_other (p:=⟨gs,j,none⟩) h3 _,by
  have:=h.row.set_same (i:=j) (.string x)
  rw[show (xs.map Value.string).toArray.setIfInBounds j (.string x)=((xs.set j x).map Value.string).toArray by simp[iB]]at this;exact this,by simp[h.len]⟩
theorem jie(n:jad)(k:Nat):(jeb n k).length=17:=by
 unfold jeb;generalize n.refsL.take k=l
 suffices ∀ (l:List (Nat × vB)) (m:vM),(l.foldl (fun l x=>l.set x.1 x.2) m).length=m.length by rw[this];simp
 intro l;induction l with
 | nil=>intro m;rfl
 | cons x r ih=>intro m;rw[dM,ih];simp
theorem jlP(n:jad){k:Nat}(hk:k < n.refsL.length):jeb n (k+1)=(jeb n k).set (n.ri k) (n.rr k):=by
 unfold jeb;rw[cX hk,dU];simp[jad.ri,jad.rr,bH,hk]
def jqA(k:Nat):vM:=List.replicate k (jao ⟨#[]⟩)++List.replicate (17 - k) ⟨#[]⟩
theorem jsg(k:Nat)(hk:k < 17):(jqA k).set k (jao ⟨#[]⟩)=jqA (k+1):=by
 unfold jqA;rw[fK _ _ (by simp),show k - (List.replicate k (jao ⟨#[]⟩)).length=0 by simp,show 17 - k=(17 - (k+1))+1 by omega,fI,dL,List.replicate_succ']
 simp
def jAL(w:vW)(gn gs gb:Nat)(n:jad)(i:vV)(wr:vW):Prop:=∃ k:Nat,k<=17/\i=.int .i64 k/\BrS w gn gs gb n (jqA k) wr
theorem jlR(w:vW)(n:jad)(hr:n.refs.length=16)(hv:n.value.size<=100000)(hc:(catB (jbP n)).size<=1000000000):vR 142 #[n.V] w (.string (jec n)):=by
 have HV:Hid (n.V=.agg n.cells.toArray):=rfl
 obtain⟨i0,hi,b9,c0,c2⟩:=info_parts Tryz.infoStr
 have a1:=jfv (P:=Tryz.prog) (w.alloc (.cells n.cells.toArray 172)) Tryz.uStrs hi b9 c0 rfl .i64 .i64 17 (by rw[c2];omega) (by unfold maxLen;omega)
 obtain⟨A,a2⟩:∃ g,g=w.heap.size+1:=⟨_,rfl⟩
 obtain⟨gb,a3⟩:∃ g,g=w.heap.size+2:=⟨_,rfl⟩
 rw[bT, <-a2]at a1
 obtain⟨W1,Z⟩:=vE ((w.alloc (.cells n.cells.toArray 172)).alloc (.cells (List.replicate 17 (Value.string ⟨#[]⟩)).toArray 9))
 rw[<-Z]at a1;have c6:(Instr.makeSlice 31 (.int .i64 17) (.int .i64 17)).run Tryz.prog (w.alloc (.cells n.cells.toArray 172))=.ok (.slice (some ⟨A,0,none⟩) 17 17) W1:=a1;clear a1;have a4:W1.heap.size=gb:=by rw[Z,a3];simp
 have S0:BrS w w.heap.size A gb n (jqA 0) (W1.alloc (.cells #[.slice (some ⟨A,0,none⟩) 17 17] 31)):=
  ⟨by rw[Z];exact (((ExtR w).alloc _).alloc _).alloc _,by rw[Z];exact ((Blk.new w _).alloc _).alloc _,by rw[<-a4];exact Blk.new W1 _,by
   rw[Z,a2]
   have:=(Blk.new (w.alloc (.cells n.cells.toArray 172)) (.cells (List.replicate 17 (Value.string ⟨#[]⟩)).toArray 9)).alloc (.cells #[.slice (some ⟨w.heap.size+1,0,none⟩) 17 17] 31)
   rw[bT]at this;exact this,rfl⟩
 obtain⟨gn,a5⟩:∃ g,g=w.heap.size:=⟨_,rfl⟩
 rw[<-a5]at S0;have n1:gn≠A:=vO
 have n2:gb≠A:=vO
 have n3:w.heap.size<=A:=vO
 have c3:=Hd S0;have HG:=Hd a5;have c7:=Hd a2;have c8:=Hd a3;have c4:=Hd a4;have N1:=Hd n1;have N2:=Hd n2;clear Z S0 a5 a2 a3 a4 n1 n2;unfold jad.V;refine (callsIn_wide (n:=0)).1 ?_;refine callsIn_of_wp_marks Tryz.func142 rfl trivial ?_ rfl;simp only[Tryz.ntmps142,dK,bF,cF,Nat.reduceAdd,Nat.reduceSub,dP,dO,fC,dY,cT,dA];gi_wp2_with fail
 rw[<-HG.o,c4.o];gi_loopw [10] (fun i wr=>jAL w gn A gb n i wr) (fun i _=>17 - (intOf i).toNat)
 case atStart=>exact⟨0,by omega,rfl,c3.o⟩
 case round =>
  obtain⟨k,hk,rfl,X⟩:=hrel
  have q3:=X.var.cell (i:=0) (v:=.slice (some ⟨A,0,none⟩) 17 17) vF;have H:=Hd X;clear X
  by_cases hlt:k < 17
  ·have b1:(k:Int) < 17:=vO
   gi_wp2_with fail
   refine wpIn_wide.2 (jay [0,1,2,3,4] [4] Ext ExtR ExtT vY vY vY ?_);refine qL ⟨gb,0,none⟩ _ rfl (fun w1 h1=>jab Tryz.uStrs rfl (jaa (by exact H.o.var.cell (i:=0) (v:=.slice (some ⟨A,0,none⟩) 17 17) vF) h1)) ?_;refine vS ?_
   refine vP ?_
   refine jdb _ 50 #[.string ⟨#[]⟩] (.string (jao ⟨#[]⟩)) rfl vY rfl (fun w1=>jat (vX 50) vY) (fun w1 h1=>jea w1 ⟨#[]⟩ vI) ?_;refine vS ?_
   refine vP ?_
   refine qH _ rfl (fun w1 he K hK=>?_);have J:=H.o.st ((jai wr).trans he)
   obtain⟨old,q1⟩:∃ v,w1.cell? ⟨A,k,none⟩=some v:=⟨_,J.row.cellL (bA (by rw[cC,J.len];exact hlt))⟩
   have q2:w1.frozen? ⟨A,k,none⟩=false:=J.row.frozen;have S2:=J.set n3 N1.o N2.o k (jao ⟨#[]⟩);rw[jsg k hlt]at S2;have a0:=Hd S2;clear J S2 he q3 H;go_simp;refine hK _ _ ?_;clear hK K q1 q2;refine qE (fun w2 he=>?_);have E:=Hd (a0.o.st he);clear he a0;gi_wp2;go_roundw
   case rel=>exact⟨k+1,by omega,by go_num,E.o⟩
   case measure=>exact vJ
  ·have a8:k=17:=vO
   subst a8;have hB:=H.o.node;have a6:=jb3 wr gn n hr hB;unfold jad.V at a6;clear hB;gi_wp2_with (refine jbx rfl 172 (.tmp 1) rfl _ _ rfl a6 ?_)
   refine⟨trivial,rfl,CallsIn.mono (callsIn_wide.2 (jpL _ n)) ?_⟩
   rintro e w1 ⟨rfl,a7,hE⟩;have J:=H.o.st hE
   obtain⟨O,Q⟩:∃ g,g=wr.heap.size:=⟨_,rfl⟩
   rw[<-Q]at a7 ⊢;have h1:gn < O:=by rw[Q];exact H.o.node.lt
   have h2:A < O:=by rw[Q];exact H.o.row.lt
   have h3:gb < O:=by rw[Q];exact H.o.var.lt
   have h4:=a7.lt;have a9:w.heap.size<=w1.heap.size:=J.ext.size;have b0:jqA 17=jeb n 0:=rfl;rw[b0]at J;clear a6 hE H q3 b0 Q;gi_wp2_with fail
   refine jeD (N:=n.refsL.length) (gf:=122) (lb:=#[.pointer (some ⟨O,0,none⟩)]) rfl (vX 122) (jld O n hr)
    (fun k=>rfl) (fun k W=>BrS w gn A gb n (jeb n k) W/\Blk W O (.cells n.cells.toArray 172)) (fun _ _ _=>False) (fun k W W' ⟨h1,h2⟩ e=>⟨h1.st e,h2.keeps e (fun h=>h)⟩) (fun _ _ _ _ h _=>h) (fun k W ⟨_,h⟩=>h)
    (fun k W o ⟨h5,h6⟩=>⟨h5.put _ a9 vO vO vO _,h6.put_other vO _⟩)
    (fun k W o ⟨h5,h6⟩=>⟨h5.put _ vO vO vO vO _,h6.put_other vO _⟩) (fun _ _ _ _ h=>h)
    ⟨J,a7⟩ (fun k=>{ tmps:=#[n.V,.pointer (some ⟨gn,0,none⟩),.string ⟨#[]⟩,.pointer (some ⟨gb,0,none⟩),u4,.int .i64 (n.ri k:Nat),.string (n.rr k),.slice (some ⟨A,0,none⟩) 17 17,.slice (some ⟨A,0,none⟩) 17 17,.int .i64 17,.int .i64 17,.bool false,u12,u13,u14,u15,u16,u17,n.V,.func (.func 122) #[] #[.pointer (some ⟨O,0,none⟩)],.int .i64 (n.ri k:Nat),.string (n.rr k),undef,undef,undef,undef,undef,undef,undef,undef,undef,undef,undef],defers:=[] })
    ?hassign ?hbody ?hdone ?hstop
   case hassign =>
    intro l j W K hK;rw[jwc,jsh];simp only[dL,dG];gi_wp2;exact hK
   case hbody =>
    intro l k W hk ⟨X,hB⟩ hlt2;have b2:=jv8 n hr hk;have q3:=X.var.cell (i:=0) (v:=.slice (some ⟨A,0,none⟩) 17 17) vF;have c9:=b2.1;have c1:(n.ri k:Int) < 17:=vO
    obtain⟨old,q1⟩:∃ v,W.cell? ⟨A,n.ri k,none⟩=some v:=⟨_,X.row.cellL (bA (by rw[cC,X.len];omega))⟩
    have q2:W.frozen? ⟨A,n.ri k,none⟩=false:=X.row.frozen;have H:=Hd X;have HB:=Hd hB;clear X hB b2 J;gi_wp2;have d0:=H.o.row.lt;have d1:=H.o.ext.size
    exact⟨(jae.refl _ W).setCell (.inl ⟨by show A≠_;omega,by show A≠_;omega⟩) _,by rw[jlP n hk];exact H.o.set n3 N1.o N2.o _ _,HB.o.set_other (p:=⟨A,n.ri k,none⟩) (by show O≠A;omega) _⟩
   case hdone =>
    intro W ⟨X,hB⟩ hd;have q3:=X.var.cell (i:=0) (v:=.slice (some ⟨A,0,none⟩) 17 17) vF;have H:=Hd X;have HD:=Hd hd;clear X hB hd J;gi_wp2_with fail
    refine wpIn_wide.2 (jay [0,1,2,3,4,5] [5] Ext ExtR ExtT vY vY vY ?_);refine qL ⟨gb,0,none⟩ _ rfl (fun w1 h1=>jab Tryz.uStrs rfl (jaa (by exact H.o.var.cell (i:=0) (v:=.slice (some ⟨A,0,none⟩) 17 17) vF) h1)) ?_;refine vS ?_
    refine vP ?_
    refine qL ⟨gn,2,none⟩ (.string n.value) rfl (fun w1 h1=>jab Tryz.uStr rfl (jaa (by exact H.o.node.cellL vF) h1)) ?_;refine vS ?_;refine jdb _ 50 #[.string n.value] (.string (jao n.value)) rfl vY rfl (fun w1=>jat (vX 50) vY) (fun w1 h1=>jea w1 n.value vO) ?_;refine vS ?_
    refine vP ?_
    refine qH _ rfl (fun w2 he K hK=>?_);have J:=H.o.st ((jai W).trans he);have b3:=HD.o.keeps ((jai W).trans he) (fun h=>h)
    obtain⟨old,q1⟩:∃ v,w2.cell? ⟨A,16,none⟩=some v:=⟨_,J.row.cellL (bA (by rw[cC,J.len];omega))⟩
    have q2:w2.frozen? ⟨A,16,none⟩=false:=J.row.frozen;have S2:=J.set n3 N1.o N2.o 16 (jao n.value);have b4:=b3.set_other (p:=⟨A,16,none⟩) (by show w1.heap.size≠A;omega) (.string (jao n.value));have a0:=Hd S2;have b5:=Hd b4;clear J S2 he q3 H HD b3 b4;go_simp;refine hK _ _ ?_;clear hK K q1 q2;refine qE (fun w3 he=>?_);have E:=Hd (a0.o.st he);have b6:=Hd (b5.o.keeps he (fun h=>h));have q3:=E.o.var.cell (i:=0) (v:=.slice (some ⟨A,0,none⟩) 17 17) vF;clear he a0 b5;gi_wp2_with fail
    have b7:RdS w3 (.slice (some ⟨A,0,none⟩) 17 17) (jbP n):=by
     have hl:(jbP n).length=17:=E.o.len;exact .inr ⟨A,0,17,by rw[hl],E.o.row.lt,by omega,fun j x hx=>by rw[cH];exact E.o.row.cellL (by rw[bX];show ((jbP n)[j]?).map _=_;rw[hx];rfl)⟩
    refine⟨trivial,rfl,CallsIn.mono (callsIn_wide.2 (jsL w3 _ (jbP n) b7 hc (by have:(jbP n).length=17:=E.o.len;omega))) ?_⟩
    rintro e w4 ⟨rfl,hE⟩;have b8:=b6.o.keeps hE (fun h=>h);have HE:=Hd (E.o.ext.trans hE);have c5:=Hd b8;clear hE b8 E b6 b7 q3;gi_wp2_with fail
    refine⟨by simp,.inl ⟨_,_,rfl,run_takeDeferred c5.o,?_⟩⟩
    refine⟨_,results_tmp rfl _ _ _,?_⟩
    exact⟨rfl,HE.o.putObj (.inr a9) _⟩
   case hstop=>intro c k W _ _ h;exact h.elim
def jgk(x:vB):Prop:=∀ y:vB,(x++y).size<=1000000000->∃ r,cutN (x++y)=some r/\r.2.1+r.2.2=x.size
theorem jxs(x:vB)(xs:vM):catB (x :: xs)=x++catB xs:=by
 apply ByteArray.ext;apply Array.ext';simp[catB,cZ]
theorem jl7(x y:vB):(x++y).extract 0 x.size=x:=ByteArray.extract_append_eq_left rfl
theorem jiB(x y:vB):(x++y).extract x.size (x++y).size=y:=ByteArray.extract_append_eq_right rfl (by rw[bV])
theorem jkC{s:vB}{r:Bool × Nat × Nat}(h:cutN s=some r):0 < s.size/\0 < r.2.1+r.2.2:=by
 unfold cutN at h
 by_cases h0:0 < s.size
 ·refine⟨h0,?_⟩
  rw[dif_pos h0]at h;simp only at h
  by_cases h1:s[0].toNat < 128
  ·rw[if_pos h1]at h
   obtain rfl:=bO h;simp
  ·rw[if_neg h1]at h
   obtain⟨o,e⟩:∃ o:Bool × Nat,o=if s[0].toNat < 192 then (false,s[0].toNat - 128)else (true,s[0].toNat - 192):=⟨_,rfl⟩
   rw[<-e]at h;clear e
   obtain⟨l,m⟩:=o
   simp only at h
   by_cases h3:m<=55
   ·rw[if_pos h3]at h
    split at h
    ·obtain rfl:=bO h;simp only;omega
    ·cases h
   ·rw[if_neg h3]at h
    split at h
    ·split at h
     ·obtain rfl:=bO h;simp only;omega
     ·cases h
    ·cases h
 ·rw[dif_neg h0]at h;cases h
theorem ju7{xs:vM}{k:Nat}(h:k < xs.length):catB (xs.drop k)=xs[k]++catB (xs.drop (k+1)):=by
 rw[fZ h,jxs]
def jBJ:vV->Nat | .string b=>b.size | _=>0
def jw0(W:vW)(xs:vM)(C:Nat->vW->Prop)(v:vV)(wr:vW):Prop:=∃ k:Nat,k<=xs.length/\v=.string (catB (xs.drop k))/\C k wr
theorem jxB(b:Nat)(xs:vM)(hx:∀ x∈xs,jgk x)(hs:(catB xs).size<=1000000000):jur Tryz.prog 178 #[.pointer (some ⟨b,0,none⟩)] xs.length (fun k=>#[.string (xs.getD k ⟨#[]⟩),.nilIface]) (fun W=>Blk W b (.cells #[.string (catB xs)] 9)):=by
 intro l C Cx hC a0 hS W hY h0;have hB:=(hS 0 W h0).cell (i:=0) (v:=.string (catB xs)) vF;have HY:=Hd hY;have H0:=Hd h0;have a7:=Hd hs;clear hY h0 hS hs;refine callsIn_of_wp Tryz.func178 rfl trivial ?_ rfl;simp only[Tryz.ntmps178,dK,bF,cF,Nat.reduceAdd,Nat.reduceSub,dP,dO,fC,dY,cT,dA];gi_wp2;have a8:=Hd hC;have b7:=Hd a0;clear hC a0;gi_loopw [3] (fun v wr=>jw0 W xs C v wr) (fun v _=>jBJ v)
 case atStart=>exact⟨0,by omega,rfl,H0.o⟩
 case round =>
  obtain⟨k,hk,rfl,a1⟩:=hrel
  have a2:=Hd a1;clear a1
  by_cases hlt:k < xs.length
  ·obtain⟨x,E⟩:=vE (xs[k])
   have A:=ju7 hlt;rw[<-E]at A
   obtain⟨y,hy⟩:=vE (catB (xs.drop (k+1)))
   rw[<-hy]at A;have H:(x++y).size<=1000000000:=by
    have h1:(catB (xs.drop k)).size<=(catB xs).size:=by
     have h2:(catB xs).size=(catB (xs.take k)).size+(catB (xs.drop k)).size:=by
      conv=>lhs;rw[<-cV k xs]
      simp only[catB,ByteArray.size,cB,List.flatten_append,dK,bC]
     omega
    rw[A]at h1;have:=a7.o;omega
   obtain⟨r,K,O⟩:=hx x (E ▸ dD hlt) y H
   obtain⟨z,Z⟩:=vE (x++y)
   have a3:z.size=x.size+y.size:=by rw[Z,bV]
   rw[<-Z]at A H K;rw[A];have J:=jkC K;have b8:=jbe J.1;have a4:z.extract (r.2.1+r.2.2) z.size=y:=by
    rw[O,Z];exact jiB x y
   have b9:z.extract 0 x.size=x:=by
    rw[Z];exact jl7 x y
   have a5:xs.getD k ⟨#[]⟩=x:=by rw[bH,bA hlt, <-E];rfl
   have a9:=Hd a5;have HX:=Hd E;have b0:=Hd H;have b2:=Hd hy;have HZ:=Hd Z;have Q:=Hd a3;have HP:=Hd J;have b3:=Hd O;clear E A hy Z a5 J O a3;gi_wp2_with fail
   refine⟨trivial,rfl,CallsIn.mono (callsIn_wide.2 (jzC wr z r H K)) ?_⟩
   rintro e w1 ⟨rfl,hE⟩;unfold jdK;rw[a4]
   obtain⟨u,hu⟩:=vE (z.extract r.2.1 (r.2.1+r.2.2))
   rw[<-hu]
   obtain⟨b1,o,ln⟩:=r
   simp only;clear K a4 hu H
   obtain⟨fn,tm,c0,bd,b4,a6⟩:=HY.o k w1 hlt (a8.o k _ _ a2.o hE)
   simp only[a9.o]at b4;have b5:=Hd a6;clear hE a6;have c1:(z.size:Int) - (y.size:Int)=(x.size:Int):=by have:=Q.o;omega
   have c2:(x.size:Int)<=(z.size:Int):=by have:=Q.o;omega
   have c3:z.size<=1000000000:=b0.o;gi_wp2
   refine⟨rfl,(b5.o.mono ?_)⟩
   rintro e w5 (⟨rfl,C5⟩ |⟨rfl,C5⟩)
   ·have X:=Hd C5
    clear C5;gi_wp2;go_roundw
    case rel=>exact⟨k+1,by omega,by rw[<-b2.o],X.o⟩
    case measure=>show y.size < z.size;have:=(show 0 < o+ln from HP.o.2);have:=Q.o;have:=(show o+ln=x.size from b3.o);omega
   ·have X:=Hd C5
    clear C5;gi_wp2;refine bodyPost_ret (results_none rfl _ _ _) rfl ?_
    exact⟨⟨_,rfl⟩,.inr ⟨k+1,by omega,by omega,X.o⟩⟩
  ·have b6:k=xs.length:=vO
   subst b6;have hd:catB (xs.drop xs.length)=⟨#[]⟩:=by rw[gK];rfl
   rw[hd];gi_wp2;refine bodyPost_end (results_none rfl _ _ _) rfl ?_
   exact⟨⟨_,rfl⟩,.inl a2.o⟩
theorem jzL(w:vW)(s:vB):vQ 164 #[.string s] w fun e w'=>e=.returned (.func (.func 178) #[] #[.pointer (some ⟨w.heap.size,0,none⟩)])/\Blk w' w.heap.size (.cells #[.string s] 9)/\Ext w w':=by
 unfold vQ;go_in;go_wp2_with fail
 go_ret
 exact⟨rfl,Blk.new w _,(ExtR w).alloc _⟩
theorem Tryz.sStrs:jdv Tryz.prog 31 9 1 16:=jdv.mk' vY (show (Tryz.prog.info? 9).map (fun i=>(i.zero,i.size,i.bytes))=some (some (.string ⟨#[]⟩),1,16) by kernel_rfl) rfl vI
structure ItS(w:World)(g m:Nat)(xs:vM)(k:Nat)(W:World):Prop where
 ext:Ext w W
 b2:Blk W g (.cells #[.slice none 0 0] 31)
 b3:Blk W (g+1) (.cells #[.int .i64 0] 28)
 bc:Blk W (g+3) (.cells #[.string (catB xs)] 9)
 row:∃ v,Blk W (g+2) (.cells #[v] 31)/\W.ownsRow 0 9 1 v k ((xs.take k).map Value.string)/\∀ b,v.ownBlock=some b->m+2<=b
theorem ItS.st{w:vW}{g m:Nat}{xs:vM}{k:Nat}{W W':vW}(h:ItS w g m xs k W)(e:Ext W W'):ItS w g m xs k W':=
 let ⟨v,h1,h2,h3⟩:=h.row
 ⟨h.ext.trans e,h.b2.keeps e (fun h=>h),h.b3.keeps e (fun h=>h),h.bc.keeps e (fun h=>h),v,h1.keeps e (fun h=>h),jbq h2 e,h3⟩
theorem ItS.put{w:vW}{g m:Nat}{xs:vM}{k:Nat}{W:vW}(h:ItS w g m xs k W){r:Nat}(hr:w.heap.size<=r)(h1:g+3 < r)(h2:r < m+2)(o:Obj):ItS w g m xs k (W.putObj r o):=
 let ⟨v,h3,h4,h5⟩:=h.row
 ⟨h.ext.putObj (.inr hr) _,h.b2.put_other vO _,h.b3.put_other vO _,h.bc.put_other vO _,v,h3.put_other vO _,
  ja8 h4 (jae.onePut W r o) (fun b hb e=>by have:=h5 b hb;omega),h5⟩
theorem jsA(w:vW)(xs:vM)(hx:∀ x∈xs,jgk x)(hs:(catB xs).size<=1000000000)(hn:xs.length<=1000000):vQ 144 #[.string (catB xs)] w fun e w'=>∃ v,e=.returned (.tuple #[v,.int .i64 0])/\SRow w w' v xs.length xs:=by
 obtain⟨i0,hi,a7,a8,a9⟩:=info_parts Tryz.infoStr
 refine (callsIn_wide (n:=0)).1 ?_;refine callsIn_of_wp_marks Tryz.func144 rfl trivial ?_ rfl;simp only[Tryz.ntmps144,dK,bF,cF,Nat.reduceAdd,Nat.reduceSub,dP,dO,fC,dY,cT,dA];gi_wp2_with fail
 obtain⟨Z,A⟩:=vE (((w.alloc (.cells #[.slice none 0 0] 31)).alloc (.cells #[.int .i64 0] 28)).alloc (.cells #[.slice none 0 0] 31))
 rw[<-A];have a2:Z.heap.size=w.heap.size+3:=by rw[A];simp
 have E0:Ext w Z:=by rw[A];exact ((((ExtR w).alloc _).alloc _).alloc _)
 have B2:Blk Z w.heap.size (.cells #[.slice none 0 0] 31):=by rw[A];exact ((Blk.new w _).alloc _).alloc _
 have B3:Blk Z (w.heap.size+1) (.cells #[.int .i64 0] 28):=by
  rw[A];have:=(Blk.new (w.alloc (.cells #[.slice none 0 0] 31)) (.cells #[.int .i64 0] 28)).alloc (.cells #[.slice none 0 0] 31);rwa [bT]at this
 have B4:Blk Z (w.heap.size+2) (.cells #[.slice none 0 0] 31):=by
  rw[A];have:=(Blk.new ((w.alloc (.cells #[.slice none 0 0] 31)).alloc (.cells #[.int .i64 0] 28)) (.cells #[.slice none 0 0] 31));rwa [bT,bT]at this
 clear A
 refine⟨trivial,rfl,CallsIn.mono (callsIn_wide.2 (jzL Z (catB xs))) ?_⟩
 rintro e w1 ⟨rfl,Q,hE⟩;rw[a2]at Q ⊢;have S0:ItS w w.heap.size w1.heap.size xs 0 w1:=⟨E0.trans hE,B2.keeps hE (fun h=>h),B3.keeps hE (fun h=>h),Q,_,B4.keeps hE (fun h=>h),fV _ _ _ _,fun b hb=>by cases hb⟩;have b7:=Q.lt;have b0:=Hd S0;clear a2 E0 B2 B3 B4 Q hE S0 Z;gi_wp2_with fail
 refine jeD (N:=xs.length) (gf:=178) (lb:=#[.pointer (some ⟨w.heap.size+3,0,none⟩)]) rfl (vX 178) (jxB (w.heap.size+3) xs hx hs)
  (fun k=>rfl) (ItS w w.heap.size w1.heap.size xs) (fun _ _ _=>False) (fun k W W' h e=>h.st e) (fun _ _ _ _ h _=>h) (fun k W h=>h.bc)
  (fun k W o h=>h.put vO vO vO _)
  (fun k W o h=>h.put vO vO vO _) (fun _ _ _ _ h=>h)
  b0.o (fun k=>{ tmps:=#[.string (catB xs),undef,.pointer (some ⟨w.heap.size,0,none⟩),.pointer (some ⟨w.heap.size+1,0,none⟩),.pointer (some ⟨w.heap.size+1+1,0,none⟩),.string (xs.getD k ⟨#[]⟩),.nilIface,undef,undef,.string (catB xs),.func (.func 178) #[] #[.pointer (some ⟨w.heap.size+3,0,none⟩)],.string (xs.getD k ⟨#[]⟩),.nilIface,undef,undef,undef,undef,undef,undef,undef,undef,undef,undef,undef,undef,undef],defers:=[] })
  ?hassign ?hbody ?hdone ?hstop
 case hassign =>
  intro l j W K hK;rw[jsh];simp only[dL,dG];gi_wp2;exact hK
 case hbody =>
  intro l k W hk J b8
  obtain⟨v,h1,h2,h3⟩:=J.row
  obtain⟨E,H,rfl⟩:=jaU h2
  obtain⟨x,a0⟩:=vE (xs.getD k ⟨#[]⟩)
  rw[<-a0];have q4:W.cell? ⟨w.heap.size+1+1,0,none⟩=some (.slice E k H):=h1.cell (i:=0) vF;have f4:W.frozen? ⟨w.heap.size+1+1,0,none⟩=false:=h1.frozen;have X:=Hd J;have H1:=Hd h1;have H2:=Hd h2;have H3:=Hd h3;have b1:=Hd a0;clear J h1 h2 h3 a0;gi_wp2_with (gi_at_builtin;refine jb5 _ rfl (.tmp 21) (.tmp 23) 31 rfl 9 i0 _ 1 16 Tryz.uStrs hi a7 a8 a9 rfl vI (.slice E k H) k _ rfl (jbq H2.o ((ExtR W).alloc _)) ⟨W.heap.size,0,none⟩ 1 1 [.string x] rfl rfl (jaJ (Blk.new W _)) (by simp[Value.oneCell']) (by unfold maxLen;omega) vO ?_)
  intro v' w6 r1 r2 r3;have K6:jae (fun b=>(Value.slice E k H).ownBlock=some b) W w6:=((jae.refl _ W).alloc _).trans r2;have e1:((xs.take k).map Value.string++[.string x])=(xs.take (k+1)).map Value.string:=by
   rw[cX hk,cB,b1.o];simp[bH,hk]
  have r1:w6.ownsRow 0 9 1 v' (k+1) ((xs.take (k+1)).map Value.string):=by rw[<-e1,jJ];exact r1
  have b5:=X.o.b2.lt;have b6:=H1.o.lt;have b9:w.heap.size<=w1.heap.size:=vO
  have nb:∀ b,b < w1.heap.size+2->¬(Value.slice E k H).ownBlock=some b:=fun b hb e=>by have:=H3.o b e;omega
  obtain⟨a3,a4,rfl⟩:=jaU r1
  have a5:∀ b,(Value.slice a3 (k+1) a4).ownBlock=some b->w1.heap.size+2<=b:=fun b hb=>by
   rcases r3 with r3 | r3
   ·exact H3.o b (r3 ▸ hb)
   ·have:=r3 b hb;omega
  have B4:=H1.o.keeps K6 (nb _ vO);have c0:w6.cell? ⟨w.heap.size+1+1,0,none⟩=some (.slice E k H):=B4.cell (i:=0) vF;have c1:w6.frozen? ⟨w.heap.size+1+1,0,none⟩=false:=B4.frozen;have O:=Hd K6;have b4:=Hd B4;have R1:=Hd r1;have a6:=Hd a5;have NB:=Hd nb;clear K6 r1 r2 r3 e1 a5 B4 nb q4 f4;gi_wp2;have k7:jae (fun b=>b=w.heap.size+1+1) w6 (w6.setCell ⟨w.heap.size+1+1,0,none⟩ (.slice a3 (k+1) a4)):=jae.oneSet w6 ⟨w.heap.size+1+1,0,none⟩ _
  refine⟨(O.o.mono (fun x _ e=>?_)).trans' k7 (fun x _ e=>?_),?_⟩
  ·have:=H3.o x e;show x≠_/\x≠_;omega
  ·have e:x=_:=e;show x≠_/\x≠_;omega
  ·refine⟨(X.o.ext.trans' O.o (fun x hx e=>by have:=H3.o x e;omega)).trans' k7 (fun x hx e=>by have e:x=_:=e;omega),
    (X.o.b2.keeps O.o (NB.o _ vO)).keeps k7 (fun e=>by omega),(X.o.b3.keeps O.o (NB.o _ vO)).keeps k7 (fun e=>by omega),(X.o.bc.keeps O.o (NB.o _ vO)).keeps k7 (fun e=>by omega),
    _,b4.o.set_same (i:=0) _,ja8 R1.o k7 (fun b hb e=>by have:=a6.o b hb;omega),a6.o⟩
 case hdone =>
  intro W J hd
  obtain⟨v,h1,h2,h3⟩:=J.row
  obtain⟨E,H,rfl⟩:=jaU h2
  have q4:W.cell? ⟨w.heap.size+1+1,0,none⟩=some (.slice E xs.length H):=h1.cell (i:=0) vF;have q2:=J.b2.cell (i:=0) (v:=.slice none 0 0) vF;have f2:W.frozen? ⟨w.heap.size,0,none⟩=false:=J.b2.frozen;have q3:=J.b3.cell (i:=0) (v:=.int .i64 0) vF;have f3:W.frozen? ⟨w.heap.size+1,0,none⟩=false:=J.b3.frozen;have X:=Hd J;have H2:=Hd h2;have H3:=Hd h3;have HD:=Hd hd;clear J h1 h2 h3 hd;gi_wp2
  obtain⟨W3,a1⟩:=vE ((W.setCell ⟨w.heap.size,0,none⟩ (.slice E xs.length H)).setCell ⟨w.heap.size+1,0,none⟩ (.int .i64 0))
  rw[<-a1];have B2:=(X.o.b2.set_same (i:=0) (.slice E xs.length H)).set_other (p:=⟨w.heap.size+1,0,none⟩) (by show w.heap.size≠w.heap.size+1;omega) (.int .i64 0);have B3:=(X.o.b3.set_other (p:=⟨w.heap.size,0,none⟩) (by show w.heap.size+1≠w.heap.size;omega) (.slice E xs.length H)).set_same (i:=0) (.int .i64 0);have BD:=(HD.o.set_other (p:=⟨w.heap.size,0,none⟩) (by show w1.heap.size≠w.heap.size;omega) (.slice E xs.length H)).set_other (p:=⟨w.heap.size+1,0,none⟩) (by show w1.heap.size≠w.heap.size+1;omega) (.int .i64 0);rw[<-a1]at B2 B3 BD;have K1:=(jae.oneSet W ⟨w.heap.size,0,none⟩ (.slice E xs.length H));have K3:jae (fun b=>b=w.heap.size\/b=w.heap.size+1\/b=w1.heap.size) W (W3.putObj w1.heap.size (.deferred none)):=by
   rw[a1];exact (((jae.refl _ W).setCell (.inl (.inl rfl)) _).setCell (.inl (.inr (.inl rfl))) _).putObj (.inl (.inr (.inr rfl))) _
  have c2:(W3.putObj w1.heap.size (.deferred none)).cell? ⟨w.heap.size,0,none⟩=some (.slice E xs.length H):=(B2.put_other vO _).cell (i:=0) (by simp);have c3:(W3.putObj w1.heap.size (.deferred none)).cell? ⟨w.heap.size+1,0,none⟩=some (.int .i64 0):=(B3.put_other vO _).cell (i:=0) (by simp)
  refine⟨by simp,.inl ⟨_,_,rfl,run_takeDeferred BD,?_⟩⟩
  refine⟨.tuple #[.slice E xs.length H,.int .i64 0],by simp[results,Tryz.results144,go_sem,c2,c3],?_⟩
  refine⟨_,rfl,⟨_,_,rfl⟩,?_,X.o.ext.trans' K3 (fun x hx e=>by omega),fun b hb=>by have:=H3.o b hb;omega⟩
  have h5:=ja8 H2.o K3 (fun b hb e=>by have:=H3.o b hb;omega)
  rwa [cL]at h5
 case hstop=>intro c k W _ _ h;exact h.elim
end
theorem jsF:∀ (f n:Nat),n < 256 ^ f->beN (leF f n).reverse=n
 | 0,n,h=>by simp at h;subst h;rfl
 | f+1,n,h=>by
  unfold leF
  by_cases h0:n=0
  ·rw[if_pos h0,h0];rfl
  ·rw[if_neg h0,gR,jkr,jsF f (n / 256) (by rw[Nat.pow_succ]at h;omega)]
   have:(UInt8.ofNat n).toNat=n % 256:=rfl
   omega
theorem jpl:∀ (f n:Nat),n < 256 ^ f->0 < n->∃ x l,(leF f n).reverse=x :: l/\x≠0
 | 0,n,h,h0=>by simp at h;omega
 | f+1,n,h,h0=>by
  unfold leF;rw[if_neg vO,gR]
  by_cases h1:n / 256=0
  ·have:leF f (n / 256)=[]:=by rw[h1];cases f <;> simp[leF]
   rw[this]
   refine⟨_,_,rfl,fun e=>?_⟩
   have E:(UInt8.ofNat n).toNat=(0:vU).toNat:=by rw[e]
   have:(UInt8.ofNat n).toNat=n % 256:=rfl
   have o:(0:vU).toNat=0:=rfl;omega
  ·obtain⟨x,l,A,o⟩:=jpl f (n / 256) (by rw[Nat.pow_succ]at h;omega) vO
   exact⟨x,l++[UInt8.ofNat n],by rw[A];rfl,o⟩
theorem jgu(a:vU)(t:vN):cutN ⟨(a :: t).toArray⟩ =
  (if a.toNat < 128 then some (false,0,1)else
   if (if a.toNat < 192 then a.toNat - 128 else a.toNat - 192)<=55 then
    if 1+(if a.toNat < 192 then a.toNat - 128 else a.toNat - 192)<=t.length+1/\(decide (192<=a.toNat)=true\/(if a.toNat < 192 then a.toNat - 128 else a.toNat - 192)≠1\/128<=((a :: t).getD 1 0).toNat)then some (decide (192<=a.toNat),1,(if a.toNat < 192 then a.toNat - 128 else a.toNat - 192))else none
   else match lenB ⟨(a :: t).toArray⟩ (1+((if a.toNat < 192 then a.toNat - 128 else a.toNat - 192) - 55))with
    | some n=>if 1+((if a.toNat < 192 then a.toNat - 128 else a.toNat - 192) - 55)+n<=t.length+1 then some (decide (192<=a.toNat),1+((if a.toNat < 192 then a.toNat - 128 else a.toNat - 192) - 55),n)else none
    | none=>none):=by
 have e:(⟨(a :: t).toArray⟩:vB).size=t.length+1:=rfl;have o:0 < (⟨(a :: t).toArray⟩:vB).size:=by rw[e];omega
 have A:(⟨(a :: t).toArray⟩:vB)[0]'o=a:=rfl;unfold cutN;rw[dif_pos o];simp only[A,e]
 by_cases h1:a.toNat < 128
 ·rw[if_pos h1,if_pos h1]
 ·rw[if_neg h1,if_neg h1]
  by_cases h2:a.toNat < 192
  ·simp only[if_pos h2,show decide (192<=a.toNat)=false by simp;omega];rfl
  ·simp only[if_neg h2,show decide (192<=a.toNat)=true by simp;omega];rfl
def hb(l:Bool):vU:=if l then 192 else 128
theorem jwX(a b:vU)(h:a.toNat+b.toNat < 256):(a+b).toNat=a.toNat+b.toNat:=by rw[iY];omega
theorem jox(n:Nat)(h:n < 256):(UInt8.ofNat n).toNat=n:=by show n % 256=n;omega
theorem jwL(l:Bool):(hb l).toNat=if l then 192 else 128:=by cases l <;> rfl
theorem juW(l:Bool)(b y:vN)(hn:b.length<=1048576)(h1:l=false->b.length=1->128<=(b.headD 0).toNat) :
  cutN ⟨((jb9 (hb l) b.length).data.toList++(b++y)).toArray⟩=some (l,(jb9 (hb l) b.length).size,b.length):=by
 by_cases hs:b.length<=55
 ·have Q:(jb9 (hb l) b.length)=⟨#[hb l+UInt8.ofNat b.length]⟩:=by unfold jb9;rw[if_pos hs]
  rw[Q];have o:(hb l+UInt8.ofNat b.length).toNat=(if l then 192 else 128)+b.length:=by
   rw[jwX _ _ (by rw[jwL,jox _ vO];split <;> omega),jwL,jox _ vO]
  have X:(⟨#[hb l+UInt8.ofNat b.length]⟩:vB).size=1:=rfl;rw[X]
  obtain⟨a,e⟩:=vE (hb l+UInt8.ofNat b.length)
  rw[<-e]at o ⊢;have Z:(if a.toNat < 192 then a.toNat - 128 else a.toNat - 192)=b.length:=by
   rw[o];cases l <;> simp only[cR,if_false,if_true]
   ·rw[if_pos vO];omega
   ·rw[if_neg vO];omega
  have A:decide (192<=a.toNat)=l:=by
   rw[o];cases l <;> simp <;> omega
  show cutN ⟨(a ::(b++y)).toArray⟩=_;rw[jgu,Z,A,if_neg (by rw[o];split <;> omega),if_pos hs,if_pos]
  refine⟨by rw[bC];omega,?_⟩
  cases l with
  | true=>exact .inl rfl
  | false =>
   refine .inr ?_
   by_cases h2:b.length=1
   ·refine .inr ?_
    have:=h1 rfl h2
    match b,h2 with
    | [x],_=>simpa using this
   ·exact .inl h2
 ·obtain⟨d,O⟩:=vE (leF 8 b.length).reverse
  have hp:b.length < 256 ^ 8:=vO
  have a5:d.length<=8:=by rw[O,fJ];exact jhp _ _
  have a0:beN d=b.length:=by rw[O];exact jsF _ _ hp
  obtain⟨x,r,E,a1⟩:=jpl 8 b.length hp vO
  rw[<-O]at E;have H:jcY b.length=⟨d.toArray⟩:=by unfold jcY;rw[O]
  have a2:(⟨d.toArray⟩:vB).size=d.length:=rfl;have Q:(jb9 (hb l) b.length)=⟨#[hb l+55+UInt8.ofNat d.length]⟩++⟨d.toArray⟩:=by unfold jb9;rw[if_neg hs,H,a2]
  have J:(jb9 (hb l) b.length).data.toList=(hb l+55+UInt8.ofNat d.length) :: d:=by
   rw[Q,cZ];simp
  have a3:(jb9 (hb l) b.length).size=1+d.length:=by
   show (jb9 (hb l) b.length).data.toList.length=_;rw[J,bF];omega
  rw[J,a3];have K:(hb l+55:vU).toNat=(if l then 192 else 128)+55:=by cases l <;> rfl
  have o:(hb l+55+UInt8.ofNat d.length).toNat=(if l then 192 else 128)+55+d.length:=by
   rw[jwX _ _ (by rw[K,jox _ vO];split <;> omega),K,jox _ vO]
  obtain⟨a,e⟩:=vE (hb l+55+UInt8.ofNat d.length)
  rw[<-e]at o ⊢;have a6:1<=d.length:=by rw[E];simp
  have Z:(if a.toNat < 192 then a.toNat - 128 else a.toNat - 192)=55+d.length:=by
   rw[o];cases l <;> simp only[cR,if_false,if_true]
   ·rw[if_pos vO];omega
   ·rw[if_neg vO];omega
  have A:decide (192<=a.toNat)=l:=by
   rw[o];cases l <;> simp <;> omega
  have a4:lenB ⟨(a ::(d++(b++y))).toArray⟩ (1+d.length)=some b.length:=by
   have e1:((⟨(a ::(d++(b++y))).toArray⟩:vB).data.toList.take (1+d.length)).drop 1=d:=by
    show ((a ::(d++(b++y))).take (1+d.length)).drop 1=d;rw[gN,dV,iO,List.drop_zero,List.take_left]
   unfold lenB;rw[if_neg,e1,a0,if_pos ⟨by omega,hn⟩];rintro (h | h)
   ·have:(⟨(a ::(d++(b++y))).toArray⟩:vB).size=(d++(b++y)).length+1:=rfl
    rw[this,bC]at h;omega
   ·have:(⟨(a ::(d++(b++y))).toArray⟩:vB).data.toList.getD 1 0=x:=by rw[E];rfl
    rw[this]at h;exact a1 h
  show cutN ⟨(a ::(d++(b++y))).toArray⟩=_;rw[jgu,Z,A,if_neg (by rw[o];split <;> omega),if_neg vO,show 55+d.length - 55=d.length by omega,a4];simp only[bC];rw[if_pos vO]
theorem juC(s:vB):s=⟨s.data.toList.toArray⟩:=rfl
theorem jl0(l:Bool)(b y:vB)(hn:b.size<=1048576)(h1:l=false->b.size=1->128<=(b.data.toList.headD 0).toNat) :
  cutN (jb9 (hb l) b.size++b++y)=some (l,(jb9 (hb l) b.size).size,b.size):=by
 have h:=juW l b.data.toList y.data.toList hn h1;rw[juC (jb9 (hb l) b.size++b++y)];simp only[cZ,fX,cE];exact h
theorem jiE(h b y:vB):(h++b++y).extract h.size (h.size+b.size)=b:=by
 apply ByteArray.ext;apply Array.ext';rw[dB,fM,cZ,cZ,fX,fX,dZ,
  show h.size+b.size - h.size=b.data.toList.length by show _=b.size;omega,cE,show h.size=h.data.toList.length from rfl,fW,List.take_left]
theorem jip(b y:vB)(hn:b.size<=1048576):∃ o,cutN (jao b++y)=some (false,o,b.size)/\o+b.size=(jao b).size/\(jao b++y).extract o (o+b.size)=b:=by
 by_cases h:b.size=1/\b.data.toList.headD 255 < 128
 ·obtain⟨H,E⟩:=h
  obtain⟨⟨lb⟩⟩:=b
  have e:lb.length=1:=H
  match lb,e,E with
  | [x],_,E =>
   have J:x.toNat < 128:=dE.1 E;have A:jao ⟨#[x]⟩=⟨#[x]⟩:=by unfold jao;rw[if_pos ⟨rfl,E⟩]
   refine⟨0,?_,?_,?_⟩
   ·rw[show (⟨[x].toArray⟩:vB)=⟨#[x]⟩from rfl,A,juC (_++y),cZ,fX]
    show cutN ⟨(x :: y.data.toList).toArray⟩=_;rw[jgu,if_pos J];rfl
   ·rw[show (⟨[x].toArray⟩:vB)=⟨#[x]⟩from rfl,A];rfl
   ·rw[show (⟨[x].toArray⟩:vB)=⟨#[x]⟩from rfl,A,cH];exact jl7 _ _
 ·have A:jao b=jb9 (hb false) b.size++b:=by unfold jao;rw[if_neg h];rfl
  rw[A]
  refine⟨_,jl0 false b y hn (fun _ H=>?_),by rw[bV],jiE _ _ _⟩
  obtain⟨⟨lb⟩⟩:=b
  have e:lb.length=1:=H
  match lb,e,h with
  | [x],_,h =>
   have O:¬ x < 128:=fun K=>h ⟨rfl,K⟩;have Q:¬ x.toNat < (128:vU).toNat:=fun K=>O (dE.2 K);have X:(128:vU).toNat=128:=rfl;show 128<=x.toNat;omega
theorem jin(xs:vM)(y:vB)(hn:(catB xs).size<=1048576):∃ o,cutN (ja7 xs++y)=some (true,o,(catB xs).size)/\o+(catB xs).size=(ja7 xs).size/\(ja7 xs++y).extract o (o+(catB xs).size)=catB xs:=by
 have e:ja7 xs=jb9 (hb true) (catB xs).size++catB xs:=rfl;rw[e]
 exact⟨_,jl0 true _ y hn (fun h=>by cases h),by rw[bV],jiE _ _ _⟩
theorem jc4(b:vB)(hn:b.size<=1048576):jgk (jao b):=fun y _=>let ⟨o,h1,h2,_⟩:=jip b y hn;⟨_,h1,h2⟩
theorem jn3(xs:vM)(hn:(catB xs).size<=1048576):jgk (ja7 xs):=fun y _=>let ⟨o,h1,h2,_⟩:=jin xs y hn;⟨_,h1,h2⟩
theorem jrx(x:vB):x++⟨#[]⟩=x:=iE
theorem jl1(b:vB)(hn:b.size<=1048576):∃ o,cutN (jao b)=some (false,o,b.size)/\o+b.size=(jao b).size/\(jao b).extract o (o+b.size)=b:=by
 have:=jip b ⟨#[]⟩ hn;rwa [jrx]at this
theorem jfe(xs:vM)(hn:(catB xs).size<=1048576):∃ o,cutN (ja7 xs)=some (true,o,(catB xs).size)/\o+(catB xs).size=(ja7 xs).size/\(ja7 xs).extract o (o+(catB xs).size)=catB xs:=by
 have:=jin xs ⟨#[]⟩ hn;rwa [jrx]at this
theorem jey(b:vB)(hn:b.size<=1048576):∃ r,cutN (jao b)=some r/\jfq (jao b) r=some b:=by
 obtain⟨o,e,A,E⟩:=jl1 b hn
 exact⟨_,e,by unfold jfq;rw[if_pos ⟨rfl,A⟩,E]⟩
theorem jdT(b:vB)(hn:b.size=32):∃ r,cutN (jao b)=some r/\jfi (jao b) r=some b:=by
 obtain⟨r,e,o⟩:=jey b vO
 exact⟨r,e,by unfold jfi;rw[o];simp[Option.filter,hn]⟩
theorem jmi(xs:vM)(hn:(catB xs).size<=1048576):∃ r,cutN (ja7 xs)=some r/\jfi (ja7 xs) r=none:=by
 obtain⟨o,e,A,E⟩:=jfe xs hn
 exact⟨_,e,by unfold jfi jfq;rw[if_neg (by simp)];rfl⟩
section
attribute [local go_sem] Oper.semAt_some
theorem jaf{P:Program}{w:vW}{ops:Array Oper}{rest:List Oper}{o:Oper}{a:Act}{Q:Exit->Act->vW->Prop}(t:TypeId)(x:Operand)(ho:o.op=.load t x)(hw:Region.wanted o (yielded ops a.tmps)=true)(v:vV)(p:Addr)(hx:a.eval x=.pointer (some p))
  (hr:(Instr.loadAt t (.pointer (some p))).run P w=.ok v w) (h:wpList P ops Q rest (a.put o.dst v) w):wpList P ops Q (o :: rest) a w:=by
 unfold wpList;rw[if_pos hw];refine .inl (jcd (v:=v) (w':=w) ?_ h);simp only[execOp,ho,hx,cA,hr,Result.andThen,cO]
theorem jfu(W:vW)(n:jad)(hr:n.refs.length=16):(Instr.loadAt 172 (.pointer (some ⟨W.heap.size,0,none⟩))).run Tryz.prog (W.alloc (.cells n.cells.toArray 172))=.ok n.V (W.alloc (.cells n.cells.toArray 172)):=
 jb3 _ _ n hr (Blk.new W _)
theorem Tryz.isNode:jgB (Tryz.prog.underlying 103)=true:=vY
theorem Tryz.szNode:(Tryz.prog.info? 103).map (·.size)=some 19:=vY
theorem jaq(W:vW)(b:Nat)(n:jad)(hr:n.refs.length=16)(hB:Blk W b (.cells n.cells.toArray 103)):(Instr.loadAt 103 (.pointer (some ⟨b,0,none⟩))).run Tryz.prog W=.ok n.V W:=by
 obtain⟨A,e⟩:=jfS Tryz.isNode
 exact jd9 e (by rw[n.cells_len hr];exact Tryz.szNode) (fun j v o=>by rw[jhO];exact hB.cellL o)
theorem jz2(w:vW)(n:jad)(hr:n.refs.length=16)(hp:n.pathOk 0=true)(h0:0 < n.value.size)(h8:n.value.size<=80)(hb:n.behindN=0):vR 119 #[n.V] w (.bool true):=by
 have H:n.path.size<=1000000:=by
  have:n.pathOk 0=true:=hp
  simp only[jad.pathOk,cY,decide_eq_true_eq]at this;omega
 have A:=jfu w n hr;have Q:n.cells[2]?=some (.string n.value):=rfl;have X:=jbe h0;have c1:(n.value.size:Int)<=80:=vO
 have Z:=Hd hp;have HB:=Hd hb;have HH:=Hd h0;clear hp hb h0;unfold jad.V at A ⊢;unfold vR vQ;go_in;go_wp2_with (refine jaf 172 (.tmp 1) rfl rfl _ _ rfl A ?_)
 refine vC (jtf _ n hr 0 H) fun w1 E=>?_;rw[Z.o];have J:=(Blk.new w (.cells n.cells.toArray 172)).keeps E (fun h=>h);have q2:=J.cellL Q;have e:=jb3 w1 _ n hr J;have K:=Hd (((ExtR w).alloc _).trans E);unfold jad.V at e;clear A E J;go_wp2_with (refine jaf 172 (.tmp 1) rfl rfl _ _ rfl e ?_)
 refine vH (joH _ n hr) fun w2 E=>?_;rw[HB.o];have O:=Hd (K.o.trans E);clear e q2;go_wp2_with fail
 go_ret
 exact⟨rfl,O.o⟩
def jaH:jad:=⟨0,⟨#[]⟩,⟨#[]⟩,List.replicate 16 ⟨#[]⟩⟩
theorem jz6(w:vW):vR 118 #[jaH.V] w (.bool true):=by
 have e:=jfu w jaH rfl;have o:jaH.cells.toArray=#[.int .i64 0,.string ⟨#[]⟩,.string ⟨#[]⟩,.string ⟨#[]⟩,.string ⟨#[]⟩,.string ⟨#[]⟩,.string ⟨#[]⟩,.string ⟨#[]⟩,.string ⟨#[]⟩,.string ⟨#[]⟩,.string ⟨#[]⟩,.string ⟨#[]⟩,.string ⟨#[]⟩,.string ⟨#[]⟩,.string ⟨#[]⟩,.string ⟨#[]⟩,.string ⟨#[]⟩,.string ⟨#[]⟩,.string ⟨#[]⟩]:=rfl;unfold jad.V at e ⊢;rw[o]at e ⊢;have A:∀ w,(binOp .eql 172 (.agg #[.int .i64 0,.string ⟨#[]⟩,.string ⟨#[]⟩,.string ⟨#[]⟩,.string ⟨#[]⟩,.string ⟨#[]⟩,.string ⟨#[]⟩,.string ⟨#[]⟩,.string ⟨#[]⟩,.string ⟨#[]⟩,.string ⟨#[]⟩,.string ⟨#[]⟩,.string ⟨#[]⟩,.string ⟨#[]⟩,.string ⟨#[]⟩,.string ⟨#[]⟩,.string ⟨#[]⟩,.string ⟨#[]⟩,.string ⟨#[]⟩]) (.agg #[.int .i64 0,.string ⟨#[]⟩,.string ⟨#[]⟩,.string ⟨#[]⟩,.string ⟨#[]⟩,.string ⟨#[]⟩,.string ⟨#[]⟩,.string ⟨#[]⟩,.string ⟨#[]⟩,.string ⟨#[]⟩,.string ⟨#[]⟩,.string ⟨#[]⟩,.string ⟨#[]⟩,.string ⟨#[]⟩,.string ⟨#[]⟩,.string ⟨#[]⟩,.string ⟨#[]⟩,.string ⟨#[]⟩,.string ⟨#[]⟩])).run Tryz.prog w=.ok (.bool true) w:=fun w=>by kernel_rfl
 unfold vR vQ;go_in;go_wp2_with (refine jaf 172 (.tmp 1) rfl rfl _ _ rfl e ?_)
 go_ret
 exact⟨rfl,(ExtR w).alloc _⟩
end
