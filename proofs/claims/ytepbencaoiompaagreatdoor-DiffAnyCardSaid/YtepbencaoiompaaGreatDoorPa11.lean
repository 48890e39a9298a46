/- Lemmas; each is under no condition but those that it states. -/
import Derived.Test.YtepbencaoiompaaGreatDoorPa10
namespace Go.Proofs.YtepbencaoiompaaGreatDoor
set_option linter.unusedSimpArgs false
set_option linter.unusedVariables false
set_option maxRecDepth 100000
set_option maxHeartbeats 16000000
open Go Go.RowKit
theorem jaZ(b:vB):(jaz b).size<=b.size+9:=by
 unfold jaz;split
 ·omega
 ·rw[cC];have:=jez 128 b.size;omega
theorem jiV(s:vB):(jbC s).size=s.size / 2:=by
 show (jc7 s.data.toList).length=_;rw[jeD];rfl
theorem jcf(p:vB)(leaf:Bool):(putB p leaf).size<=p.size / 2+1:=by
 unfold putB;rw[jiV];show (jeg p leaf++p.data.toList).length / 2<=_;rw[bF,show p.data.toList.length=p.size from rfl];unfold jeg oddB
 by_cases h:p.size % 2=1
 ·simp[h];omega
 ·have:(p.size % 2 == 1)=false:=by simpa using h
  rw[this];simp
theorem jbI(x:vB)(xs:vM):(catB (x :: xs)).size=x.size+(catB xs).size:=by
 show ((x :: xs).map (·.data.toList)).flatten.length=x.data.toList.length+(xs.map (·.data.toList)).flatten.length;rw[bV,List.flatten_cons,bF]
theorem jed:(catB []).size=0:=rfl
theorem jbK(w:vW)(xs:vM)(T:TypeId):RdS (w.alloc (.cells (xs.map Value.string).toArray T)) (.slice (some ⟨w.heap.size,0,none⟩) xs.length xs.length) xs:=
 .inr ⟨w.heap.size,0,xs.length,rfl,by simp,bL _,fun j x e=>by rw[cR];exact (Blk.new w _).cellL (by rw[cA,e];rfl)⟩
def jmG(n:jad):vB:=jcm [jaz (putB n.path true),jaz n.value]
def extB(n:jad):vB:=jcm [jaz (putB n.path false),n.refs.getD 0 ⟨#[]⟩]
theorem jq0(w:vW)(n:jad)(hps:n.path.size<=900000)(hvs:n.value.size<=100000)(hv:jaC n.path=true):vR 114 #[n.V] w (.string (jmG n)):=by
 obtain⟨k,p,v,Q⟩:=n
 simp only at hps hvs hv;unfold jad.V;have e1:(jad.cells ⟨k,p,v,Q⟩)[1]?=some (.string p):=rfl;have e2:(jad.cells ⟨k,p,v,Q⟩)[2]?=some (.string v):=rfl;have A:=jcf p true;have E:=jaZ (putB p true);have X:=jaZ v;go_enter Tryz.func114,Tryz.ntmps114;go_wp2_with fail
 refine vC (jAS _ p true hps hv) fun w1 Z=>?_;have hB:=(Blk.new w _).keeps Z (fun h=>h);have H:=((ExtR w).alloc _).trans Z
 obtain⟨g,hg⟩:=vE w.heap.size
 rw[<-hg]at hB ⊢;have q2:=hB.cellL e2
 obtain⟨e,q⟩:=vE (putB p true)
 rw[<-q]at A E ⊢;have HL:=Hd (show jmG ⟨k,p,v,Q⟩=jcm [jaz e,jaz v] by unfold jmG;rw[q]);have J:=Hd H;have Q2:=Hd q2;have z:e.size<=1000000000:=vO
 have hc:(catB [jaz e,jaz v]).size<=1000000000:=by rw[jbI,jbI,jed];omega
 have HC:=Hd hc;have HP:=Hd z;have HV:=Hd hvs;clear e1 e2 A E X hB hg q Z H q2 z hc hps hv hvs;go_wp2_with fail
 refine jan [0,2,1,3,4,5,6,7] Ext ExtR ExtT vY vY vY ?_;iterate 2 refine vK ?_
 refine qKC _ 69 #[.string e] (.string (jaz e)) rfl (fun w1=>jaG (vX 69) vY) (fun w1 h1=>jcv w1 e HP.o) ?_;refine vS ?_;refine qKL ⟨g,2,none⟩ _ rfl (fun w2 h2=>jac Tryz.uStr rfl (jaa (by exact Q2.o) h2)) ?_;refine vS ?_;refine qKC _ 69 #[.string v] (.string (jaz v)) rfl (fun w1=>jaG (vX 69) vY) (fun w1 h1=>jcv w1 v (by have:=HV.o;omega)) ?_;refine vS ?_;refine jeC _ rfl vY rfl (fun w2 O K hK=>?_);have a0:=Hd (J.o.trans ((jaq w1).trans O));have HR:=Hd (jbK w2 [jaz e,jaz v] 9);clear O J Q2 HV HP;go_simp;refine hK _ _ ((ExtR w2).alloc _) ?_;clear hK K;refine qKC _ 140 _ (.string (jcm [jaz e,jaz v])) rfl (fun w1=>jaG (vX 140) vY) (fun w3 h3=>js8 w3 _ [jaz e,jaz v] (HR.o.ext (by exact h3)) HC.o (show 2<=1000000000 by decide)) ?_;refine vS ?_
 refine vK ?_
 refine qKE (fun w3 O=>?_);go_wp2_with fail
 go_ret
 exact⟨by rw[HL.o];rfl,(a0.o.alloc _).trans O⟩
theorem jsA(w:vW)(n:jad)(hps:n.path.size<=900000)(r:vB)(hr:n.refs=r :: n.refs.tail)(hvs:r.size<=100000)(hv:jaC n.path=true):vR 115 #[n.V] w (.string (extB n)):=by
 obtain⟨k,p,v,rs⟩:=n
 simp only at hps hvs hr hv;cases rs with
 | nil=>cases hr
 | cons r' rt =>
 simp only[List.tail_cons,List.cons.injEq,and_true]at hr;subst hr;unfold jad.V;have e1:(jad.cells ⟨k,p,v,r' :: rt⟩)[1]?=some (.string p):=rfl;have e2:(jad.cells ⟨k,p,v,r' :: rt⟩)[3]?=some (.string r'):=rfl;have A:=jcf p false;have E:=jaZ (putB p false);go_enter Tryz.func115,Tryz.ntmps115;go_wp2_with fail
 refine vC (jAS _ p false hps hv) fun w1 Q=>?_;have X:=(Blk.new w _).keeps Q (fun h=>h);have H:=((ExtR w).alloc _).trans Q
 obtain⟨g,hg⟩:=vE w.heap.size
 rw[<-hg]at X ⊢;have q2:=X.cellL e2
 obtain⟨e,q⟩:=vE (putB p false)
 rw[<-q]at A E ⊢;have HL:=Hd (show extB ⟨k,p,v,r' :: rt⟩=jcm [jaz e,r'] by unfold extB;rw[q];rfl);have J:=Hd H;have Q2:=Hd q2;have z:e.size<=1000000000:=vO
 have hc:(catB [jaz e,r']).size<=1000000000:=by rw[jbI,jbI,jed];omega
 have HC:=Hd hc;have HP:=Hd z;have HV:=Hd hvs;clear e1 e2 A E X hg q Q H q2 z hc hps hv hvs;go_wp2_with fail
 refine jan [0,1,2,3,4,5,6,7] Ext ExtR ExtT vY vY vY ?_
 refine vK ?_
 refine qKC _ 69 #[.string e] (.string (jaz e)) rfl (fun w1=>jaG (vX 69) vY) (fun w1 h1=>jcv w1 e HP.o) ?_;refine vS ?_;iterate 2 refine vK ?_
 refine qKL ⟨g,3,none⟩ _ rfl (fun Z h2=>jac Tryz.uStr rfl (jaa (by exact Q2.o) h2)) ?_;refine vS ?_;refine jeC _ rfl vY rfl (fun Z O K hK=>?_);have a0:=Hd (J.o.trans ((jaq w1).trans O));have HR:=Hd (jbK Z [jaz e,r'] 9);clear O J Q2 HV HP;go_simp;refine hK _ _ ((ExtR Z).alloc _) ?_;clear hK K;refine qKC _ 140 _ (.string (jcm [jaz e,r'])) rfl (fun w1=>jaG (vX 140) vY) (fun w3 h3=>js8 w3 _ [jaz e,r'] (HR.o.ext (by exact h3)) HC.o (show 2<=1000000000 by decide)) ?_;refine vS ?_
 refine vK ?_
 refine qKE (fun w3 O=>?_);go_wp2_with fail
 go_ret
 exact⟨by rw[HL.o];rfl,(a0.o.alloc _).trans O⟩
section
attribute [local go_sem] Oper.semAt_some
def jad.ri(n:jad)(k:Nat):Nat:=(n.refsL.getD k (0,⟨#[]⟩)).1
def jad.rr(n:jad)(k:Nat):vB:=(n.refsL.getD k (0,⟨#[]⟩)).2
theorem jub(n:jad)(k:Nat):n.rv k=#[.int .i64 (n.ri k:Nat),.string (n.rr k)]:=rfl
def jgI(d:Option TypeDesc):Bool:=match d with | some (.struct _)=>true | _=>false
theorem jfY{d:Option TypeDesc}(h:jgI d=true):∃ fs,d=some (.struct fs):=by
 cases d with
 | none=>cases h
 | some d=>cases d <;> first | exact⟨_,rfl⟩ | cases h
theorem Tryz.isForm:jgI (Tryz.prog.underlying 147)=true:=vY
theorem jfx:∀ (l:vM) (i:Nat) (x:Nat × vB),x∈jaA i l->i<=x.1/\x.1 < i+l.length/\l[x.1 - i]?=some x.2/\x.2.size≠0
 | [],i,x,h=>by cases h
 | r :: l,i,x,h=>by
  have e:x∈jaA (i+1) l->i<=x.1/\x.1 < i+(r :: l).length/\(r :: l)[x.1 - i]?=some x.2/\x.2.size≠0:=fun h=>by
   obtain⟨z,A,o,q⟩:=jfx l (i+1) x h
   refine⟨by omega,by simp;omega,?_,q⟩
   rw[show x.1 - i=(x.1 - (i+1))+1 by omega,List.getElem?_cons_succ];exact o
  unfold jaA at h;split at h
  ·exact e h
  ·rename_i hr
   rcases bM.1 h with rfl | h
   ·exact⟨bL _,by simp,by simp,hr⟩
   ·exact e h
theorem jt4(n:jad)(hr:n.refs.length=16){k:Nat}(hk:k < n.refsL.length):n.ri k < 16/\n.refs[n.ri k]?=some (n.rr k)/\(n.rr k).size≠0:=by
 have e:(n.refsL.getD k (0,⟨#[]⟩))∈n.refsL:=by rw[bE,bA hk];exact dY _
 obtain⟨_,o,q,z⟩:=jfx n.refs 0 _ e
 rw[hr]at o
 exact⟨by unfold jad.ri;omega,q,z⟩
theorem Tryz.szForm:(Tryz.prog.info? 147).map (·.size)=some 19:=vY
theorem jbx(W:vW)(b:Nat)(n:jad)(hr:n.refs.length=16)(hB:Blk W b (.cells n.cells.toArray 147)):(Instr.loadAt 147 (.pointer (some ⟨b,0,none⟩))).run Tryz.prog W=.ok n.V W:=by
 obtain⟨q,e⟩:=jfY Tryz.isForm
 exact jel e (by rw[n.cells_len hr];exact Tryz.szForm) (fun j v o=>by rw[jhX];exact hB.cellL o)
def jyy(n:jad)(k:Nat):Nat:=match k with | 0=>0 | k+1=>n.ri k+1
def jad.behindN(n:jad):Nat:=jyy n n.refsL.length
def BehC(w:vW)(gn gb:Nat)(n:jad)(k:Nat)(W:vW):Prop:=Ext w W/\Blk W gn (.cells n.cells.toArray 147)/\Blk W gb (.cells #[.int .i64 (jyy n k:Nat)] 3)
theorem jhZ(w:vW)(n:jad)(hr:n.refs.length=16):vR 137 #[n.V] w (.int .i64 (n.behindN:Nat)):=by
 have HV:Hid (n.V=.agg n.cells.toArray):=rfl
 obtain⟨X,z⟩:=vE ((w.alloc (.cells n.cells.toArray 147)).alloc (.cells #[.int .i64 0] 3))
 have B0:Blk X w.heap.size (.cells n.cells.toArray 147):=by rw[z];exact (Blk.new w _).alloc _
 have O:=jbx X w.heap.size n hr B0;rw[z]at O;unfold jad.V at O ⊢;refine (callsIn_wide (n:=0)).1 ?_;refine callsIn_of_wp_marks Tryz.func137 rfl trivial ?_ rfl;simp only[Tryz.ntmps137,cT,bO,dG,Nat.reduceAdd,Nat.reduceSub,cY,cX,dI,dC,cM,cQ];gi_wp2_with (refine jbg rfl 147 (.tmp 1) rfl _ _ rfl O ?_)
 refine⟨trivial,rfl,CallsIn.mono (callsIn_wide.2 (jnf _ n)) ?_⟩
 rintro e w1 ⟨rfl,Q,hE⟩;rw[<-z]at Q hE ⊢
 obtain⟨H,Z⟩:=vE (w.heap.size+1)
 have a0:Ext w X:=by rw[z];exact ((ExtR w).alloc _).alloc _
 have B1:Blk X H (.cells #[.int .i64 0] 3):=by
  rw[z,Z];have:=Blk.new (w.alloc (.cells n.cells.toArray 147)) (.cells #[.int .i64 0] 3);rwa [bK]at this
 have a4:X.heap.size=w.heap.size+2:=by rw[z];simp
 have B2:=B1.keeps hE (fun h=>h);rw[<-Z]
 obtain⟨gn,a1⟩:=vE X.heap.size
 rw[<-a1]at Q ⊢;have a5:H≠gn:=vO
 have a8:=B2.lt;have a9:=Q.lt;have a2:=a0.trans hE;have a6:w.heap.size<=H:=vO
 have a3:w.heap.size<=w1.heap.size:=a2.size;have a7:=Hd a2;clear O hE a0 B0 B1 a4 Z a1 z X;gi_wp2_with fail
 refine jd9 (N:=n.refsL.length) (gf:=117) (lb:=#[.pointer (some ⟨gn,0,none⟩)]) rfl (vX 117) (ji6 gn n hr)
  (fun k=>rfl) (BehC w gn H n) (fun _ _ _=>False) (fun k W W' ⟨E,J,A⟩ e=>⟨E.trans e,J.keeps e (fun h=>h),A.keeps e (fun h=>h)⟩) (fun _ _ _ _ h _=>h) (fun k W ⟨_,h,_⟩=>h)
  (fun k W o ⟨E,J,A⟩=>⟨E.putObj (.inr a3) _,J.put_other vO _,A.put_other vO _⟩)
  (fun k W o ⟨E,J,A⟩=>⟨E.putObj (.inr vO) _,J.put_other vO _,A.put_other vO _⟩) (fun _ _ _ _ h=>h)
  ⟨a7.o,Q,B2⟩ (fun k=>{ tmps:=#[n.V,.pointer (some ⟨w.heap.size,0,none⟩),.int .i64 0,.pointer (some ⟨H,0,none⟩),.int .i64 (n.ri k:Nat),n.V,.func (.func 117) #[] #[.pointer (some ⟨gn,0,none⟩)],.int .i64 (n.ri k:Nat),.string (n.rr k),undef,undef,undef],defers:=[] })
  ?hassign ?hbody ?hdone ?hstop
 case hassign =>
  intro l j W K hK;rw[jub,jn1];simp only[dJ,dB];gi_wp2;exact hK
 case hbody =>
  intro l k W hk ⟨E,J,A⟩ hlt;have q:=A.cell (i:=0) (v:=.int .i64 (jyy n k:Nat)) vF;have f:W.frozen? ⟨H,0,none⟩=false:=A.frozen;have H1:=Hd E;have H2:=Hd J;have H3:=Hd A;clear E J A;have b0:=(jt4 n hr hk).1;gi_wp2;rw[show ((n.ri k:Nat):Int)+1=((n.ri k+1:Nat):Int)from by omega];have b1:=H2.o.lt;have hx:jag (fun b=>b≠w1.heap.size/\b≠w1.heap.size+1) W (W.setCell ⟨H,0,none⟩ (.int .i64 ((n.ri k+1:Nat):Int))):=(jag.refl _ W).setCell (.inl ⟨by show H≠_;omega,by show H≠_;omega⟩) _
  exact⟨hx,H1.o.setCell (.inr a6) _,H2.o.set_other (p:=⟨H,0,none⟩) (fun e=>a5 e.symm) _,H3.o.set_same (i:=0) _⟩
 case hdone =>
  intro W ⟨E,J,A⟩ hd;have q:=A.cell (i:=0) (v:=.int .i64 (n.behindN:Nat)) vF;have H1:=Hd E;have HD:=Hd hd;clear E J A hd;gi_wp2
  refine⟨by simp,.inl ⟨_,_,rfl,run_takeDeferred HD.o,?_⟩⟩
  refine⟨_,results_tmp rfl _ _ _,?_⟩
  exact⟨rfl,H1.o.putObj (.inr a3) _⟩
 case hstop=>intro c k W _ _ h;exact h.elim
theorem Tryz.uStrs:Tryz.prog.underlying 22=some (.slice 9):=vY
theorem Tryz.infoStr:(Tryz.prog.info? 9).map (fun i=>(i.zero,i.size,i.bytes))=some (some (.string ⟨#[]⟩),1,16):=vY
def jem(n:jad)(k:Nat):vM:=(n.refsL.take k).foldl (fun l x=>l.set x.1 x.2) (List.replicate 17 (jaz ⟨#[]⟩))
def jb8(n:jad):vM:=(jem n n.refsL.length).set 16 (jaz n.value)
def jfg(n:jad):vB:=jcm (jb8 n)
structure BrS(w:World)(gn gs gb:Nat)(n:jad)(xs:vM)(W:World):Prop where
 ext:Ext w W
 node:Blk W gn (.cells n.cells.toArray 147)
 var:Blk W gb (.cells #[.slice (some ⟨gs,0,none⟩) 17 17] 22)
 row:Blk W gs (.cells (xs.map Value.string).toArray 9)
 len:xs.length=17
theorem BrS.st{w:vW}{gn gs gb:Nat}{n:jad}{xs:vM}{W W':vW}(h:BrS w gn gs gb n xs W)(e:Ext W W'):BrS w gn gs gb n xs W':=
 ⟨h.ext.trans e,h.node.keeps e (fun h=>h),h.var.keeps e (fun h=>h),h.row.keeps e (fun h=>h),h.len⟩
theorem BrS.put{w:vW}{gn gs gb:Nat}{n:jad}{xs:vM}{W:vW}(h:BrS w gn gs gb n xs W)(r:Nat)(hr:w.heap.size<=r)(h1:gn≠r)(h2:gs≠r)(h3:gb≠r)(o:Obj):BrS w gn gs gb n xs (W.putObj r o):=
 ⟨h.ext.putObj (.inr hr) _,h.node.put_other h1 _,h.var.put_other h3 _,h.row.put_other h2 _,h.len⟩
theorem BrS.set{w:vW}{gn gs gb:Nat}{n:jad}{xs:vM}{W:vW}(h:BrS w gn gs gb n xs W)(hr:w.heap.size<=gs)(h1:gn≠gs)(h3:gb≠gs)(j:Nat)(x:vB):BrS w gn gs gb n (xs.set j x) (W.setCell ⟨gs,j,none⟩ (.string x)):=
 ⟨h.ext.setCell (.inr hr) _,h.node.set_other (p:=⟨gs,j,none⟩) h1 _,h.var.set_other (p:=⟨gs,j,none⟩) h3 _,by
  have:=h.row.set_same (i:=j) (.string x)
  rw[show (xs.map Value.string).toArray.setIfInBounds j (.string x)=((xs.set j x).map Value.string).toArray by simp[iR]]at this;exact this,by simp[h.len]⟩
theorem jin(n:jad)(k:Nat):(jem n k).length=17:=by
 unfold jem;generalize n.refsL.take k=l
 suffices ∀ (l:List (Nat × vB)) (m:vM),(l.foldl (fun l x=>l.set x.1 x.2) m).length=m.length by rw[this];simp
 intro l;induction l with
 | nil=>intro m;rfl
 | cons x r ih=>intro m;rw[fI,ih];simp
theorem jl1(n:jad){k:Nat}(hk:k < n.refsL.length):jem n (k+1)=(jem n k).set (n.ri k) (n.rr k):=by
 unfold jem;rw[cS hk,fM];simp[jad.ri,jad.rr,bE,hk]
def jqQ(k:Nat):vM:=List.replicate k (jaz ⟨#[]⟩)++List.replicate (17 - k) ⟨#[]⟩
theorem jsC(k:Nat)(hk:k < 17):(jqQ k).set k (jaz ⟨#[]⟩)=jqQ (k+1):=by
 unfold jqQ;rw[fN _ _ (by simp),show k - (List.replicate k (jaz ⟨#[]⟩)).length=0 by simp,show 17 - k=(17 - (k+1))+1 by omega,fK,dJ,List.replicate_succ']
 simp
def jBc(w:vW)(gn gs gb:Nat)(n:jad)(i:vV)(wr:vW):Prop:=∃ k:Nat,k<=17/\i=.int .i64 k/\BrS w gn gs gb n (jqQ k) wr
theorem jl3(w:vW)(n:jad)(hr:n.refs.length=16)(hv:n.value.size<=100000)(hc:(catB (jb8 n)).size<=1000000000):vR 116 #[n.V] w (.string (jfg n)):=by
 have HV:Hid (n.V=.agg n.cells.toArray):=rfl
 obtain⟨i0,hi,b8,b9,c0⟩:=info_parts Tryz.infoStr
 have a0:=jfy (P:=Tryz.prog) (w.alloc (.cells n.cells.toArray 147)) Tryz.uStrs hi b8 b9 rfl .i64 .i64 17 (by rw[c0];omega) (by unfold maxLen;omega)
 obtain⟨q,a1⟩:∃ g,g=w.heap.size+1:=⟨_,rfl⟩
 obtain⟨gb,a2⟩:∃ g,g=w.heap.size+2:=⟨_,rfl⟩
 rw[bK, <-a1]at a0
 obtain⟨W1,Q⟩:=vE ((w.alloc (.cells n.cells.toArray 147)).alloc (.cells (List.replicate 17 (Value.string ⟨#[]⟩)).toArray 9))
 rw[<-Q]at a0;have c5:(Instr.makeSlice 22 (.int .i64 17) (.int .i64 17)).run Tryz.prog (w.alloc (.cells n.cells.toArray 147))=.ok (.slice (some ⟨q,0,none⟩) 17 17) W1:=a0;clear a0;have a3:W1.heap.size=gb:=by rw[Q,a2];simp
 have S0:BrS w w.heap.size q gb n (jqQ 0) (W1.alloc (.cells #[.slice (some ⟨q,0,none⟩) 17 17] 22)):=
  ⟨by rw[Q];exact (((ExtR w).alloc _).alloc _).alloc _,by rw[Q];exact ((Blk.new w _).alloc _).alloc _,by rw[<-a3];exact Blk.new W1 _,by
   rw[Q,a1]
   have:=(Blk.new (w.alloc (.cells n.cells.toArray 147)) (.cells (List.replicate 17 (Value.string ⟨#[]⟩)).toArray 9)).alloc (.cells #[.slice (some ⟨w.heap.size+1,0,none⟩) 17 17] 22)
   rw[bK]at this;exact this,rfl⟩
 obtain⟨gn,a4⟩:∃ g,g=w.heap.size:=⟨_,rfl⟩
 rw[<-a4]at S0;have n1:gn≠q:=vO
 have n2:gb≠q:=vO
 have n3:w.heap.size<=q:=vO
 have c2:=Hd S0;have HG:=Hd a4;have c6:=Hd a1;have c7:=Hd a2;have c3:=Hd a3;have N1:=Hd n1;have N2:=Hd n2;clear Q S0 a4 a1 a2 a3 n1 n2;unfold jad.V;refine (callsIn_wide (n:=0)).1 ?_;refine callsIn_of_wp_marks Tryz.func116 rfl trivial ?_ rfl;simp only[Tryz.ntmps116,cT,bO,dG,Nat.reduceAdd,Nat.reduceSub,cY,cX,dI,dC,cM,cQ];gi_wp2_with fail
 rw[<-HG.o,c3.o];gi_loopw [10] (fun i wr=>jBc w gn q gb n i wr) (fun i _=>17 - (intOf i).toNat)
 case atStart=>exact⟨0,by omega,rfl,c2.o⟩
 case round =>
  obtain⟨k,hk,rfl,O⟩:=hrel
  have q3:=O.var.cell (i:=0) (v:=.slice (some ⟨q,0,none⟩) 17 17) vF;have A:=Hd O;clear O
  by_cases hlt:k < 17
  ·have b1:(k:Int) < 17:=vO
   gi_wp2_with fail
   refine wpIn_wide.2 (jaw [0,1,2,3,4] [4] Ext ExtR ExtT vY vY vY ?_);refine qL ⟨gb,0,none⟩ _ rfl (fun w1 h1=>jac Tryz.uStrs rfl (jaa (by exact A.o.var.cell (i:=0) (v:=.slice (some ⟨q,0,none⟩) 17 17) vF) h1)) ?_;refine vS ?_
   refine vP ?_
   refine jc6 _ 69 #[.string ⟨#[]⟩] (.string (jaz ⟨#[]⟩)) rfl vY rfl (fun w1=>jaG (vX 69) vY) (fun w1 h1=>jcv w1 ⟨#[]⟩ vI) ?_;refine vS ?_
   refine vP ?_
   refine qH _ rfl (fun w1 X K hK=>?_);have E:=A.o.st ((jaq wr).trans X)
   obtain⟨old,q1⟩:∃ v,w1.cell? ⟨q,k,none⟩=some v:=⟨_,E.row.cellL (bA (by rw[cB,E.len];exact hlt))⟩
   have q2:w1.frozen? ⟨q,k,none⟩=false:=E.row.frozen;have S2:=E.set n3 N1.o N2.o k (jaz ⟨#[]⟩);rw[jsC k hlt]at S2;have Z:=Hd S2;clear E S2 X q3 A;go_simp;refine hK _ _ ?_;clear hK K q1 q2;refine qE (fun w2 X=>?_);have z:=Hd (Z.o.st X);clear X Z;gi_wp2;go_roundw
   case rel=>exact⟨k+1,by omega,by go_num,z.o⟩
   case measure=>exact vJ
  ·have a7:k=17:=vO
   subst a7;have hB:=A.o.node;have a5:=jbx wr gn n hr hB;unfold jad.V at a5;clear hB;gi_wp2_with (refine jbg rfl 147 (.tmp 1) rfl _ _ rfl a5 ?_)
   refine⟨trivial,rfl,CallsIn.mono (callsIn_wide.2 (jnf _ n)) ?_⟩
   rintro e w1 ⟨rfl,a6,hE⟩;have E:=A.o.st hE
   obtain⟨H,J⟩:∃ g,g=wr.heap.size:=⟨_,rfl⟩
   rw[<-J]at a6 ⊢;have h1:gn < H:=by rw[J];exact A.o.node.lt
   have h2:q < H:=by rw[J];exact A.o.row.lt
   have h3:gb < H:=by rw[J];exact A.o.var.lt
   have h4:=a6.lt;have a8:w.heap.size<=w1.heap.size:=E.ext.size;have a9:jqQ 17=jem n 0:=rfl;rw[a9]at E;clear a5 hE A q3 a9 J;gi_wp2_with fail
   refine jd9 (N:=n.refsL.length) (gf:=117) (lb:=#[.pointer (some ⟨H,0,none⟩)]) rfl (vX 117) (ji6 H n hr)
    (fun k=>rfl) (fun k W=>BrS w gn q gb n (jem n k) W/\Blk W H (.cells n.cells.toArray 147)) (fun _ _ _=>False) (fun k W W' ⟨h1,h2⟩ e=>⟨h1.st e,h2.keeps e (fun h=>h)⟩) (fun _ _ _ _ h _=>h) (fun k W ⟨_,h⟩=>h)
    (fun k W o ⟨h5,h6⟩=>⟨h5.put _ a8 vO vO vO _,h6.put_other vO _⟩)
    (fun k W o ⟨h5,h6⟩=>⟨h5.put _ vO vO vO vO _,h6.put_other vO _⟩) (fun _ _ _ _ h=>h)
    ⟨E,a6⟩ (fun k=>{ tmps:=#[n.V,.pointer (some ⟨gn,0,none⟩),.string ⟨#[]⟩,.pointer (some ⟨gb,0,none⟩),u4,.int .i64 (n.ri k:Nat),.string (n.rr k),.slice (some ⟨q,0,none⟩) 17 17,.slice (some ⟨q,0,none⟩) 17 17,.int .i64 17,.int .i64 17,.bool false,u12,u13,u14,u15,u16,u17,n.V,.func (.func 117) #[] #[.pointer (some ⟨H,0,none⟩)],.int .i64 (n.ri k:Nat),.string (n.rr k),undef,undef,undef,undef,undef,undef,undef,undef,undef,undef,undef],defers:=[] })
    ?hassign ?hbody ?hdone ?hstop
   case hassign =>
    intro l j W K hK;rw[jub,jn1];simp only[dJ,dB];gi_wp2;exact hK
   case hbody =>
    intro l k W hk ⟨O,hB⟩ hlt2;have b0:=jt4 n hr hk;have q3:=O.var.cell (i:=0) (v:=.slice (some ⟨q,0,none⟩) 17 17) vF;have c8:=b0.1;have c1:(n.ri k:Int) < 17:=vO
    obtain⟨old,q1⟩:∃ v,W.cell? ⟨q,n.ri k,none⟩=some v:=⟨_,O.row.cellL (bA (by rw[cB,O.len];omega))⟩
    have q2:W.frozen? ⟨q,n.ri k,none⟩=false:=O.row.frozen;have A:=Hd O;have HB:=Hd hB;clear O hB b0 E;gi_wp2;have c9:=A.o.row.lt;have d0:=A.o.ext.size
    exact⟨(jag.refl _ W).setCell (.inl ⟨by show q≠_;omega,by show q≠_;omega⟩) _,by rw[jl1 n hk];exact A.o.set n3 N1.o N2.o _ _,HB.o.set_other (p:=⟨q,n.ri k,none⟩) (by show H≠q;omega) _⟩
   case hdone =>
    intro W ⟨O,hB⟩ hd;have q3:=O.var.cell (i:=0) (v:=.slice (some ⟨q,0,none⟩) 17 17) vF;have A:=Hd O;have HD:=Hd hd;clear O hB hd E;gi_wp2_with fail
    refine wpIn_wide.2 (jaw [0,1,2,3,4,5] [5] Ext ExtR ExtT vY vY vY ?_);refine qL ⟨gb,0,none⟩ _ rfl (fun w1 h1=>jac Tryz.uStrs rfl (jaa (by exact A.o.var.cell (i:=0) (v:=.slice (some ⟨q,0,none⟩) 17 17) vF) h1)) ?_;refine vS ?_
    refine vP ?_
    refine qL ⟨gn,2,none⟩ (.string n.value) rfl (fun w1 h1=>jac Tryz.uStr rfl (jaa (by exact A.o.node.cellL vF) h1)) ?_;refine vS ?_;refine jc6 _ 69 #[.string n.value] (.string (jaz n.value)) rfl vY rfl (fun w1=>jaG (vX 69) vY) (fun w1 h1=>jcv w1 n.value vO) ?_;refine vS ?_
    refine vP ?_
    refine qH _ rfl (fun w2 X K hK=>?_);have E:=A.o.st ((jaq W).trans X);have b2:=HD.o.keeps ((jaq W).trans X) (fun h=>h)
    obtain⟨old,q1⟩:∃ v,w2.cell? ⟨q,16,none⟩=some v:=⟨_,E.row.cellL (bA (by rw[cB,E.len];omega))⟩
    have q2:w2.frozen? ⟨q,16,none⟩=false:=E.row.frozen;have S2:=E.set n3 N1.o N2.o 16 (jaz n.value);have b3:=b2.set_other (p:=⟨q,16,none⟩) (by show w1.heap.size≠q;omega) (.string (jaz n.value));have Z:=Hd S2;have b4:=Hd b3;clear E S2 X q3 A HD b2 b3;go_simp;refine hK _ _ ?_;clear hK K q1 q2;refine qE (fun w3 X=>?_);have z:=Hd (Z.o.st X);have b5:=Hd (b4.o.keeps X (fun h=>h));have q3:=z.o.var.cell (i:=0) (v:=.slice (some ⟨q,0,none⟩) 17 17) vF;clear X Z b4;gi_wp2_with fail
    have b6:RdS w3 (.slice (some ⟨q,0,none⟩) 17 17) (jb8 n):=by
     have hl:(jb8 n).length=17:=z.o.len;exact .inr ⟨q,0,17,by rw[hl],z.o.row.lt,by omega,fun j x hx=>by rw[cR];exact z.o.row.cellL (by rw[cA];show ((jb8 n)[j]?).map _=_;rw[hx];rfl)⟩
    refine⟨trivial,rfl,CallsIn.mono (callsIn_wide.2 (js8 w3 _ (jb8 n) b6 hc (by have:(jb8 n).length=17:=z.o.len;omega))) ?_⟩
    rintro e w4 ⟨rfl,hE⟩;have b7:=b5.o.keeps hE (fun h=>h);have HE:=Hd (z.o.ext.trans hE);have c4:=Hd b7;clear hE b7 z b5 b6 q3;gi_wp2_with fail
    refine⟨by simp,.inl ⟨_,_,rfl,run_takeDeferred c4.o,?_⟩⟩
    refine⟨_,results_tmp rfl _ _ _,?_⟩
    exact⟨rfl,HE.o.putObj (.inr a8) _⟩
   case hstop=>intro c k W _ _ h;exact h.elim
def jeb(x:vB):Prop:=∀ y:vB,(x++y).size<=1000000000->∃ r,cutN (x++y)=some r/\r.2.1+r.2.2=x.size
theorem jsa(x:vB)(xs:vM):catB (x :: xs)=x++catB xs:=by
 apply ByteArray.ext;apply Array.ext';simp[catB,dH]
theorem jiE(x y:vB):(x++y).extract 0 x.size=x:=ByteArray.extract_append_eq_left rfl
theorem jgD(x y:vB):(x++y).extract x.size (x++y).size=y:=ByteArray.extract_append_eq_right rfl (by rw[cC])
theorem jdH{s:vB}{r:Bool × Nat × Nat}(h:cutN s=some r):0 < s.size/\0 < r.2.1+r.2.2:=by
 unfold cutN at h
 by_cases h0:0 < s.size
 ·refine⟨h0,?_⟩
  rw[dif_pos h0]at h;simp only at h
  by_cases h1:s[0].toNat < 128
  ·rw[if_pos h1]at h
   obtain rfl:=bQ h;simp
  ·rw[if_neg h1]at h
   obtain⟨o,e⟩:∃ o:Bool × Nat,o=if s[0].toNat < 192 then (false,s[0].toNat - 128)else (true,s[0].toNat - 192):=⟨_,rfl⟩
   rw[<-e]at h;clear e
   obtain⟨l,m⟩:=o
   simp only at h
   by_cases h3:m<=55
   ·rw[if_pos h3]at h
    split at h
    ·obtain rfl:=bQ h;simp only;omega
    ·cases h
   ·rw[if_neg h3]at h
    split at h
    ·split at h
     ·obtain rfl:=bQ h;simp only;omega
     ·cases h
    ·cases h
 ·rw[dif_neg h0]at h;cases h
theorem jo9{xs:vM}{k:Nat}(h:k < xs.length):catB (xs.drop k)=xs[k]++catB (xs.drop (k+1)):=by
 rw[iM h,jsa]
def jgr:vV->Nat | .string b=>b.size | _=>0
def jxE(W:vW)(xs:vM)(C:Nat->vW->Prop)(v:vV)(wr:vW):Prop:=∃ k:Nat,k<=xs.length/\v=.string (catB (xs.drop k))/\C k wr
theorem jyf(b:Nat)(xs:vM)(hx:∀ x∈xs,jeb x)(hs:(catB xs).size<=1000000000):juN Tryz.prog 146 #[.pointer (some ⟨b,0,none⟩)] xs.length (fun k=>#[.string (xs.getD k ⟨#[]⟩),.nilIface]) (fun W=>Blk W b (.cells #[.string (catB xs)] 9)):=by
 intro l C Cx hC Z hS W hY h0;have hB:=(hS 0 W h0).cell (i:=0) (v:=.string (catB xs)) vF;have HY:=Hd hY;have H0:=Hd h0;have a6:=Hd hs;clear hY h0 hS hs;refine callsIn_of_wp Tryz.func146 rfl trivial ?_ rfl;simp only[Tryz.ntmps146,cT,bO,dG,Nat.reduceAdd,Nat.reduceSub,cY,cX,dI,dC,cM,cQ];gi_wp2;have a7:=Hd hC;have b6:=Hd Z;clear hC Z;gi_loopw [3] (fun v wr=>jxE W xs C v wr) (fun v _=>jgr v)
 case atStart=>exact⟨0,by omega,rfl,H0.o⟩
 case round =>
  obtain⟨k,hk,rfl,a0⟩:=hrel
  have a1:=Hd a0;clear a0
  by_cases hlt:k < xs.length
  ·obtain⟨x,A⟩:=vE (xs[k])
   have q:=jo9 hlt;rw[<-A]at q
   obtain⟨y,hy⟩:=vE (catB (xs.drop (k+1)))
   rw[<-hy]at q;have E:(x++y).size<=1000000000:=by
    have h1:(catB (xs.drop k)).size<=(catB xs).size:=by
     have h2:(catB xs).size=(catB (xs.take k)).size+(catB (xs.drop k)).size:=by
      conv=>lhs;rw[<-dD k xs]
      simp only[catB,ByteArray.size,bZ,List.flatten_append,cT,bF]
     omega
    rw[q]at h1;have:=a6.o;omega
   obtain⟨r,J,K⟩:=hx x (A ▸ dY hlt) y E
   obtain⟨z,X⟩:=vE (x++y)
   have a2:z.size=x.size+y.size:=by rw[X,cC]
   rw[<-X]at q E J;rw[q];have H:=jdH J;have b7:=ja4 H.1;have a3:z.extract (r.2.1+r.2.2) z.size=y:=by
    rw[K,X];exact jgD x y
   have b8:z.extract 0 x.size=x:=by
    rw[X];exact jiE x y
   have a4:xs.getD k ⟨#[]⟩=x:=by rw[bE,bA hlt, <-A];rfl
   have a8:=Hd a4;have HX:=Hd A;have a9:=Hd E;have b0:=Hd hy;have HZ:=Hd X;have O:=Hd a2;have HP:=Hd H;have b2:=Hd K;clear A q hy X a4 H K a2;gi_wp2_with fail
   refine⟨trivial,rfl,CallsIn.mono (callsIn_wide.2 (jx8 wr z r E J)) ?_⟩
   rintro e w1 ⟨rfl,hE⟩;unfold jdB;rw[a3]
   obtain⟨u,hu⟩:=vE (z.extract r.2.1 (r.2.1+r.2.2))
   rw[<-hu]
   obtain⟨b1,o,ln⟩:=r
   simp only;clear J a3 hu E
   obtain⟨fn,tm,b9,bd,b3,a5⟩:=HY.o k w1 hlt (a7.o k _ _ a1.o hE)
   simp only[a8.o]at b3;have b4:=Hd a5;clear hE a5;have c1:(z.size:Int) - (y.size:Int)=(x.size:Int):=by have:=O.o;omega
   have c2:(x.size:Int)<=(z.size:Int):=by have:=O.o;omega
   have c3:z.size<=1000000000:=a9.o;gi_wp2
   refine⟨rfl,(b4.o.mono ?_)⟩
   rintro e w5 (⟨rfl,C5⟩ |⟨rfl,C5⟩)
   ·have Q:=Hd C5
    clear C5;gi_wp2;go_roundw
    case rel=>exact⟨k+1,by omega,by rw[<-b0.o],Q.o⟩
    case measure=>show y.size < z.size;have:=(show 0 < o+ln from HP.o.2);have:=O.o;have:=(show o+ln=x.size from b2.o);omega
   ·have Q:=Hd C5
    clear C5;gi_wp2;refine bodyPost_ret (results_none rfl _ _ _) rfl ?_
    exact⟨⟨_,rfl⟩,.inr ⟨k+1,by omega,by omega,Q.o⟩⟩
  ·have b5:k=xs.length:=vO
   subst b5;have hd:catB (xs.drop xs.length)=⟨#[]⟩:=by rw[iB];rfl
   rw[hd];gi_wp2;refine bodyPost_end (results_none rfl _ _ _) rfl ?_
   exact⟨⟨_,rfl⟩,.inl a1.o⟩
theorem jxk(w:vW)(s:vB):vQ 133 #[.string s] w fun e w'=>e=.returned (.func (.func 146) #[] #[.pointer (some ⟨w.heap.size,0,none⟩)])/\Blk w' w.heap.size (.cells #[.string s] 9)/\Ext w w':=by
 go_enter Tryz.func133,Tryz.ntmps133;go_wp2_with fail
 go_ret
 exact⟨rfl,Blk.new w _,(ExtR w).alloc _⟩
theorem Tryz.sStrs:jeN Tryz.prog 22 9 1 16:=jeN.mk' vY (show (Tryz.prog.info? 9).map (fun i=>(i.zero,i.size,i.bytes))=some (some (.string ⟨#[]⟩),1,16) by kernel_rfl) rfl vI
structure ItS(w:World)(g m:Nat)(xs:vM)(k:Nat)(W:World):Prop where
 ext:Ext w W
 b2:Blk W g (.cells #[.slice none 0 0] 22)
 b3:Blk W (g+1) (.cells #[.int .i64 0] 28)
 bc:Blk W (g+3) (.cells #[.string (catB xs)] 9)
 row:∃ v,Blk W (g+2) (.cells #[v] 22)/\W.ownsRow 0 9 1 v k ((xs.take k).map Value.string)/\∀ b,v.ownBlock=some b->m+2<=b
theorem ItS.st{w:vW}{g m:Nat}{xs:vM}{k:Nat}{W W':vW}(h:ItS w g m xs k W)(e:Ext W W'):ItS w g m xs k W':=
 let ⟨v,h1,h2,h3⟩:=h.row
 ⟨h.ext.trans e,h.b2.keeps e (fun h=>h),h.b3.keeps e (fun h=>h),h.bc.keeps e (fun h=>h),v,h1.keeps e (fun h=>h),jbm h2 e,h3⟩
theorem ItS.put{w:vW}{g m:Nat}{xs:vM}{k:Nat}{W:vW}(h:ItS w g m xs k W){r:Nat}(hr:w.heap.size<=r)(h1:g+3 < r)(h2:r < m+2)(o:Obj):ItS w g m xs k (W.putObj r o):=
 let ⟨v,h3,h4,h5⟩:=h.row
 ⟨h.ext.putObj (.inr hr) _,h.b2.put_other vO _,h.b3.put_other vO _,h.bc.put_other vO _,v,h3.put_other vO _,
  jaY h4 (jag.onePut W r o) (fun b hb e=>by have:=h5 b hb;omega),h5⟩
theorem job(w:vW)(xs:vM)(hx:∀ x∈xs,jeb x)(hs:(catB xs).size<=1000000000)(hn:xs.length<=1000000):vQ 106 #[.string (catB xs)] w fun e w'=>∃ v,e=.returned (.tuple #[v,.int .i64 0])/\SRow w w' v xs.length xs:=by
 obtain⟨i0,hi,a7,a8,a9⟩:=info_parts Tryz.infoStr
 refine (callsIn_wide (n:=0)).1 ?_;refine callsIn_of_wp_marks Tryz.func106 rfl trivial ?_ rfl;simp only[Tryz.ntmps106,cT,bO,dG,Nat.reduceAdd,Nat.reduceSub,cY,cX,dI,dC,cM,cQ];gi_wp2_with fail
 obtain⟨Q,q⟩:=vE (((w.alloc (.cells #[.slice none 0 0] 22)).alloc (.cells #[.int .i64 0] 28)).alloc (.cells #[.slice none 0 0] 22))
 rw[<-q];have a2:Q.heap.size=w.heap.size+3:=by rw[q];simp
 have E0:Ext w Q:=by rw[q];exact ((((ExtR w).alloc _).alloc _).alloc _)
 have B2:Blk Q w.heap.size (.cells #[.slice none 0 0] 22):=by rw[q];exact ((Blk.new w _).alloc _).alloc _
 have B3:Blk Q (w.heap.size+1) (.cells #[.int .i64 0] 28):=by
  rw[q];have:=(Blk.new (w.alloc (.cells #[.slice none 0 0] 22)) (.cells #[.int .i64 0] 28)).alloc (.cells #[.slice none 0 0] 22);rwa [bK]at this
 have X:Blk Q (w.heap.size+2) (.cells #[.slice none 0 0] 22):=by
  rw[q];have:=(Blk.new ((w.alloc (.cells #[.slice none 0 0] 22)).alloc (.cells #[.int .i64 0] 28)) (.cells #[.slice none 0 0] 22));rwa [bK,bK]at this
 clear q
 refine⟨trivial,rfl,CallsIn.mono (callsIn_wide.2 (jxk Q (catB xs))) ?_⟩
 rintro e w1 ⟨rfl,J,hE⟩;rw[a2]at J ⊢;have S0:ItS w w.heap.size w1.heap.size xs 0 w1:=⟨E0.trans hE,B2.keeps hE (fun h=>h),B3.keeps hE (fun h=>h),J,_,X.keeps hE (fun h=>h),fL _ _ _ _,fun b hb=>by cases hb⟩;have b7:=J.lt;have b0:=Hd S0;clear a2 E0 B2 B3 X J hE S0 Q;gi_wp2_with fail
 refine jd9 (N:=xs.length) (gf:=146) (lb:=#[.pointer (some ⟨w.heap.size+3,0,none⟩)]) rfl (vX 146) (jyf (w.heap.size+3) xs hx hs)
  (fun k=>rfl) (ItS w w.heap.size w1.heap.size xs) (fun _ _ _=>False) (fun k W W' h e=>h.st e) (fun _ _ _ _ h _=>h) (fun k W h=>h.bc)
  (fun k W o h=>h.put vO vO vO _)
  (fun k W o h=>h.put vO vO vO _) (fun _ _ _ _ h=>h)
  b0.o (fun k=>{ tmps:=#[.string (catB xs),undef,.pointer (some ⟨w.heap.size,0,none⟩),.pointer (some ⟨w.heap.size+1,0,none⟩),.pointer (some ⟨w.heap.size+1+1,0,none⟩),.string (xs.getD k ⟨#[]⟩),.nilIface,undef,undef,.string (catB xs),.func (.func 146) #[] #[.pointer (some ⟨w.heap.size+3,0,none⟩)],.string (xs.getD k ⟨#[]⟩),.nilIface,undef,undef,undef,undef,undef,undef,undef,undef,undef,undef,undef,undef,undef],defers:=[] })
  ?hassign ?hbody ?hdone ?hstop
 case hassign =>
  intro l j W K hK;rw[jn1];simp only[dJ,dB];gi_wp2;exact hK
 case hbody =>
  intro l k W hk E b8
  obtain⟨v,Z,h2,h3⟩:=E.row
  obtain⟨z,A,rfl⟩:=jaL h2
  obtain⟨x,a0⟩:=vE (xs.getD k ⟨#[]⟩)
  rw[<-a0];have q4:W.cell? ⟨w.heap.size+1+1,0,none⟩=some (.slice z k A):=Z.cell (i:=0) vF;have f4:W.frozen? ⟨w.heap.size+1+1,0,none⟩=false:=Z.frozen;have O:=Hd E;have H1:=Hd Z;have H2:=Hd h2;have H3:=Hd h3;have b1:=Hd a0;clear E Z h2 h3 a0;gi_wp2_with (gi_at_builtin;refine jbU _ rfl (.tmp 21) (.tmp 23) 22 rfl 9 i0 _ 1 16 Tryz.uStrs hi a7 a8 a9 rfl vI (.slice z k A) k _ rfl (jbm H2.o ((ExtR W).alloc _)) ⟨W.heap.size,0,none⟩ 1 1 [.string x] rfl rfl (ja3 (Blk.new W _)) (by simp[Value.oneCell']) (by unfold maxLen;omega) vO ?_)
  intro v' w6 r1 r2 r3;have K6:jag (fun b=>(Value.slice z k A).ownBlock=some b) W w6:=((jag.refl _ W).alloc _).trans r2;have e1:((xs.take k).map Value.string++[.string x])=(xs.take (k+1)).map Value.string:=by
   rw[cS hk,bZ,b1.o];simp[bE,hk]
  have r1:w6.ownsRow 0 9 1 v' (k+1) ((xs.take (k+1)).map Value.string):=by rw[<-e1,jC];exact r1
  have b5:=O.o.b2.lt;have b6:=H1.o.lt;have b9:w.heap.size<=w1.heap.size:=vO
  have nb:∀ b,b < w1.heap.size+2->¬(Value.slice z k A).ownBlock=some b:=fun b hb e=>by have:=H3.o b e;omega
  obtain⟨a3,a4,rfl⟩:=jaL r1
  have a5:∀ b,(Value.slice a3 (k+1) a4).ownBlock=some b->w1.heap.size+2<=b:=fun b hb=>by
   rcases r3 with r3 | r3
   ·exact H3.o b (r3 ▸ hb)
   ·have:=r3 b hb;omega
  have X:=H1.o.keeps K6 (nb _ vO);have c0:w6.cell? ⟨w.heap.size+1+1,0,none⟩=some (.slice z k A):=X.cell (i:=0) vF;have c1:w6.frozen? ⟨w.heap.size+1+1,0,none⟩=false:=X.frozen;have H:=Hd K6;have b4:=Hd X;have R1:=Hd r1;have a6:=Hd a5;have NB:=Hd nb;clear K6 r1 r2 r3 e1 a5 X nb q4 f4;gi_wp2;have k7:jag (fun b=>b=w.heap.size+1+1) w6 (w6.setCell ⟨w.heap.size+1+1,0,none⟩ (.slice a3 (k+1) a4)):=jag.oneSet w6 ⟨w.heap.size+1+1,0,none⟩ _
  refine⟨(H.o.mono (fun x _ e=>?_)).trans' k7 (fun x _ e=>?_),?_⟩
  ·have:=H3.o x e;show x≠_/\x≠_;omega
  ·have e:x=_:=e;show x≠_/\x≠_;omega
  ·refine⟨(O.o.ext.trans' H.o (fun x hx e=>by have:=H3.o x e;omega)).trans' k7 (fun x hx e=>by have e:x=_:=e;omega),
    (O.o.b2.keeps H.o (NB.o _ vO)).keeps k7 (fun e=>by omega),(O.o.b3.keeps H.o (NB.o _ vO)).keeps k7 (fun e=>by omega),(O.o.bc.keeps H.o (NB.o _ vO)).keeps k7 (fun e=>by omega),
    _,b4.o.set_same (i:=0) _,jaY R1.o k7 (fun b hb e=>by have:=a6.o b hb;omega),a6.o⟩
 case hdone =>
  intro W E hd
  obtain⟨v,Z,h2,h3⟩:=E.row
  obtain⟨z,A,rfl⟩:=jaL h2
  have q4:W.cell? ⟨w.heap.size+1+1,0,none⟩=some (.slice z xs.length A):=Z.cell (i:=0) vF;have q2:=E.b2.cell (i:=0) (v:=.slice none 0 0) vF;have f2:W.frozen? ⟨w.heap.size,0,none⟩=false:=E.b2.frozen;have q3:=E.b3.cell (i:=0) (v:=.int .i64 0) vF;have f3:W.frozen? ⟨w.heap.size+1,0,none⟩=false:=E.b3.frozen;have O:=Hd E;have H2:=Hd h2;have H3:=Hd h3;have HD:=Hd hd;clear E Z h2 h3 hd;gi_wp2
  obtain⟨W3,a1⟩:=vE ((W.setCell ⟨w.heap.size,0,none⟩ (.slice z xs.length A)).setCell ⟨w.heap.size+1,0,none⟩ (.int .i64 0))
  rw[<-a1];have B2:=(O.o.b2.set_same (i:=0) (.slice z xs.length A)).set_other (p:=⟨w.heap.size+1,0,none⟩) (by show w.heap.size≠w.heap.size+1;omega) (.int .i64 0);have B3:=(O.o.b3.set_other (p:=⟨w.heap.size,0,none⟩) (by show w.heap.size+1≠w.heap.size;omega) (.slice z xs.length A)).set_same (i:=0) (.int .i64 0);have BD:=(HD.o.set_other (p:=⟨w.heap.size,0,none⟩) (by show w1.heap.size≠w.heap.size;omega) (.slice z xs.length A)).set_other (p:=⟨w.heap.size+1,0,none⟩) (by show w1.heap.size≠w.heap.size+1;omega) (.int .i64 0);rw[<-a1]at B2 B3 BD;have K1:=(jag.oneSet W ⟨w.heap.size,0,none⟩ (.slice z xs.length A));have K3:jag (fun b=>b=w.heap.size\/b=w.heap.size+1\/b=w1.heap.size) W (W3.putObj w1.heap.size (.deferred none)):=by
   rw[a1];exact (((jag.refl _ W).setCell (.inl (.inl rfl)) _).setCell (.inl (.inr (.inl rfl))) _).putObj (.inl (.inr (.inr rfl))) _
  have c2:(W3.putObj w1.heap.size (.deferred none)).cell? ⟨w.heap.size,0,none⟩=some (.slice z xs.length A):=(B2.put_other vO _).cell (i:=0) (by simp);have c3:(W3.putObj w1.heap.size (.deferred none)).cell? ⟨w.heap.size+1,0,none⟩=some (.int .i64 0):=(B3.put_other vO _).cell (i:=0) (by simp)
  refine⟨by simp,.inl ⟨_,_,rfl,run_takeDeferred BD,?_⟩⟩
  refine⟨.tuple #[.slice z xs.length A,.int .i64 0],by simp[results,Tryz.results106,go_sem,c2,c3],?_⟩
  refine⟨_,rfl,⟨_,_,rfl⟩,?_,O.o.ext.trans' K3 (fun x hx e=>by omega),fun b hb=>by have:=H3.o b hb;omega⟩
  have h5:=jaY H2.o K3 (fun b hb e=>by have:=H3.o b hb;omega)
  rwa [cF]at h5
 case hstop=>intro c k W _ _ h;exact h.elim
end
theorem js4:∀ (f n:Nat),n < 256 ^ f->beN (leF f n).reverse=n
 | 0,n,h=>by simp at h;subst h;rfl
 | f+1,n,h=>by
  unfold leF
  by_cases h0:n=0
  ·rw[if_pos h0,h0];rfl
  ·rw[if_neg h0,gI,jkA,js4 f (n / 256) (by rw[Nat.pow_succ]at h;omega)]
   have:(UInt8.ofNat n).toNat=n % 256:=rfl
   omega
theorem jpv:∀ (f n:Nat),n < 256 ^ f->0 < n->∃ x l,(leF f n).reverse=x :: l/\x≠0
 | 0,n,h,h0=>by simp at h;omega
 | f+1,n,h,h0=>by
  unfold leF;rw[if_neg vO,gI]
  by_cases h1:n / 256=0
  ·have:leF f (n / 256)=[]:=by rw[h1];cases f <;> simp[leF]
   rw[this]
   refine⟨_,_,rfl,fun e=>?_⟩
   have z:(UInt8.ofNat n).toNat=(0:vU).toNat:=by rw[e]
   have:(UInt8.ofNat n).toNat=n % 256:=rfl
   have o:(0:vU).toNat=0:=rfl;omega
  ·obtain⟨x,l,q,o⟩:=jpv f (n / 256) (by rw[Nat.pow_succ]at h;omega) vO
   exact⟨x,l++[UInt8.ofNat n],by rw[q];rfl,o⟩
theorem jev(a:vU)(t:vN):cutN ⟨(a :: t).toArray⟩ =
  (if a.toNat < 128 then some (false,0,1)else
   if (if a.toNat < 192 then a.toNat - 128 else a.toNat - 192)<=55 then
    if 1+(if a.toNat < 192 then a.toNat - 128 else a.toNat - 192)<=t.length+1/\(decide (192<=a.toNat)=true\/(if a.toNat < 192 then a.toNat - 128 else a.toNat - 192)≠1\/128<=((a :: t).getD 1 0).toNat)then some (decide (192<=a.toNat),1,(if a.toNat < 192 then a.toNat - 128 else a.toNat - 192))else none
   else match lenB ⟨(a :: t).toArray⟩ (1+((if a.toNat < 192 then a.toNat - 128 else a.toNat - 192) - 55))with
    | some n=>if 1+((if a.toNat < 192 then a.toNat - 128 else a.toNat - 192) - 55)+n<=t.length+1 then some (decide (192<=a.toNat),1+((if a.toNat < 192 then a.toNat - 128 else a.toNat - 192) - 55),n)else none
    | none=>none):=by
 have e:(⟨(a :: t).toArray⟩:vB).size=t.length+1:=rfl;have o:0 < (⟨(a :: t).toArray⟩:vB).size:=by rw[e];omega
 have q:(⟨(a :: t).toArray⟩:vB)[0]'o=a:=rfl;unfold cutN;rw[dif_pos o];simp only[q,e]
 by_cases h1:a.toNat < 128
 ·rw[if_pos h1,if_pos h1]
 ·rw[if_neg h1,if_neg h1]
  by_cases h2:a.toNat < 192
  ·simp only[if_pos h2,show decide (192<=a.toNat)=false by simp;omega];rfl
  ·simp only[if_neg h2,show decide (192<=a.toNat)=true by simp;omega];rfl
def hb(l:Bool):vU:=if l then 192 else 128
theorem jxB(a b:vU)(h:a.toNat+b.toNat < 256):(a+b).toNat=a.toNat+b.toNat:=by rw[UInt8.toNat_add];omega
theorem joD(n:Nat)(h:n < 256):(UInt8.ofNat n).toNat=n:=by show n % 256=n;omega
theorem jxq(l:Bool):(hb l).toNat=if l then 192 else 128:=by cases l <;> rfl
theorem jvg(l:Bool)(b y:vN)(hn:b.length<=1048576)(h1:l=false->b.length=1->128<=(b.headD 0).toNat) :
  cutN ⟨((jdA (hb l) b.length).data.toList++(b++y)).toArray⟩=some (l,(jdA (hb l) b.length).size,b.length):=by
 by_cases hs:b.length<=55
 ·have K:(jdA (hb l) b.length)=⟨#[hb l+UInt8.ofNat b.length]⟩:=by unfold jdA;rw[if_pos hs]
  rw[K];have o:(hb l+UInt8.ofNat b.length).toNat=(if l then 192 else 128)+b.length:=by
   rw[jxB _ _ (by rw[jxq,joD _ vO];split <;> omega),jxq,joD _ vO]
  have O:(⟨#[hb l+UInt8.ofNat b.length]⟩:vB).size=1:=rfl;rw[O]
  obtain⟨a,e⟩:=vE (hb l+UInt8.ofNat b.length)
  rw[<-e]at o ⊢;have Q:(if a.toNat < 192 then a.toNat - 128 else a.toNat - 192)=b.length:=by
   rw[o];cases l <;> simp only[cO,if_false,if_true]
   ·rw[if_pos vO];omega
   ·rw[if_neg vO];omega
  have q:decide (192<=a.toNat)=l:=by
   rw[o];cases l <;> simp <;> omega
  show cutN ⟨(a ::(b++y)).toArray⟩=_;rw[jev,Q,q,if_neg (by rw[o];split <;> omega),if_pos hs,if_pos]
  refine⟨by rw[bF];omega,?_⟩
  cases l with
  | true=>exact .inl rfl
  | false =>
   refine .inr ?_
   by_cases h2:b.length=1
   ·refine .inr ?_
    have:=h1 rfl h2
    match b,h2 with
    | [x],_=>simpa using this
   ·exact .inl h2
 ·obtain⟨d,J⟩:=vE (leF 8 b.length).reverse
  have hp:b.length < 256 ^ 8:=vO
  have a3:d.length<=8:=by rw[J,fS];exact jk3 _ _
  have X:beN d=b.length:=by rw[J];exact js4 _ _ hp
  obtain⟨x,r,z,Z⟩:=jpv 8 b.length hp vO
  rw[<-J]at z;have A:jda b.length=⟨d.toArray⟩:=by unfold jda;rw[J]
  have a0:(⟨d.toArray⟩:vB).size=d.length:=rfl;have K:(jdA (hb l) b.length)=⟨#[hb l+55+UInt8.ofNat d.length]⟩++⟨d.toArray⟩:=by unfold jdA;rw[if_neg hs,A,a0]
  have E:(jdA (hb l) b.length).data.toList=(hb l+55+UInt8.ofNat d.length) :: d:=by
   rw[K,dH];simp
  have a1:(jdA (hb l) b.length).size=1+d.length:=by
   show (jdA (hb l) b.length).data.toList.length=_;rw[E,bO];omega
  rw[E,a1];have H:(hb l+55:vU).toNat=(if l then 192 else 128)+55:=by cases l <;> rfl
  have o:(hb l+55+UInt8.ofNat d.length).toNat=(if l then 192 else 128)+55+d.length:=by
   rw[jxB _ _ (by rw[H,joD _ vO];split <;> omega),H,joD _ vO]
  obtain⟨a,e⟩:=vE (hb l+55+UInt8.ofNat d.length)
  rw[<-e]at o ⊢;have a4:1<=d.length:=by rw[z];simp
  have Q:(if a.toNat < 192 then a.toNat - 128 else a.toNat - 192)=55+d.length:=by
   rw[o];cases l <;> simp only[cO,if_false,if_true]
   ·rw[if_pos vO];omega
   ·rw[if_neg vO];omega
  have q:decide (192<=a.toNat)=l:=by
   rw[o];cases l <;> simp <;> omega
  have a2:lenB ⟨(a ::(d++(b++y))).toArray⟩ (1+d.length)=some b.length:=by
   have e1:((⟨(a ::(d++(b++y))).toArray⟩:vB).data.toList.take (1+d.length)).drop 1=d:=by
    show ((a ::(d++(b++y))).take (1+d.length)).drop 1=d;rw[gO,dW,iK,List.drop_zero,List.take_left]
   unfold lenB;rw[if_neg,e1,X,if_pos ⟨by omega,hn⟩];rintro (h | h)
   ·have:(⟨(a ::(d++(b++y))).toArray⟩:vB).size=(d++(b++y)).length+1:=rfl
    rw[this,bF]at h;omega
   ·have:(⟨(a ::(d++(b++y))).toArray⟩:vB).data.toList.getD 1 0=x:=by rw[z];rfl
    rw[this]at h;exact Z h
  show cutN ⟨(a ::(d++(b++y))).toArray⟩=_;rw[jev,Q,q,if_neg (by rw[o];split <;> omega),if_neg vO,show 55+d.length - 55=d.length by omega,a2];simp only[bF];rw[if_pos vO]
theorem ju4(s:vB):s=⟨s.data.toList.toArray⟩:=rfl
theorem jmc(l:Bool)(b y:vB)(hn:b.size<=1048576)(h1:l=false->b.size=1->128<=(b.data.toList.headD 0).toNat) :
  cutN (jdA (hb l) b.size++b++y)=some (l,(jdA (hb l) b.size).size,b.size):=by
 have h:=jvg l b.data.toList y.data.toList hn h1;rw[ju4 (jdA (hb l) b.size++b++y)];simp only[dH,fC,bX];exact h
theorem jiG(h b y:vB):(h++b++y).extract h.size (h.size+b.size)=b:=by
 apply ByteArray.ext;apply Array.ext';rw[dP,dZ,dH,dH,fC,fC,dO,
  show h.size+b.size - h.size=b.data.toList.length by show _=b.size;omega,bX,show h.size=h.data.toList.length from rfl,fR,List.take_left]
theorem jme(b y:vB)(hn:b.size<=1048576):∃ o,cutN (jaz b++y)=some (false,o,b.size)/\o+b.size=(jaz b).size/\(jaz b++y).extract o (o+b.size)=b:=by
 by_cases h:b.size=1/\b.data.toList.headD 255 < 128
 ·obtain⟨A,z⟩:=h
  obtain⟨⟨lb⟩⟩:=b
  have e:lb.length=1:=A
  match lb,e,z with
  | [x],_,z =>
   have E:x.toNat < 128:=fD.1 z;have q:jaz ⟨#[x]⟩=⟨#[x]⟩:=by unfold jaz;rw[if_pos ⟨rfl,z⟩]
   refine⟨0,?_,?_,?_⟩
   ·rw[show (⟨[x].toArray⟩:vB)=⟨#[x]⟩from rfl,q,ju4 (_++y),dH,fC]
    show cutN ⟨(x :: y.data.toList).toArray⟩=_;rw[jev,if_pos E];rfl
   ·rw[show (⟨[x].toArray⟩:vB)=⟨#[x]⟩from rfl,q];rfl
   ·rw[show (⟨[x].toArray⟩:vB)=⟨#[x]⟩from rfl,q,cR];exact jiE _ _
 ·have q:jaz b=jdA (hb false) b.size++b:=by unfold jaz;rw[if_neg h];rfl
  rw[q]
  refine⟨_,jmc false b y hn (fun _ A=>?_),by rw[cC],jiG _ _ _⟩
  obtain⟨⟨lb⟩⟩:=b
  have e:lb.length=1:=A
  match lb,e,h with
  | [x],_,h =>
   have J:¬ x < 128:=fun H=>h ⟨rfl,H⟩;have K:¬ x.toNat < (128:vU).toNat:=fun H=>J (fD.2 H);have O:(128:vU).toNat=128:=rfl;show 128<=x.toNat;omega
theorem jmd(xs:vM)(y:vB)(hn:(catB xs).size<=1048576):∃ o,cutN (jcm xs++y)=some (true,o,(catB xs).size)/\o+(catB xs).size=(jcm xs).size/\(jcm xs++y).extract o (o+(catB xs).size)=catB xs:=by
 have e:jcm xs=jdA (hb true) (catB xs).size++catB xs:=rfl;rw[e]
 exact⟨_,jmc true _ y hn (fun h=>by cases h),by rw[cC],jiG _ _ _⟩
theorem jdd(b:vB)(hn:b.size<=1048576):jeb (jaz b):=fun y _=>let ⟨o,h1,h2,_⟩:=jme b y hn;⟨_,h1,h2⟩
theorem joa(xs:vM)(hn:(catB xs).size<=1048576):jeb (jcm xs):=fun y _=>let ⟨o,h1,h2,_⟩:=jmd xs y hn;⟨_,h1,h2⟩
theorem jkx(x:vB):x++⟨#[]⟩=x:=ByteArray.append_empty
theorem jix(b:vB)(hn:b.size<=1048576):∃ o,cutN (jaz b)=some (false,o,b.size)/\o+b.size=(jaz b).size/\(jaz b).extract o (o+b.size)=b:=by
 have:=jme b ⟨#[]⟩ hn;rwa [jkx]at this
theorem jfj(xs:vM)(hn:(catB xs).size<=1048576):∃ o,cutN (jcm xs)=some (true,o,(catB xs).size)/\o+(catB xs).size=(jcm xs).size/\(jcm xs).extract o (o+(catB xs).size)=catB xs:=by
 have:=jmd xs ⟨#[]⟩ hn;rwa [jkx]at this
theorem jeG(b:vB)(hn:b.size<=1048576):∃ r,cutN (jaz b)=some r/\jeF (jaz b) r=some b:=by
 obtain⟨o,e,q,z⟩:=jix b hn
 exact⟨_,e,by unfold jeF;rw[if_pos ⟨rfl,q⟩,z]⟩
theorem jdr(b:vB)(hn:b.size=32):∃ r,cutN (jaz b)=some r/\jfm (jaz b) r=some b:=by
 obtain⟨r,e,o⟩:=jeG b vO
 exact⟨r,e,by unfold jfm;rw[o];simp[Option.filter,hn]⟩
theorem jmz(xs:vM)(hn:(catB xs).size<=1048576):∃ r,cutN (jcm xs)=some r/\jfm (jcm xs) r=none:=by
 obtain⟨o,e,q,z⟩:=jfj xs hn
 exact⟨_,e,by unfold jfm jeF;rw[if_neg (by simp)];rfl⟩
section
attribute [local go_sem] Oper.semAt_some
theorem jaf{P:Program}{w:vW}{ops:Array Oper}{rest:List Oper}{o:Oper}{a:Act}{Q:Exit->Act->vW->Prop}(t:TypeId)(x:Operand)(ho:o.op=.load t x)(hw:Region.wanted o (yielded ops a.tmps)=true)(v:vV)(p:Addr)(hx:a.eval x=.pointer (some p))
  (hr:(Instr.loadAt t (.pointer (some p))).run P w=.ok v w) (h:wpList P ops Q rest (a.put o.dst v) w):wpList P ops Q (o :: rest) a w:=by
 unfold wpList;rw[if_pos hw];refine .inl (jcD (v:=v) (w':=w) ?_ h);simp only[execOp,ho,hx,bS,hr,Result.andThen,cJ]
theorem jb4(W:vW)(n:jad)(hr:n.refs.length=16):(Instr.loadAt 147 (.pointer (some ⟨W.heap.size,0,none⟩))).run Tryz.prog (W.alloc (.cells n.cells.toArray 147))=.ok n.V (W.alloc (.cells n.cells.toArray 147)):=
 jbx _ _ n hr (Blk.new W _)
theorem Tryz.isNode:jgI (Tryz.prog.underlying 99)=true:=vY
theorem Tryz.szNode:(Tryz.prog.info? 99).map (·.size)=some 19:=vY
theorem jas(W:vW)(b:Nat)(n:jad)(hr:n.refs.length=16)(hB:Blk W b (.cells n.cells.toArray 99)):(Instr.loadAt 99 (.pointer (some ⟨b,0,none⟩))).run Tryz.prog W=.ok n.V W:=by
 obtain⟨q,e⟩:=jfY Tryz.isNode
 exact jel e (by rw[n.cells_len hr];exact Tryz.szNode) (fun j v o=>by rw[jhX];exact hB.cellL o)
theorem jAC(w:vW)(n:jad)(hr:n.refs.length=16)(hp:n.pathOk 0=true)(h0:0 < n.value.size)(h8:n.value.size<=80)(hb:n.behindN=0):vR 110 #[n.V] w (.bool true):=by
 have A:n.path.size<=1000000:=by
  have:n.pathOk 0=true:=hp
  simp only[jad.pathOk,cI,decide_eq_true_eq]at this;omega
 have q:=jb4 w n hr;have K:n.cells[2]?=some (.string n.value):=rfl;have O:=ja4 h0;have c1:(n.value.size:Int)<=80:=vO
 have Q:=Hd hp;have X:=Hd hb;have HH:=Hd h0;clear hp hb h0;unfold jad.V at q ⊢;go_enter Tryz.func110,Tryz.ntmps110;go_wp2_with (refine jaf 147 (.tmp 1) rfl rfl _ _ rfl q ?_)
 refine vC (jfs _ n hr 0 A) fun w1 z=>?_;rw[Q.o];have E:=(Blk.new w (.cells n.cells.toArray 147)).keeps z (fun h=>h);have Z:=E.cellL K;have e:=jbx w1 _ n hr E;have H:=Hd (((ExtR w).alloc _).trans z);unfold jad.V at e;clear q z E;go_wp2_with (refine jaf 147 (.tmp 1) rfl rfl _ _ rfl e ?_)
 refine vH (jhZ _ n hr) fun w2 z=>?_;rw[X.o];have J:=Hd (H.o.trans z);clear e Z;go_wp2_with fail
 go_ret
 exact⟨rfl,J.o⟩
def jak:jad:=⟨0,⟨#[]⟩,⟨#[]⟩,List.replicate 16 ⟨#[]⟩⟩
theorem jAI(w:vW):vR 109 #[jak.V] w (.bool true):=by
 have e:=jb4 w jak rfl;have o:jak.cells.toArray=#[.int .i64 0,.string ⟨#[]⟩,.string ⟨#[]⟩,.string ⟨#[]⟩,.string ⟨#[]⟩,.string ⟨#[]⟩,.string ⟨#[]⟩,.string ⟨#[]⟩,.string ⟨#[]⟩,.string ⟨#[]⟩,.string ⟨#[]⟩,.string ⟨#[]⟩,.string ⟨#[]⟩,.string ⟨#[]⟩,.string ⟨#[]⟩,.string ⟨#[]⟩,.string ⟨#[]⟩,.string ⟨#[]⟩,.string ⟨#[]⟩]:=rfl;unfold jad.V at e ⊢;rw[o]at e ⊢;have q:∀ w,(binOp .eql 147 (.agg #[.int .i64 0,.string ⟨#[]⟩,.string ⟨#[]⟩,.string ⟨#[]⟩,.string ⟨#[]⟩,.string ⟨#[]⟩,.string ⟨#[]⟩,.string ⟨#[]⟩,.string ⟨#[]⟩,.string ⟨#[]⟩,.string ⟨#[]⟩,.string ⟨#[]⟩,.string ⟨#[]⟩,.string ⟨#[]⟩,.string ⟨#[]⟩,.string ⟨#[]⟩,.string ⟨#[]⟩,.string ⟨#[]⟩,.string ⟨#[]⟩]) (.agg #[.int .i64 0,.string ⟨#[]⟩,.string ⟨#[]⟩,.string ⟨#[]⟩,.string ⟨#[]⟩,.string ⟨#[]⟩,.string ⟨#[]⟩,.string ⟨#[]⟩,.string ⟨#[]⟩,.string ⟨#[]⟩,.string ⟨#[]⟩,.string ⟨#[]⟩,.string ⟨#[]⟩,.string ⟨#[]⟩,.string ⟨#[]⟩,.string ⟨#[]⟩,.string ⟨#[]⟩,.string ⟨#[]⟩,.string ⟨#[]⟩])).run Tryz.prog w=.ok (.bool true) w:=fun w=>by kernel_rfl
 go_enter Tryz.func109,Tryz.ntmps109;go_wp2_with (refine jaf 147 (.tmp 1) rfl rfl _ _ rfl e ?_)
 go_ret
 exact⟨rfl,(ExtR w).alloc _⟩
end
end Go.Proofs.YtepbencaoiompaaGreatDoor
