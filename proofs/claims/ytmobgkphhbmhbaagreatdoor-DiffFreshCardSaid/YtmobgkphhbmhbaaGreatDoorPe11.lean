/- Lemmas; each is under no condition but those that it states. -/
import Derived.Test.YtmobgkphhbmhbaaGreatDoorPe10
namespace Go.Proofs.YtmobgkphhbmhbaaGreatDoor
set_option linter.unusedSimpArgs false
set_option linter.unusedVariables false
set_option maxRecDepth 100000
set_option maxHeartbeats 16000000
open Go Go.RowKit
theorem ja1(b:vB):(jaC b).size<=b.size+9:=by
 unfold jaC;split
 ·omega
 ·rw[cO];have:=jea 128 b.size;omega
theorem jm3(s:vB):(jbz s).size=s.size / 2:=by
 show (jcM s.data.toList).length=_;rw[jeg];rfl
theorem jbR(p:vB)(leaf:Bool):(putB p leaf).size<=p.size / 2+1:=by
 unfold putB;rw[jm3];show (jdT p leaf++p.data.toList).length / 2<=_;rw[bG,show p.data.toList.length=p.size from rfl];unfold jdT oddB
 by_cases h:p.size % 2=1
 ·simp[h];omega
 ·have:(p.size % 2 == 1)=false:=by simpa using h
  rw[this];simp
theorem jby(x:vB)(xs:vM):(catB (x :: xs)).size=x.size+(catB xs).size:=by
 show ((x :: xs).map (·.data.toList)).flatten.length=x.data.toList.length+(xs.map (·.data.toList)).flatten.length;rw[bJ,List.flatten_cons,bG]
theorem jdP:(catB []).size=0:=rfl
theorem jcO(w:vW)(xs:vM)(T:TypeId):RdS (w.alloc (.cells (xs.map Value.string).toArray T)) (.slice (some ⟨w.heap.size,0,none⟩) xs.length xs.length) xs:=
 .inr ⟨w.heap.size,0,xs.length,rfl,by simp,bM _,fun j x e=>by rw[cL];exact (Blk.new w _).cellL (by rw[cA,e];rfl)⟩
def jlw(n:jae):vB:=jbY [jaC (putB n.path true),jaC n.value]
def extB(n:jae):vB:=jbY [jaC (putB n.path false),n.refs.getD 0 ⟨#[]⟩]
theorem jpw(w:vW)(n:jae)(hps:n.path.size<=900000)(hvs:n.value.size<=100000)(hv:jaM n.path=true):vR 160 #[n.V] w (.string (jlw n)):=by
 obtain⟨k,p,v,X⟩:=n
 simp only at hps hvs hv;unfold jae.V;have e1:(jae.cells ⟨k,p,v,X⟩)[1]?=some (.string p):=rfl;have e2:(jae.cells ⟨k,p,v,X⟩)[2]?=some (.string v):=rfl;have E:=jbR p true;have H:=ja1 (putB p true);have Z:=ja1 v;go_enter Tryz.func160,Tryz.ntmps160;go_wp2_with fail
 refine vC (jyy _ p true hps hv) fun w1 hE=>?_;have hB:=(Blk.new w _).keeps hE (fun h=>h);have J:=((ExtR w).alloc _).trans hE
 obtain⟨g,hg⟩:=vE w.heap.size
 rw[<-hg]at hB ⊢;have q2:=hB.cellL e2
 obtain⟨e,q⟩:=vE (putB p true)
 rw[<-q]at E H ⊢;have HL:=Hd (show jlw ⟨k,p,v,X⟩=jbY [jaC e,jaC v] by unfold jlw;rw[q]);have O:=Hd J;have Q2:=Hd q2;have z:e.size<=1000000000:=vO
 have hc:(catB [jaC e,jaC v]).size<=1000000000:=by rw[jby,jby,jdP];omega
 have HC:=Hd hc;have HP:=Hd z;have HV:=Hd hvs;clear e1 e2 E H Z hB hg q hE J q2 z hc hps hv hvs;go_wp2_with fail
 refine jai [0,2,1,3,4,5,6,7] Ext ExtR ExtT vY vY vY ?_;iterate 2 refine vK ?_
 refine qKC _ 97 #[.string e] (.string (jaC e)) rfl (fun w1=>jaB (vX 97) vY) (fun w1 h1=>jdY w1 e HP.o) ?_;refine vS ?_;refine qKL ⟨g,2,none⟩ _ rfl (fun w2 h2=>jac Tryz.uStr rfl (jaa (by exact Q2.o) h2)) ?_;refine vS ?_;refine qKC _ 97 #[.string v] (.string (jaC v)) rfl (fun w1=>jaB (vX 97) vY) (fun w1 h1=>jdY w1 v (by have:=HV.o;omega)) ?_;refine vS ?_;refine jee _ rfl vY rfl (fun w2 Q K hK=>?_);have a0:=Hd (O.o.trans ((jaj w1).trans Q));have HR:=Hd (jcO w2 [jaC e,jaC v] 9);clear Q O Q2 HV HP;go_simp;refine hK _ _ ((ExtR w2).alloc _) ?_;clear hK K;refine qKC _ 186 _ (.string (jbY [jaC e,jaC v])) rfl (fun w1=>jaB (vX 186) vY) (fun w3 h3=>jrC w3 _ [jaC e,jaC v] (HR.o.ext (by exact h3)) HC.o (show 2<=1000000000 by decide)) ?_;refine vS ?_
 refine vK ?_
 refine qKE (fun w3 Q=>?_);go_wp2_with fail
 go_ret
 exact⟨by rw[HL.o];rfl,(a0.o.alloc _).trans Q⟩
theorem jq2(w:vW)(n:jae)(hps:n.path.size<=900000)(r:vB)(hr:n.refs=r :: n.refs.tail)(hvs:r.size<=100000)(hv:jaM n.path=true):vR 161 #[n.V] w (.string (extB n)):=by
 obtain⟨k,p,v,rs⟩:=n
 simp only at hps hvs hr hv;cases rs with
 | nil=>cases hr
 | cons r' rt =>
 simp only[List.tail_cons,List.cons.injEq,and_true]at hr;subst hr;unfold jae.V;have e1:(jae.cells ⟨k,p,v,r' :: rt⟩)[1]?=some (.string p):=rfl;have e2:(jae.cells ⟨k,p,v,r' :: rt⟩)[3]?=some (.string r'):=rfl;have E:=jbR p false;have H:=ja1 (putB p false);go_enter Tryz.func161,Tryz.ntmps161;go_wp2_with fail
 refine vC (jyy _ p false hps hv) fun w1 X=>?_;have Z:=(Blk.new w _).keeps X (fun h=>h);have J:=((ExtR w).alloc _).trans X
 obtain⟨g,hg⟩:=vE w.heap.size
 rw[<-hg]at Z ⊢;have q2:=Z.cellL e2
 obtain⟨e,q⟩:=vE (putB p false)
 rw[<-q]at E H ⊢;have HL:=Hd (show extB ⟨k,p,v,r' :: rt⟩=jbY [jaC e,r'] by unfold extB;rw[q];rfl);have O:=Hd J;have Q2:=Hd q2;have z:e.size<=1000000000:=vO
 have hc:(catB [jaC e,r']).size<=1000000000:=by rw[jby,jby,jdP];omega
 have HC:=Hd hc;have HP:=Hd z;have HV:=Hd hvs;clear e1 e2 E H Z hg q X J q2 z hc hps hv hvs;go_wp2_with fail
 refine jai [0,1,2,3,4,5,6,7] Ext ExtR ExtT vY vY vY ?_
 refine vK ?_
 refine qKC _ 97 #[.string e] (.string (jaC e)) rfl (fun w1=>jaB (vX 97) vY) (fun w1 h1=>jdY w1 e HP.o) ?_;refine vS ?_;iterate 2 refine vK ?_
 refine qKL ⟨g,3,none⟩ _ rfl (fun w2 h2=>jac Tryz.uStr rfl (jaa (by exact Q2.o) h2)) ?_;refine vS ?_;refine jee _ rfl vY rfl (fun w2 Q K hK=>?_);have a0:=Hd (O.o.trans ((jaj w1).trans Q));have HR:=Hd (jcO w2 [jaC e,r'] 9);clear Q O Q2 HV HP;go_simp;refine hK _ _ ((ExtR w2).alloc _) ?_;clear hK K;refine qKC _ 186 _ (.string (jbY [jaC e,r'])) rfl (fun w1=>jaB (vX 186) vY) (fun w3 h3=>jrC w3 _ [jaC e,r'] (HR.o.ext (by exact h3)) HC.o (show 2<=1000000000 by decide)) ?_;refine vS ?_
 refine vK ?_
 refine qKE (fun w3 Q=>?_);go_wp2_with fail
 go_ret
 exact⟨by rw[HL.o];rfl,(a0.o.alloc _).trans Q⟩
section
attribute [local go_sem] Oper.semAt_some
def jae.ri(n:jae)(k:Nat):Nat:=(n.refsL.getD k (0,⟨#[]⟩)).1
def jae.rr(n:jae)(k:Nat):vB:=(n.refsL.getD k (0,⟨#[]⟩)).2
theorem juH(n:jae)(k:Nat):n.rv k=#[.int .i64 (n.ri k:Nat),.string (n.rr k)]:=rfl
def jgo(d:Option TypeDesc):Bool:=match d with | some (.struct _)=>true | _=>false
theorem jfC{d:Option TypeDesc}(h:jgo d=true):∃ fs,d=some (.struct fs):=by
 cases d with
 | none=>cases h
 | some d=>cases d <;> first | exact⟨_,rfl⟩ | cases h
theorem Tryz.isForm:jgo (Tryz.prog.underlying 181)=true:=vY
theorem je8:∀ (l:vM) (i:Nat) (x:Nat × vB),x∈jaE i l->i<=x.1/\x.1 < i+l.length/\l[x.1 - i]?=some x.2/\x.2.size≠0
 | [],i,x,h=>by cases h
 | r :: l,i,x,h=>by
  have e:x∈jaE (i+1) l->i<=x.1/\x.1 < i+(r :: l).length/\(r :: l)[x.1 - i]?=some x.2/\x.2.size≠0:=fun h=>by
   obtain⟨z,E,o,q⟩:=je8 l (i+1) x h
   refine⟨by omega,by simp;omega,?_,q⟩
   rw[show x.1 - i=(x.1 - (i+1))+1 by omega,List.getElem?_cons_succ];exact o
  unfold jaE at h;split at h
  ·exact e h
  ·rename_i hr
   rcases bK.1 h with rfl | h
   ·exact⟨bM _,by simp,by simp,hr⟩
   ·exact e h
theorem juD(n:jae)(hr:n.refs.length=16){k:Nat}(hk:k < n.refsL.length):n.ri k < 16/\n.refs[n.ri k]?=some (n.rr k)/\(n.rr k).size≠0:=by
 have e:(n.refsL.getD k (0,⟨#[]⟩))∈n.refsL:=by rw[bH,bA hk];exact fC _
 obtain⟨_,o,q,z⟩:=je8 n.refs 0 _ e
 rw[hr]at o
 exact⟨by unfold jae.ri;omega,q,z⟩
theorem Tryz.szForm:(Tryz.prog.info? 181).map (·.size)=some 19:=vY
theorem jbU(W:vW)(b:Nat)(n:jae)(hr:n.refs.length=16)(hB:Blk W b (.cells n.cells.toArray 181)):(Instr.loadAt 181 (.pointer (some ⟨b,0,none⟩))).run Tryz.prog W=.ok n.V W:=by
 obtain⟨q,e⟩:=jfC Tryz.isForm
 exact jdX e (by rw[n.cells_len hr];exact Tryz.szForm) (fun j v o=>by rw[jhu];exact hB.cellL o)
def jwk(n:jae)(k:Nat):Nat:=match k with | 0=>0 | k+1=>n.ri k+1
def jae.behindN(n:jae):Nat:=jwk n n.refsL.length
def BehC(w:vW)(gn gb:Nat)(n:jae)(k:Nat)(W:vW):Prop:=Ext w W/\Blk W gn (.cells n.cells.toArray 181)/\Blk W gb (.cells #[.int .i64 (jwk n k:Nat)] 3)
theorem jns(w:vW)(n:jae)(hr:n.refs.length=16):vR 183 #[n.V] w (.int .i64 (n.behindN:Nat)):=by
 have HV:Hid (n.V=.agg n.cells.toArray):=rfl
 obtain⟨Z,z⟩:=vE ((w.alloc (.cells n.cells.toArray 181)).alloc (.cells #[.int .i64 0] 3))
 have B0:Blk Z w.heap.size (.cells n.cells.toArray 181):=by rw[z];exact (Blk.new w _).alloc _
 have Q:=jbU Z w.heap.size n hr B0;rw[z]at Q;unfold jae.V at Q ⊢;refine (callsIn_wide (n:=0)).1 ?_;refine callsIn_of_wp_marks Tryz.func183 rfl trivial ?_ rfl;simp only[Tryz.ntmps183,dE,bQ,dM,Nat.reduceAdd,Nat.reduceSub,dH,dG,dR,dL,cP,cX];gi_wp2_with (refine jbn rfl 181 (.tmp 1) rfl _ _ rfl Q ?_)
 refine⟨trivial,rfl,CallsIn.mono (callsIn_wide.2 (jow _ n)) ?_⟩
 rintro e w1 ⟨rfl,X,hE⟩;rw[<-z]at X hE ⊢
 obtain⟨J,a0⟩:=vE (w.heap.size+1)
 have a1:Ext w Z:=by rw[z];exact ((ExtR w).alloc _).alloc _
 have B1:Blk Z J (.cells #[.int .i64 0] 3):=by
  rw[z,a0];have:=Blk.new (w.alloc (.cells n.cells.toArray 181)) (.cells #[.int .i64 0] 3);rwa [bN]at this
 have a5:Z.heap.size=w.heap.size+2:=by rw[z];simp
 have B2:=B1.keeps hE (fun h=>h);rw[<-a0]
 obtain⟨gn,a2⟩:=vE Z.heap.size
 rw[<-a2]at X ⊢;have a6:J≠gn:=vO
 have a9:=B2.lt;have b0:=X.lt;have a3:=a1.trans hE;have a7:w.heap.size<=J:=vO
 have a4:w.heap.size<=w1.heap.size:=a3.size;have a8:=Hd a3;clear Q hE a1 B0 B1 a5 a0 a2 z Z;gi_wp2_with fail
 refine jen (N:=n.refsL.length) (gf:=163) (lb:=#[.pointer (some ⟨gn,0,none⟩)]) rfl (vX 163) (jkt gn n hr)
  (fun k=>rfl) (BehC w gn J n) (fun _ _ _=>False) (fun k W W' ⟨H,O,E⟩ e=>⟨H.trans e,O.keeps e (fun h=>h),E.keeps e (fun h=>h)⟩) (fun _ _ _ _ h _=>h) (fun k W ⟨_,h,_⟩=>h)
  (fun k W o ⟨H,O,E⟩=>⟨H.putObj (.inr a4) _,O.put_other vO _,E.put_other vO _⟩)
  (fun k W o ⟨H,O,E⟩=>⟨H.putObj (.inr vO) _,O.put_other vO _,E.put_other vO _⟩) (fun _ _ _ _ h=>h)
  ⟨a8.o,X,B2⟩ (fun k=>{ tmps:=#[n.V,.pointer (some ⟨w.heap.size,0,none⟩),.int .i64 0,.pointer (some ⟨J,0,none⟩),.int .i64 (n.ri k:Nat),n.V,.func (.func 163) #[] #[.pointer (some ⟨gn,0,none⟩)],.int .i64 (n.ri k:Nat),.string (n.rr k),undef,undef,undef],defers:=[] })
  ?hassign ?hbody ?hdone ?hstop
 case hassign =>
  intro l j W K hK;rw[juH,jq4];simp only[dI,dA];gi_wp2;exact hK
 case hbody =>
  intro l k W hk ⟨H,O,E⟩ hlt;have q:=E.cell (i:=0) (v:=.int .i64 (jwk n k:Nat)) vF;have f:W.frozen? ⟨J,0,none⟩=false:=E.frozen;have H1:=Hd H;have H2:=Hd O;have H3:=Hd E;clear H O E;have b1:=(juD n hr hk).1;gi_wp2;rw[show ((n.ri k:Nat):Int)+1=((n.ri k+1:Nat):Int)from by omega];have b2:=H2.o.lt;have hx:jad (fun b=>b≠w1.heap.size/\b≠w1.heap.size+1) W (W.setCell ⟨J,0,none⟩ (.int .i64 ((n.ri k+1:Nat):Int))):=(jad.refl _ W).setCell (.inl ⟨by show J≠_;omega,by show J≠_;omega⟩) _
  exact⟨hx,H1.o.setCell (.inr a7) _,H2.o.set_other (p:=⟨J,0,none⟩) (fun e=>a6 e.symm) _,H3.o.set_same (i:=0) _⟩
 case hdone =>
  intro W ⟨H,O,E⟩ hd;have q:=E.cell (i:=0) (v:=.int .i64 (n.behindN:Nat)) vF;have H1:=Hd H;have HD:=Hd hd;clear H O E hd;gi_wp2
  refine⟨by simp,.inl ⟨_,_,rfl,run_takeDeferred HD.o,?_⟩⟩
  refine⟨_,results_tmp rfl _ _ _,?_⟩
  exact⟨rfl,H1.o.putObj (.inr a4) _⟩
 case hstop=>intro c k W _ _ h;exact h.elim
theorem Tryz.uStrs:Tryz.prog.underlying 22=some (.slice 9):=vY
theorem Tryz.infoStr:(Tryz.prog.info? 9).map (fun i=>(i.zero,i.size,i.bytes))=some (some (.string ⟨#[]⟩),1,16):=vY
def jdZ(n:jae)(k:Nat):vM:=(n.refsL.take k).foldl (fun l x=>l.set x.1 x.2) (List.replicate 17 (jaC ⟨#[]⟩))
def jbM(n:jae):vM:=(jdZ n n.refsL.length).set 16 (jaC n.value)
def jeQ(n:jae):vB:=jbY (jbM n)
structure BrS(w:World)(gn gs gb:Nat)(n:jae)(xs:vM)(W:World):Prop where
 ext:Ext w W
 node:Blk W gn (.cells n.cells.toArray 181)
 var:Blk W gb (.cells #[.slice (some ⟨gs,0,none⟩) 17 17] 22)
 row:Blk W gs (.cells (xs.map Value.string).toArray 9)
 len:xs.length=17
theorem BrS.st{w:vW}{gn gs gb:Nat}{n:jae}{xs:vM}{W W':vW}(h:BrS w gn gs gb n xs W)(e:Ext W W'):BrS w gn gs gb n xs W':=
 ⟨h.ext.trans e,h.node.keeps e (fun h=>h),h.var.keeps e (fun h=>h),h.row.keeps e (fun h=>h),h.len⟩
theorem BrS.put{w:vW}{gn gs gb:Nat}{n:jae}{xs:vM}{W:vW}(h:BrS w gn gs gb n xs W)(r:Nat)(hr:w.heap.size<=r)(h1:gn≠r)(h2:gs≠r)(h3:gb≠r)(o:Obj):BrS w gn gs gb n xs (W.putObj r o):=
 ⟨h.ext.putObj (.inr hr) _,h.node.put_other h1 _,h.var.put_other h3 _,h.row.put_other h2 _,h.len⟩
theorem BrS.set{w:vW}{gn gs gb:Nat}{n:jae}{xs:vM}{W:vW}(h:BrS w gn gs gb n xs W)(hr:w.heap.size<=gs)(h1:gn≠gs)(h3:gb≠gs)(j:Nat)(x:vB):BrS w gn gs gb n (xs.set j x) (W.setCell ⟨gs,j,none⟩ (.string x)):=
 ⟨h.ext.setCell (.inr hr) _,h.node.set_other (p:=⟨gs,j,none⟩) h1 _,h.var.set_other (p:=⟨gs,j,none⟩) h3 _,by
  have:=h.row.set_same (i:=j) (.string x)
  rw[show (xs.map Value.string).toArray.setIfInBounds j (.string x)=((xs.set j x).map Value.string).toArray by simp[iR]]at this;exact this,by simp[h.len]⟩
theorem jhO(n:jae)(k:Nat):(jdZ n k).length=17:=by
 unfold jdZ;generalize n.refsL.take k=l
 suffices ∀ (l:List (Nat × vB)) (m:vM),(l.foldl (fun l x=>l.set x.1 x.2) m).length=m.length by rw[this];simp
 intro l;induction l with
 | nil=>intro m;rfl
 | cons x r ih=>intro m;rw[dZ,ih];simp
theorem jkW(n:jae){k:Nat}(hk:k < n.refsL.length):jdZ n (k+1)=(jdZ n k).set (n.ri k) (n.rr k):=by
 unfold jdZ;rw[cR hk,fO];simp[jae.ri,jae.rr,bH,hk]
def jpm(k:Nat):vM:=List.replicate k (jaC ⟨#[]⟩)++List.replicate (17 - k) ⟨#[]⟩
theorem jq3(k:Nat)(hk:k < 17):(jpm k).set k (jaC ⟨#[]⟩)=jpm (k+1):=by
 unfold jpm;rw[fI _ _ (by simp),show k - (List.replicate k (jaC ⟨#[]⟩)).length=0 by simp,show 17 - k=(17 - (k+1))+1 by omega,fG,dI,List.replicate_succ']
 simp
def jyM(w:vW)(gn gs gb:Nat)(n:jae)(i:vV)(wr:vW):Prop:=∃ k:Nat,k<=17/\i=.int .i64 k/\BrS w gn gs gb n (jpm k) wr
theorem jkY(w:vW)(n:jae)(hr:n.refs.length=16)(hv:n.value.size<=100000)(hc:(catB (jbM n)).size<=1000000000):vR 162 #[n.V] w (.string (jeQ n)):=by
 have HV:Hid (n.V=.agg n.cells.toArray):=rfl
 obtain⟨i0,hi,b9,c0,c2⟩:=info_parts Tryz.infoStr
 have a1:=jfa (P:=Tryz.prog) (w.alloc (.cells n.cells.toArray 181)) Tryz.uStrs hi b9 c0 rfl .i64 .i64 17 (by rw[c2];omega) (by unfold maxLen;omega)
 obtain⟨q,a2⟩:∃ g,g=w.heap.size+1:=⟨_,rfl⟩
 obtain⟨gb,a3⟩:∃ g,g=w.heap.size+2:=⟨_,rfl⟩
 rw[bN, <-a2]at a1
 obtain⟨W1,X⟩:=vE ((w.alloc (.cells n.cells.toArray 181)).alloc (.cells (List.replicate 17 (Value.string ⟨#[]⟩)).toArray 9))
 rw[<-X]at a1;have c6:(Instr.makeSlice 22 (.int .i64 17) (.int .i64 17)).run Tryz.prog (w.alloc (.cells n.cells.toArray 181))=.ok (.slice (some ⟨q,0,none⟩) 17 17) W1:=a1;clear a1;have a4:W1.heap.size=gb:=by rw[X,a3];simp
 have S0:BrS w w.heap.size q gb n (jpm 0) (W1.alloc (.cells #[.slice (some ⟨q,0,none⟩) 17 17] 22)):=
  ⟨by rw[X];exact (((ExtR w).alloc _).alloc _).alloc _,by rw[X];exact ((Blk.new w _).alloc _).alloc _,by rw[<-a4];exact Blk.new W1 _,by
   rw[X,a2]
   have:=(Blk.new (w.alloc (.cells n.cells.toArray 181)) (.cells (List.replicate 17 (Value.string ⟨#[]⟩)).toArray 9)).alloc (.cells #[.slice (some ⟨w.heap.size+1,0,none⟩) 17 17] 22)
   rw[bN]at this;exact this,rfl⟩
 obtain⟨gn,a5⟩:∃ g,g=w.heap.size:=⟨_,rfl⟩
 rw[<-a5]at S0;have n1:gn≠q:=vO
 have n2:gb≠q:=vO
 have n3:w.heap.size<=q:=vO
 have c3:=Hd S0;have HG:=Hd a5;have c7:=Hd a2;have c8:=Hd a3;have c4:=Hd a4;have N1:=Hd n1;have N2:=Hd n2;clear X S0 a5 a2 a3 a4 n1 n2;unfold jae.V;refine (callsIn_wide (n:=0)).1 ?_;refine callsIn_of_wp_marks Tryz.func162 rfl trivial ?_ rfl;simp only[Tryz.ntmps162,dE,bQ,dM,Nat.reduceAdd,Nat.reduceSub,dH,dG,dR,dL,cP,cX];gi_wp2_with fail
 rw[<-HG.o,c4.o];gi_loopw [10] (fun i wr=>jyM w gn q gb n i wr) (fun i _=>17 - (intOf i).toNat)
 case atStart=>exact⟨0,by omega,rfl,c3.o⟩
 case round =>
  obtain⟨k,hk,rfl,Q⟩:=hrel
  have q3:=Q.var.cell (i:=0) (v:=.slice (some ⟨q,0,none⟩) 17 17) vF;have E:=Hd Q;clear Q
  by_cases hlt:k < 17
  ·have b1:(k:Int) < 17:=vO
   gi_wp2_with fail
   refine wpIn_wide.2 (jar [0,1,2,3,4] [4] Ext ExtR ExtT vY vY vY ?_);refine qL ⟨gb,0,none⟩ _ rfl (fun w1 h1=>jac Tryz.uStrs rfl (jaa (by exact E.o.var.cell (i:=0) (v:=.slice (some ⟨q,0,none⟩) 17 17) vF) h1)) ?_;refine vS ?_
   refine vP ?_
   refine jc5 _ 97 #[.string ⟨#[]⟩] (.string (jaC ⟨#[]⟩)) rfl vY rfl (fun w1=>jaB (vX 97) vY) (fun w1 h1=>jdY w1 ⟨#[]⟩ vI) ?_;refine vS ?_
   refine vP ?_
   refine qH _ rfl (fun w1 Z K hK=>?_);have H:=E.o.st ((jaj wr).trans Z)
   obtain⟨old,q1⟩:∃ v,w1.cell? ⟨q,k,none⟩=some v:=⟨_,H.row.cellL (bA (by rw[bZ,H.len];exact hlt))⟩
   have q2:w1.frozen? ⟨q,k,none⟩=false:=H.row.frozen;have S2:=H.set n3 N1.o N2.o k (jaC ⟨#[]⟩);rw[jq3 k hlt]at S2;have a0:=Hd S2;clear H S2 Z q3 E;go_simp;refine hK _ _ ?_;clear hK K q1 q2;refine qE (fun w2 Z=>?_);have z:=Hd (a0.o.st Z);clear Z a0;gi_wp2;go_roundw
   case rel=>exact⟨k+1,by omega,by go_num,z.o⟩
   case measure=>exact vJ
  ·have a8:k=17:=vO
   subst a8;have hB:=E.o.node;have a6:=jbU wr gn n hr hB;unfold jae.V at a6;clear hB;gi_wp2_with (refine jbn rfl 181 (.tmp 1) rfl _ _ rfl a6 ?_)
   refine⟨trivial,rfl,CallsIn.mono (callsIn_wide.2 (jow _ n)) ?_⟩
   rintro e w1 ⟨rfl,a7,hE⟩;have H:=E.o.st hE
   obtain⟨J,O⟩:∃ g,g=wr.heap.size:=⟨_,rfl⟩
   rw[<-O]at a7 ⊢;have h1:gn < J:=by rw[O];exact E.o.node.lt
   have h2:q < J:=by rw[O];exact E.o.row.lt
   have h3:gb < J:=by rw[O];exact E.o.var.lt
   have h4:=a7.lt;have a9:w.heap.size<=w1.heap.size:=H.ext.size;have b0:jpm 17=jdZ n 0:=rfl;rw[b0]at H;clear a6 hE E q3 b0 O;gi_wp2_with fail
   refine jen (N:=n.refsL.length) (gf:=163) (lb:=#[.pointer (some ⟨J,0,none⟩)]) rfl (vX 163) (jkt J n hr)
    (fun k=>rfl) (fun k W=>BrS w gn q gb n (jdZ n k) W/\Blk W J (.cells n.cells.toArray 181)) (fun _ _ _=>False) (fun k W W' ⟨h1,h2⟩ e=>⟨h1.st e,h2.keeps e (fun h=>h)⟩) (fun _ _ _ _ h _=>h) (fun k W ⟨_,h⟩=>h)
    (fun k W o ⟨h5,h6⟩=>⟨h5.put _ a9 vO vO vO _,h6.put_other vO _⟩)
    (fun k W o ⟨h5,h6⟩=>⟨h5.put _ vO vO vO vO _,h6.put_other vO _⟩) (fun _ _ _ _ h=>h)
    ⟨H,a7⟩ (fun k=>{ tmps:=#[n.V,.pointer (some ⟨gn,0,none⟩),.string ⟨#[]⟩,.pointer (some ⟨gb,0,none⟩),u4,.int .i64 (n.ri k:Nat),.string (n.rr k),.slice (some ⟨q,0,none⟩) 17 17,.slice (some ⟨q,0,none⟩) 17 17,.int .i64 17,.int .i64 17,.bool false,u12,u13,u14,u15,u16,u17,n.V,.func (.func 163) #[] #[.pointer (some ⟨J,0,none⟩)],.int .i64 (n.ri k:Nat),.string (n.rr k),undef,undef,undef,undef,undef,undef,undef,undef,undef,undef,undef],defers:=[] })
    ?hassign ?hbody ?hdone ?hstop
   case hassign =>
    intro l j W K hK;rw[juH,jq4];simp only[dI,dA];gi_wp2;exact hK
   case hbody =>
    intro l k W hk ⟨Q,hB⟩ hlt2;have b2:=juD n hr hk;have q3:=Q.var.cell (i:=0) (v:=.slice (some ⟨q,0,none⟩) 17 17) vF;have c9:=b2.1;have c1:(n.ri k:Int) < 17:=vO
    obtain⟨old,q1⟩:∃ v,W.cell? ⟨q,n.ri k,none⟩=some v:=⟨_,Q.row.cellL (bA (by rw[bZ,Q.len];omega))⟩
    have q2:W.frozen? ⟨q,n.ri k,none⟩=false:=Q.row.frozen;have E:=Hd Q;have HB:=Hd hB;clear Q hB b2 H;gi_wp2;have d0:=E.o.row.lt;have d1:=E.o.ext.size
    exact⟨(jad.refl _ W).setCell (.inl ⟨by show q≠_;omega,by show q≠_;omega⟩) _,by rw[jkW n hk];exact E.o.set n3 N1.o N2.o _ _,HB.o.set_other (p:=⟨q,n.ri k,none⟩) (by show J≠q;omega) _⟩
   case hdone =>
    intro W ⟨Q,hB⟩ hd;have q3:=Q.var.cell (i:=0) (v:=.slice (some ⟨q,0,none⟩) 17 17) vF;have E:=Hd Q;have HD:=Hd hd;clear Q hB hd H;gi_wp2_with fail
    refine wpIn_wide.2 (jar [0,1,2,3,4,5] [5] Ext ExtR ExtT vY vY vY ?_);refine qL ⟨gb,0,none⟩ _ rfl (fun w1 h1=>jac Tryz.uStrs rfl (jaa (by exact E.o.var.cell (i:=0) (v:=.slice (some ⟨q,0,none⟩) 17 17) vF) h1)) ?_;refine vS ?_
    refine vP ?_
    refine qL ⟨gn,2,none⟩ (.string n.value) rfl (fun w1 h1=>jac Tryz.uStr rfl (jaa (by exact E.o.node.cellL vF) h1)) ?_;refine vS ?_;refine jc5 _ 97 #[.string n.value] (.string (jaC n.value)) rfl vY rfl (fun w1=>jaB (vX 97) vY) (fun w1 h1=>jdY w1 n.value vO) ?_;refine vS ?_
    refine vP ?_
    refine qH _ rfl (fun w2 Z K hK=>?_);have H:=E.o.st ((jaj W).trans Z);have b3:=HD.o.keeps ((jaj W).trans Z) (fun h=>h)
    obtain⟨old,q1⟩:∃ v,w2.cell? ⟨q,16,none⟩=some v:=⟨_,H.row.cellL (bA (by rw[bZ,H.len];omega))⟩
    have q2:w2.frozen? ⟨q,16,none⟩=false:=H.row.frozen;have S2:=H.set n3 N1.o N2.o 16 (jaC n.value);have b4:=b3.set_other (p:=⟨q,16,none⟩) (by show w1.heap.size≠q;omega) (.string (jaC n.value));have a0:=Hd S2;have b5:=Hd b4;clear H S2 Z q3 E HD b3 b4;go_simp;refine hK _ _ ?_;clear hK K q1 q2;refine qE (fun w3 Z=>?_);have z:=Hd (a0.o.st Z);have b6:=Hd (b5.o.keeps Z (fun h=>h));have q3:=z.o.var.cell (i:=0) (v:=.slice (some ⟨q,0,none⟩) 17 17) vF;clear Z a0 b5;gi_wp2_with fail
    have b7:RdS w3 (.slice (some ⟨q,0,none⟩) 17 17) (jbM n):=by
     have hl:(jbM n).length=17:=z.o.len;exact .inr ⟨q,0,17,by rw[hl],z.o.row.lt,by omega,fun j x hx=>by rw[cL];exact z.o.row.cellL (by rw[cA];show ((jbM n)[j]?).map _=_;rw[hx];rfl)⟩
    refine⟨trivial,rfl,CallsIn.mono (callsIn_wide.2 (jrC w3 _ (jbM n) b7 hc (by have:(jbM n).length=17:=z.o.len;omega))) ?_⟩
    rintro e w4 ⟨rfl,hE⟩;have b8:=b6.o.keeps hE (fun h=>h);have HE:=Hd (z.o.ext.trans hE);have c5:=Hd b8;clear hE b8 z b6 b7 q3;gi_wp2_with fail
    refine⟨by simp,.inl ⟨_,_,rfl,run_takeDeferred c5.o,?_⟩⟩
    refine⟨_,results_tmp rfl _ _ _,?_⟩
    exact⟨rfl,HE.o.putObj (.inr a9) _⟩
   case hstop=>intro c k W _ _ h;exact h.elim
def jf9(x:vB):Prop:=∀ y:vB,(x++y).size<=1000000000->∃ r,cutN (x++y)=some r/\r.2.1+r.2.2=x.size
theorem jvS(x:vB)(xs:vM):catB (x :: xs)=x++catB xs:=by
 apply ByteArray.ext;apply Array.ext';simp[catB,dJ]
theorem jle(x y:vB):(x++y).extract 0 x.size=x:=ByteArray.extract_append_eq_left rfl
theorem jib(x y:vB):(x++y).extract x.size (x++y).size=y:=ByteArray.extract_append_eq_right rfl (by rw[cO])
theorem jjV{s:vB}{r:Bool × Nat × Nat}(h:cutN s=some r):0 < s.size/\0 < r.2.1+r.2.2:=by
 unfold cutN at h
 by_cases h0:0 < s.size
 ·refine⟨h0,?_⟩
  rw[dif_pos h0]at h;simp only at h
  by_cases h1:s[0].toNat < 128
  ·rw[if_pos h1]at h
   obtain rfl:=bV h;simp
  ·rw[if_neg h1]at h
   obtain⟨o,e⟩:∃ o:Bool × Nat,o=if s[0].toNat < 192 then (false,s[0].toNat - 128)else (true,s[0].toNat - 192):=⟨_,rfl⟩
   rw[<-e]at h;clear e
   obtain⟨l,m⟩:=o
   simp only at h
   by_cases h3:m<=55
   ·rw[if_pos h3]at h
    split at h
    ·obtain rfl:=bV h;simp only;omega
    ·cases h
   ·rw[if_neg h3]at h
    split at h
    ·split at h
     ·obtain rfl:=bV h;simp only;omega
     ·cases h
    ·cases h
 ·rw[dif_neg h0]at h;cases h
theorem jtI{xs:vM}{k:Nat}(h:k < xs.length):catB (xs.drop k)=xs[k]++catB (xs.drop (k+1)):=by
 rw[iI h,jvS]
def jzx:vV->Nat | .string b=>b.size | _=>0
def jvs(W:vW)(xs:vM)(C:Nat->vW->Prop)(v:vV)(wr:vW):Prop:=∃ k:Nat,k<=xs.length/\v=.string (catB (xs.drop k))/\C k wr
theorem jv3(b:Nat)(xs:vM)(hx:∀ x∈xs,jf9 x)(hs:(catB xs).size<=1000000000):js3 Tryz.prog 199 #[.pointer (some ⟨b,0,none⟩)] xs.length (fun k=>#[.string (xs.getD k ⟨#[]⟩),.nilIface]) (fun W=>Blk W b (.cells #[.string (catB xs)] 9)):=by
 intro l C Cx hC a0 hS W hY h0;have hB:=(hS 0 W h0).cell (i:=0) (v:=.string (catB xs)) vF;have HY:=Hd hY;have H0:=Hd h0;have a7:=Hd hs;clear hY h0 hS hs;refine callsIn_of_wp Tryz.func199 rfl trivial ?_ rfl;simp only[Tryz.ntmps199,dE,bQ,dM,Nat.reduceAdd,Nat.reduceSub,dH,dG,dR,dL,cP,cX];gi_wp2;have a8:=Hd hC;have b7:=Hd a0;clear hC a0;gi_loopw [3] (fun v wr=>jvs W xs C v wr) (fun v _=>jzx v)
 case atStart=>exact⟨0,by omega,rfl,H0.o⟩
 case round =>
  obtain⟨k,hk,rfl,a1⟩:=hrel
  have a2:=Hd a1;clear a1
  by_cases hlt:k < xs.length
  ·obtain⟨x,E⟩:=vE (xs[k])
   have q:=jtI hlt;rw[<-E]at q
   obtain⟨y,hy⟩:=vE (catB (xs.drop (k+1)))
   rw[<-hy]at q;have H:(x++y).size<=1000000000:=by
    have h1:(catB (xs.drop k)).size<=(catB xs).size:=by
     have h2:(catB xs).size=(catB (xs.take k)).size+(catB (xs.drop k)).size:=by
      conv=>lhs;rw[<-dF k xs]
      simp only[catB,ByteArray.size,bY,List.flatten_append,dE,bG]
     omega
    rw[q]at h1;have:=a7.o;omega
   obtain⟨r,K,O⟩:=hx x (E ▸ fC hlt) y H
   obtain⟨z,Z⟩:=vE (x++y)
   have a3:z.size=x.size+y.size:=by rw[Z,cO]
   rw[<-Z]at q H K;rw[q];have J:=jjV K;have b8:=jbe J.1;have a4:z.extract (r.2.1+r.2.2) z.size=y:=by
    rw[O,Z];exact jib x y
   have b9:z.extract 0 x.size=x:=by
    rw[Z];exact jle x y
   have a5:xs.getD k ⟨#[]⟩=x:=by rw[bH,bA hlt, <-E];rfl
   have a9:=Hd a5;have HX:=Hd E;have b0:=Hd H;have b2:=Hd hy;have HZ:=Hd Z;have Q:=Hd a3;have HP:=Hd J;have b3:=Hd O;clear E q hy Z a5 J O a3;gi_wp2_with fail
   refine⟨trivial,rfl,CallsIn.mono (callsIn_wide.2 (jxV wr z r H K)) ?_⟩
   rintro e w1 ⟨rfl,hE⟩;unfold jdA;rw[a4]
   obtain⟨u,hu⟩:=vE (z.extract r.2.1 (r.2.1+r.2.2))
   rw[<-hu]
   obtain⟨b1,o,ln⟩:=r
   simp only;clear K a4 hu H
   obtain⟨fn,tm,c0,bd,b4,a6⟩:=HY.o k w1 hlt (a8.o k _ _ a2.o hE)
   simp only[a9.o]at b4;have b5:=Hd a6;clear hE a6;have c1:(z.size:Int) - (y.size:Int)=(x.size:Int):=by have:=Q.o;omega
   have c2:(x.size:Int)<=(z.size:Int):=by have:=Q.o;omega
   have c3:z.size<=1000000000:=b0.o;gi_wp2
   refine⟨rfl,(b5.o.mono ?_)⟩
   rintro e w5 (⟨rfl,C5⟩ |⟨rfl,C5⟩)
   ·have X:=Hd C5
    clear C5;gi_wp2;go_roundw
    case rel=>exact⟨k+1,by omega,by rw[<-b2.o],X.o⟩
    case measure=>show y.size < z.size;have:=(show 0 < o+ln from HP.o.2);have:=Q.o;have:=(show o+ln=x.size from b3.o);omega
   ·have X:=Hd C5
    clear C5;gi_wp2;refine bodyPost_ret (results_none rfl _ _ _) rfl ?_
    exact⟨⟨_,rfl⟩,.inr ⟨k+1,by omega,by omega,X.o⟩⟩
  ·have b6:k=xs.length:=vO
   subst b6;have hd:catB (xs.drop xs.length)=⟨#[]⟩:=by rw[iP];rfl
   rw[hd];gi_wp2;refine bodyPost_end (results_none rfl _ _ _) rfl ?_
   exact⟨⟨_,rfl⟩,.inl a2.o⟩
theorem jx4(w:vW)(s:vB):vQ 179 #[.string s] w fun e w'=>e=.returned (.func (.func 199) #[] #[.pointer (some ⟨w.heap.size,0,none⟩)])/\Blk w' w.heap.size (.cells #[.string s] 9)/\Ext w w':=by
 go_enter Tryz.func179,Tryz.ntmps179;go_wp2_with fail
 go_ret
 exact⟨rfl,Blk.new w _,(ExtR w).alloc _⟩
theorem Tryz.sStrs:jep Tryz.prog 22 9 1 16:=jep.mk' vY (show (Tryz.prog.info? 9).map (fun i=>(i.zero,i.size,i.bytes))=some (some (.string ⟨#[]⟩),1,16) by kernel_rfl) rfl vI
structure ItS(w:World)(g m:Nat)(xs:vM)(k:Nat)(W:World):Prop where
 ext:Ext w W
 b2:Blk W g (.cells #[.slice none 0 0] 22)
 b3:Blk W (g+1) (.cells #[.int .i64 0] 28)
 bc:Blk W (g+3) (.cells #[.string (catB xs)] 9)
 row:∃ v,Blk W (g+2) (.cells #[v] 22)/\W.ownsRow 0 9 1 v k ((xs.take k).map Value.string)/\∀ b,v.ownBlock=some b->m+2<=b
theorem ItS.st{w:vW}{g m:Nat}{xs:vM}{k:Nat}{W W':vW}(h:ItS w g m xs k W)(e:Ext W W'):ItS w g m xs k W':=
 let ⟨v,h1,h2,h3⟩:=h.row
 ⟨h.ext.trans e,h.b2.keeps e (fun h=>h),h.b3.keeps e (fun h=>h),h.bc.keeps e (fun h=>h),v,h1.keeps e (fun h=>h),jbh h2 e,h3⟩
theorem ItS.put{w:vW}{g m:Nat}{xs:vM}{k:Nat}{W:vW}(h:ItS w g m xs k W){r:Nat}(hr:w.heap.size<=r)(h1:g+3 < r)(h2:r < m+2)(o:Obj):ItS w g m xs k (W.putObj r o):=
 let ⟨v,h3,h4,h5⟩:=h.row
 ⟨h.ext.putObj (.inr hr) _,h.b2.put_other vO _,h.b3.put_other vO _,h.bc.put_other vO _,v,h3.put_other vO _,
  jaY h4 (jad.onePut W r o) (fun b hb e=>by have:=h5 b hb;omega),h5⟩
theorem jrq(w:vW)(xs:vM)(hx:∀ x∈xs,jf9 x)(hs:(catB xs).size<=1000000000)(hn:xs.length<=1000000):vQ 152 #[.string (catB xs)] w fun e w'=>∃ v,e=.returned (.tuple #[v,.int .i64 0])/\SRow w w' v xs.length xs:=by
 obtain⟨i0,hi,a7,a8,a9⟩:=info_parts Tryz.infoStr
 refine (callsIn_wide (n:=0)).1 ?_;refine callsIn_of_wp_marks Tryz.func152 rfl trivial ?_ rfl;simp only[Tryz.ntmps152,dE,bQ,dM,Nat.reduceAdd,Nat.reduceSub,dH,dG,dR,dL,cP,cX];gi_wp2_with fail
 obtain⟨X,q⟩:=vE (((w.alloc (.cells #[.slice none 0 0] 22)).alloc (.cells #[.int .i64 0] 28)).alloc (.cells #[.slice none 0 0] 22))
 rw[<-q];have a2:X.heap.size=w.heap.size+3:=by rw[q];simp
 have E0:Ext w X:=by rw[q];exact ((((ExtR w).alloc _).alloc _).alloc _)
 have B2:Blk X w.heap.size (.cells #[.slice none 0 0] 22):=by rw[q];exact ((Blk.new w _).alloc _).alloc _
 have B3:Blk X (w.heap.size+1) (.cells #[.int .i64 0] 28):=by
  rw[q];have:=(Blk.new (w.alloc (.cells #[.slice none 0 0] 22)) (.cells #[.int .i64 0] 28)).alloc (.cells #[.slice none 0 0] 22);rwa [bN]at this
 have Z:Blk X (w.heap.size+2) (.cells #[.slice none 0 0] 22):=by
  rw[q];have:=(Blk.new ((w.alloc (.cells #[.slice none 0 0] 22)).alloc (.cells #[.int .i64 0] 28)) (.cells #[.slice none 0 0] 22));rwa [bN,bN]at this
 clear q
 refine⟨trivial,rfl,CallsIn.mono (callsIn_wide.2 (jx4 X (catB xs))) ?_⟩
 rintro e w1 ⟨rfl,O,hE⟩;rw[a2]at O ⊢;have S0:ItS w w.heap.size w1.heap.size xs 0 w1:=⟨E0.trans hE,B2.keeps hE (fun h=>h),B3.keeps hE (fun h=>h),O,_,Z.keeps hE (fun h=>h),fH _ _ _ _,fun b hb=>by cases hb⟩;have b7:=O.lt;have b0:=Hd S0;clear a2 E0 B2 B3 Z O hE S0 X;gi_wp2_with fail
 refine jen (N:=xs.length) (gf:=199) (lb:=#[.pointer (some ⟨w.heap.size+3,0,none⟩)]) rfl (vX 199) (jv3 (w.heap.size+3) xs hx hs)
  (fun k=>rfl) (ItS w w.heap.size w1.heap.size xs) (fun _ _ _=>False) (fun k W W' h e=>h.st e) (fun _ _ _ _ h _=>h) (fun k W h=>h.bc)
  (fun k W o h=>h.put vO vO vO _)
  (fun k W o h=>h.put vO vO vO _) (fun _ _ _ _ h=>h)
  b0.o (fun k=>{ tmps:=#[.string (catB xs),undef,.pointer (some ⟨w.heap.size,0,none⟩),.pointer (some ⟨w.heap.size+1,0,none⟩),.pointer (some ⟨w.heap.size+1+1,0,none⟩),.string (xs.getD k ⟨#[]⟩),.nilIface,undef,undef,.string (catB xs),.func (.func 199) #[] #[.pointer (some ⟨w.heap.size+3,0,none⟩)],.string (xs.getD k ⟨#[]⟩),.nilIface,undef,undef,undef,undef,undef,undef,undef,undef,undef,undef,undef,undef,undef],defers:=[] })
  ?hassign ?hbody ?hdone ?hstop
 case hassign =>
  intro l j W K hK;rw[jq4];simp only[dI,dA];gi_wp2;exact hK
 case hbody =>
  intro l k W hk H b8
  obtain⟨v,h1,h2,h3⟩:=H.row
  obtain⟨z,E,rfl⟩:=jaK h2
  obtain⟨x,a0⟩:=vE (xs.getD k ⟨#[]⟩)
  rw[<-a0];have q4:W.cell? ⟨w.heap.size+1+1,0,none⟩=some (.slice z k E):=h1.cell (i:=0) vF;have f4:W.frozen? ⟨w.heap.size+1+1,0,none⟩=false:=h1.frozen;have Q:=Hd H;have H1:=Hd h1;have H2:=Hd h2;have H3:=Hd h3;have b1:=Hd a0;clear H h1 h2 h3 a0;gi_wp2_with (gi_at_builtin;refine jbW _ rfl (.tmp 21) (.tmp 23) 22 rfl 9 i0 _ 1 16 Tryz.uStrs hi a7 a8 a9 rfl vI (.slice z k E) k _ rfl (jbh H2.o ((ExtR W).alloc _)) ⟨W.heap.size,0,none⟩ 1 1 [.string x] rfl rfl (ja3 (Blk.new W _)) (by simp[Value.oneCell']) (by unfold maxLen;omega) vO ?_)
  intro v' w6 r1 r2 r3;have K6:jad (fun b=>(Value.slice z k E).ownBlock=some b) W w6:=((jad.refl _ W).alloc _).trans r2;have e1:((xs.take k).map Value.string++[.string x])=(xs.take (k+1)).map Value.string:=by
   rw[cR hk,bY,b1.o];simp[bH,hk]
  have r1:w6.ownsRow 0 9 1 v' (k+1) ((xs.take (k+1)).map Value.string):=by rw[<-e1,jE];exact r1
  have b5:=Q.o.b2.lt;have b6:=H1.o.lt;have b9:w.heap.size<=w1.heap.size:=vO
  have nb:∀ b,b < w1.heap.size+2->¬(Value.slice z k E).ownBlock=some b:=fun b hb e=>by have:=H3.o b e;omega
  obtain⟨a3,a4,rfl⟩:=jaK r1
  have a5:∀ b,(Value.slice a3 (k+1) a4).ownBlock=some b->w1.heap.size+2<=b:=fun b hb=>by
   rcases r3 with r3 | r3
   ·exact H3.o b (r3 ▸ hb)
   ·have:=r3 b hb;omega
  have Z:=H1.o.keeps K6 (nb _ vO);have c0:w6.cell? ⟨w.heap.size+1+1,0,none⟩=some (.slice z k E):=Z.cell (i:=0) vF;have c1:w6.frozen? ⟨w.heap.size+1+1,0,none⟩=false:=Z.frozen;have J:=Hd K6;have b4:=Hd Z;have R1:=Hd r1;have a6:=Hd a5;have NB:=Hd nb;clear K6 r1 r2 r3 e1 a5 Z nb q4 f4;gi_wp2;have k7:jad (fun b=>b=w.heap.size+1+1) w6 (w6.setCell ⟨w.heap.size+1+1,0,none⟩ (.slice a3 (k+1) a4)):=jad.oneSet w6 ⟨w.heap.size+1+1,0,none⟩ _
  refine⟨(J.o.mono (fun x _ e=>?_)).trans' k7 (fun x _ e=>?_),?_⟩
  ·have:=H3.o x e;show x≠_/\x≠_;omega
  ·have e:x=_:=e;show x≠_/\x≠_;omega
  ·refine⟨(Q.o.ext.trans' J.o (fun x hx e=>by have:=H3.o x e;omega)).trans' k7 (fun x hx e=>by have e:x=_:=e;omega),
    (Q.o.b2.keeps J.o (NB.o _ vO)).keeps k7 (fun e=>by omega),(Q.o.b3.keeps J.o (NB.o _ vO)).keeps k7 (fun e=>by omega),(Q.o.bc.keeps J.o (NB.o _ vO)).keeps k7 (fun e=>by omega),
    _,b4.o.set_same (i:=0) _,jaY R1.o k7 (fun b hb e=>by have:=a6.o b hb;omega),a6.o⟩
 case hdone =>
  intro W H hd
  obtain⟨v,h1,h2,h3⟩:=H.row
  obtain⟨z,E,rfl⟩:=jaK h2
  have q4:W.cell? ⟨w.heap.size+1+1,0,none⟩=some (.slice z xs.length E):=h1.cell (i:=0) vF;have q2:=H.b2.cell (i:=0) (v:=.slice none 0 0) vF;have f2:W.frozen? ⟨w.heap.size,0,none⟩=false:=H.b2.frozen;have q3:=H.b3.cell (i:=0) (v:=.int .i64 0) vF;have f3:W.frozen? ⟨w.heap.size+1,0,none⟩=false:=H.b3.frozen;have Q:=Hd H;have H2:=Hd h2;have H3:=Hd h3;have HD:=Hd hd;clear H h1 h2 h3 hd;gi_wp2
  obtain⟨W3,a1⟩:=vE ((W.setCell ⟨w.heap.size,0,none⟩ (.slice z xs.length E)).setCell ⟨w.heap.size+1,0,none⟩ (.int .i64 0))
  rw[<-a1];have B2:=(Q.o.b2.set_same (i:=0) (.slice z xs.length E)).set_other (p:=⟨w.heap.size+1,0,none⟩) (by show w.heap.size≠w.heap.size+1;omega) (.int .i64 0);have B3:=(Q.o.b3.set_other (p:=⟨w.heap.size,0,none⟩) (by show w.heap.size+1≠w.heap.size;omega) (.slice z xs.length E)).set_same (i:=0) (.int .i64 0);have BD:=(HD.o.set_other (p:=⟨w.heap.size,0,none⟩) (by show w1.heap.size≠w.heap.size;omega) (.slice z xs.length E)).set_other (p:=⟨w.heap.size+1,0,none⟩) (by show w1.heap.size≠w.heap.size+1;omega) (.int .i64 0);rw[<-a1]at B2 B3 BD;have K1:=(jad.oneSet W ⟨w.heap.size,0,none⟩ (.slice z xs.length E));have K3:jad (fun b=>b=w.heap.size\/b=w.heap.size+1\/b=w1.heap.size) W (W3.putObj w1.heap.size (.deferred none)):=by
   rw[a1];exact (((jad.refl _ W).setCell (.inl (.inl rfl)) _).setCell (.inl (.inr (.inl rfl))) _).putObj (.inl (.inr (.inr rfl))) _
  have c2:(W3.putObj w1.heap.size (.deferred none)).cell? ⟨w.heap.size,0,none⟩=some (.slice z xs.length E):=(B2.put_other vO _).cell (i:=0) (by simp);have c3:(W3.putObj w1.heap.size (.deferred none)).cell? ⟨w.heap.size+1,0,none⟩=some (.int .i64 0):=(B3.put_other vO _).cell (i:=0) (by simp)
  refine⟨by simp,.inl ⟨_,_,rfl,run_takeDeferred BD,?_⟩⟩
  refine⟨.tuple #[.slice z xs.length E,.int .i64 0],by simp[results,Tryz.results152,go_sem,c2,c3],?_⟩
  refine⟨_,rfl,⟨_,_,rfl⟩,?_,Q.o.ext.trans' K3 (fun x hx e=>by omega),fun b hb=>by have:=H3.o b hb;omega⟩
  have h5:=jaY H2.o K3 (fun b hb e=>by have:=H3.o b hb;omega)
  rwa [cF]at h5
 case hstop=>intro c k W _ _ h;exact h.elim
end
theorem jrw:∀ (f n:Nat),n < 256 ^ f->beN (leF f n).reverse=n
 | 0,n,h=>by simp at h;subst h;rfl
 | f+1,n,h=>by
  unfold leF
  by_cases h0:n=0
  ·rw[if_pos h0,h0];rfl
  ·rw[if_neg h0,gK,jjM,jrw f (n / 256) (by rw[Nat.pow_succ]at h;omega)]
   have:(UInt8.ofNat n).toNat=n % 256:=rfl
   omega
theorem jn8:∀ (f n:Nat),n < 256 ^ f->0 < n->∃ x l,(leF f n).reverse=x :: l/\x≠0
 | 0,n,h,h0=>by simp at h;omega
 | f+1,n,h,h0=>by
  unfold leF;rw[if_neg vO,gK]
  by_cases h1:n / 256=0
  ·have:leF f (n / 256)=[]:=by rw[h1];cases f <;> simp[leF]
   rw[this]
   refine⟨_,_,rfl,fun e=>?_⟩
   have z:(UInt8.ofNat n).toNat=(0:vU).toNat:=by rw[e]
   have:(UInt8.ofNat n).toNat=n % 256:=rfl
   have o:(0:vU).toNat=0:=rfl;omega
  ·obtain⟨x,l,q,o⟩:=jn8 f (n / 256) (by rw[Nat.pow_succ]at h;omega) vO
   exact⟨x,l++[UInt8.ofNat n],by rw[q];rfl,o⟩
theorem jgh(a:vU)(t:vN):cutN ⟨(a :: t).toArray⟩ =
  (if a.toNat < 128 then some (false,0,1)else
   if (if a.toNat < 192 then a.toNat - 128 else a.toNat - 192)<=55 then
    if 1+(if a.toNat < 192 then a.toNat - 128 else a.toNat - 192)<=t.length+1/\(decide (192<=a.toNat)=true\/(if a.toNat < 192 then a.toNat - 128 else a.toNat - 192)≠1\/128<=((a :: t).getD 1 0).toNat)then some (decide (192<=a.toNat),1,(if a.toNat < 192 then a.toNat - 128 else a.toNat - 192))else none
   else match lenB ⟨(a :: t).toArray⟩ (1+((if a.toNat < 192 then a.toNat - 128 else a.toNat - 192) - 55))with
    | some n=>if 1+((if a.toNat < 192 then a.toNat - 128 else a.toNat - 192) - 55)+n<=t.length+1 then some (decide (192<=a.toNat),1+((if a.toNat < 192 then a.toNat - 128 else a.toNat - 192) - 55),n)else none
    | none=>none):=by
 have e:(⟨(a :: t).toArray⟩:vB).size=t.length+1:=rfl;have o:0 < (⟨(a :: t).toArray⟩:vB).size:=by rw[e];omega
 have q:(⟨(a :: t).toArray⟩:vB)[0]'o=a:=rfl;unfold cutN;rw[dif_pos o];simp only[q,e]
 by_cases h1:a.toNat < 128
 ·rw[if_pos h1,if_pos h1]
 ·rw[if_neg h1,if_neg h1]
  by_cases h2:a.toNat < 192
  ·simp only[if_pos h2,show decide (192<=a.toNat)=false by simp;omega];rfl
  ·simp only[if_neg h2,show decide (192<=a.toNat)=true by simp;omega];rfl
def hb(l:Bool):vU:=if l then 192 else 128
theorem jvo(a b:vU)(h:a.toNat+b.toNat < 256):(a+b).toNat=a.toNat+b.toNat:=by rw[UInt8.toNat_add];omega
theorem jnk(n:Nat)(h:n < 256):(UInt8.ofNat n).toNat=n:=by show n % 256=n;omega
theorem jvg(l:Bool):(hb l).toNat=if l then 192 else 128:=by cases l <;> rfl
theorem jtw(l:Bool)(b y:vN)(hn:b.length<=1048576)(h1:l=false->b.length=1->128<=(b.headD 0).toNat) :
  cutN ⟨((jdi (hb l) b.length).data.toList++(b++y)).toArray⟩=some (l,(jdi (hb l) b.length).size,b.length):=by
 by_cases hs:b.length<=55
 ·have O:(jdi (hb l) b.length)=⟨#[hb l+UInt8.ofNat b.length]⟩:=by unfold jdi;rw[if_pos hs]
  rw[O];have o:(hb l+UInt8.ofNat b.length).toNat=(if l then 192 else 128)+b.length:=by
   rw[jvo _ _ (by rw[jvg,jnk _ vO];split <;> omega),jvg,jnk _ vO]
  have Q:(⟨#[hb l+UInt8.ofNat b.length]⟩:vB).size=1:=rfl;rw[Q]
  obtain⟨a,e⟩:=vE (hb l+UInt8.ofNat b.length)
  rw[<-e]at o ⊢;have X:(if a.toNat < 192 then a.toNat - 128 else a.toNat - 192)=b.length:=by
   rw[o];cases l <;> simp only[cG,if_false,if_true]
   ·rw[if_pos vO];omega
   ·rw[if_neg vO];omega
  have q:decide (192<=a.toNat)=l:=by
   rw[o];cases l <;> simp <;> omega
  show cutN ⟨(a ::(b++y)).toArray⟩=_;rw[jgh,X,q,if_neg (by rw[o];split <;> omega),if_pos hs,if_pos]
  refine⟨by rw[bG];omega,?_⟩
  cases l with
  | true=>exact .inl rfl
  | false =>
   refine .inr ?_
   by_cases h2:b.length=1
   ·refine .inr ?_
    have:=h1 rfl h2
    match b,h2 with
    | [x],_=>simpa using this
   ·exact .inl h2
 ·obtain⟨d,K⟩:=vE (leF 8 b.length).reverse
  have hp:b.length < 256 ^ 8:=vO
  have a4:d.length<=8:=by rw[K,fQ];exact jj7 _ _
  have Z:beN d=b.length:=by rw[K];exact jrw _ _ hp
  obtain⟨x,r,z,a0⟩:=jn8 8 b.length hp vO
  rw[<-K]at z;have E:jcU b.length=⟨d.toArray⟩:=by unfold jcU;rw[K]
  have a1:(⟨d.toArray⟩:vB).size=d.length:=rfl;have O:(jdi (hb l) b.length)=⟨#[hb l+55+UInt8.ofNat d.length]⟩++⟨d.toArray⟩:=by unfold jdi;rw[if_neg hs,E,a1]
  have H:(jdi (hb l) b.length).data.toList=(hb l+55+UInt8.ofNat d.length) :: d:=by
   rw[O,dJ];simp
  have a2:(jdi (hb l) b.length).size=1+d.length:=by
   show (jdi (hb l) b.length).data.toList.length=_;rw[H,bQ];omega
  rw[H,a2];have J:(hb l+55:vU).toNat=(if l then 192 else 128)+55:=by cases l <;> rfl
  have o:(hb l+55+UInt8.ofNat d.length).toNat=(if l then 192 else 128)+55+d.length:=by
   rw[jvo _ _ (by rw[J,jnk _ vO];split <;> omega),J,jnk _ vO]
  obtain⟨a,e⟩:=vE (hb l+55+UInt8.ofNat d.length)
  rw[<-e]at o ⊢;have a5:1<=d.length:=by rw[z];simp
  have X:(if a.toNat < 192 then a.toNat - 128 else a.toNat - 192)=55+d.length:=by
   rw[o];cases l <;> simp only[cG,if_false,if_true]
   ·rw[if_pos vO];omega
   ·rw[if_neg vO];omega
  have q:decide (192<=a.toNat)=l:=by
   rw[o];cases l <;> simp <;> omega
  have a3:lenB ⟨(a ::(d++(b++y))).toArray⟩ (1+d.length)=some b.length:=by
   have e1:((⟨(a ::(d++(b++y))).toArray⟩:vB).data.toList.take (1+d.length)).drop 1=d:=by
    show ((a ::(d++(b++y))).take (1+d.length)).drop 1=d;rw[gR,fF,List.drop_succ_cons,List.drop_zero,List.take_left]
   unfold lenB;rw[if_neg,e1,Z,if_pos ⟨by omega,hn⟩];rintro (h | h)
   ·have:(⟨(a ::(d++(b++y))).toArray⟩:vB).size=(d++(b++y)).length+1:=rfl
    rw[this,bG]at h;omega
   ·have:(⟨(a ::(d++(b++y))).toArray⟩:vB).data.toList.getD 1 0=x:=by rw[z];rfl
    rw[this]at h;exact a0 h
  show cutN ⟨(a ::(d++(b++y))).toArray⟩=_;rw[jgh,X,q,if_neg (by rw[o];split <;> omega),if_neg vO,show 55+d.length - 55=d.length by omega,a3];simp only[bG];rw[if_pos vO]
theorem jtf(s:vB):s=⟨s.data.toList.toArray⟩:=rfl
theorem jk5(l:Bool)(b y:vB)(hn:b.size<=1048576)(h1:l=false->b.size=1->128<=(b.data.toList.headD 0).toNat) :
  cutN (jdi (hb l) b.size++b++y)=some (l,(jdi (hb l) b.size).size,b.size):=by
 have h:=jtw l b.data.toList y.data.toList hn h1;rw[jtf (jdi (hb l) b.size++b++y)];simp only[dJ,fR,bX];exact h
theorem jie(h b y:vB):(h++b++y).extract h.size (h.size+b.size)=b:=by
 apply ByteArray.ext;apply Array.ext';rw[fD,fW,dJ,dJ,fR,fR,fE,
  show h.size+b.size - h.size=b.data.toList.length by show _=b.size;omega,bX,show h.size=h.data.toList.length from rfl,fP,List.take_left]
theorem jk8(b y:vB)(hn:b.size<=1048576):∃ o,cutN (jaC b++y)=some (false,o,b.size)/\o+b.size=(jaC b).size/\(jaC b++y).extract o (o+b.size)=b:=by
 by_cases h:b.size=1/\b.data.toList.headD 255 < 128
 ·obtain⟨E,z⟩:=h
  obtain⟨⟨lb⟩⟩:=b
  have e:lb.length=1:=E
  match lb,e,z with
  | [x],_,z =>
   have H:x.toNat < 128:=dW.1 z;have q:jaC ⟨#[x]⟩=⟨#[x]⟩:=by unfold jaC;rw[if_pos ⟨rfl,z⟩]
   refine⟨0,?_,?_,?_⟩
   ·rw[show (⟨[x].toArray⟩:vB)=⟨#[x]⟩from rfl,q,jtf (_++y),dJ,fR]
    show cutN ⟨(x :: y.data.toList).toArray⟩=_;rw[jgh,if_pos H];rfl
   ·rw[show (⟨[x].toArray⟩:vB)=⟨#[x]⟩from rfl,q];rfl
   ·rw[show (⟨[x].toArray⟩:vB)=⟨#[x]⟩from rfl,q,cL];exact jle _ _
 ·have q:jaC b=jdi (hb false) b.size++b:=by unfold jaC;rw[if_neg h];rfl
  rw[q]
  refine⟨_,jk5 false b y hn (fun _ E=>?_),by rw[cO],jie _ _ _⟩
  obtain⟨⟨lb⟩⟩:=b
  have e:lb.length=1:=E
  match lb,e,h with
  | [x],_,h =>
   have K:¬ x < 128:=fun J=>h ⟨rfl,J⟩;have O:¬ x.toNat < (128:vU).toNat:=fun J=>K (dW.2 J);have Q:(128:vU).toNat=128:=rfl;show 128<=x.toNat;omega
theorem jk6(xs:vM)(y:vB)(hn:(catB xs).size<=1048576):∃ o,cutN (jbY xs++y)=some (true,o,(catB xs).size)/\o+(catB xs).size=(jbY xs).size/\(jbY xs++y).extract o (o+(catB xs).size)=catB xs:=by
 have e:jbY xs=jdi (hb true) (catB xs).size++catB xs:=rfl;rw[e]
 exact⟨_,jk5 true _ y hn (fun h=>by cases h),by rw[cO],jie _ _ _⟩
theorem jcW(b:vB)(hn:b.size<=1048576):jf9 (jaC b):=fun y _=>let ⟨o,h1,h2,_⟩:=jk8 b y hn;⟨_,h1,h2⟩
theorem jmT(xs:vM)(hn:(catB xs).size<=1048576):jf9 (jbY xs):=fun y _=>let ⟨o,h1,h2,_⟩:=jk6 xs y hn;⟨_,h1,h2⟩
theorem jqj(x:vB):x++⟨#[]⟩=x:=ByteArray.append_empty
theorem jk7(b:vB)(hn:b.size<=1048576):∃ o,cutN (jaC b)=some (false,o,b.size)/\o+b.size=(jaC b).size/\(jaC b).extract o (o+b.size)=b:=by
 have:=jk8 b ⟨#[]⟩ hn;rwa [jqj]at this
theorem jeT(xs:vM)(hn:(catB xs).size<=1048576):∃ o,cutN (jbY xs)=some (true,o,(catB xs).size)/\o+(catB xs).size=(jbY xs).size/\(jbY xs).extract o (o+(catB xs).size)=catB xs:=by
 have:=jk6 xs ⟨#[]⟩ hn;rwa [jqj]at this
theorem jej(b:vB)(hn:b.size<=1048576):∃ r,cutN (jaC b)=some r/\je5 (jaC b) r=some b:=by
 obtain⟨o,e,q,z⟩:=jk7 b hn
 exact⟨_,e,by unfold je5;rw[if_pos ⟨rfl,q⟩,z]⟩
theorem jdI(b:vB)(hn:b.size=32):∃ r,cutN (jaC b)=some r/\jeX (jaC b) r=some b:=by
 obtain⟨r,e,o⟩:=jej b vO
 exact⟨r,e,by unfold jeX;rw[o];simp[Option.filter,hn]⟩
theorem jlp(xs:vM)(hn:(catB xs).size<=1048576):∃ r,cutN (jbY xs)=some r/\jeX (jbY xs) r=none:=by
 obtain⟨o,e,q,z⟩:=jeT xs hn
 exact⟨_,e,by unfold jeX je5;rw[if_neg (by simp)];rfl⟩
section
attribute [local go_sem] Oper.semAt_some
theorem jaf{P:Program}{w:vW}{ops:Array Oper}{rest:List Oper}{o:Oper}{a:Act}{Q:Exit->Act->vW->Prop}(t:TypeId)(x:Operand)(ho:o.op=.load t x)(hw:Region.wanted o (yielded ops a.tmps)=true)(v:vV)(p:Addr)(hx:a.eval x=.pointer (some p))
  (hr:(Instr.loadAt t (.pointer (some p))).run P w=.ok v w) (h:wpList P ops Q rest (a.put o.dst v) w):wpList P ops Q (o :: rest) a w:=by
 unfold wpList;rw[if_pos hw];refine .inl (jco (v:=v) (w':=w) ?_ h);simp only[execOp,ho,hx,bT,hr,Result.andThen,cJ]
theorem je9(W:vW)(n:jae)(hr:n.refs.length=16):(Instr.loadAt 181 (.pointer (some ⟨W.heap.size,0,none⟩))).run Tryz.prog (W.alloc (.cells n.cells.toArray 181))=.ok n.V (W.alloc (.cells n.cells.toArray 181)):=
 jbU _ _ n hr (Blk.new W _)
theorem Tryz.isNode:jgo (Tryz.prog.underlying 132)=true:=vY
theorem Tryz.szNode:(Tryz.prog.info? 132).map (·.size)=some 19:=vY
theorem jax(W:vW)(b:Nat)(n:jae)(hr:n.refs.length=16)(hB:Blk W b (.cells n.cells.toArray 132)):(Instr.loadAt 132 (.pointer (some ⟨b,0,none⟩))).run Tryz.prog W=.ok n.V W:=by
 obtain⟨q,e⟩:=jfC Tryz.isNode
 exact jdX e (by rw[n.cells_len hr];exact Tryz.szNode) (fun j v o=>by rw[jhu];exact hB.cellL o)
theorem jyi(w:vW)(n:jae)(hr:n.refs.length=16)(hp:n.pathOk 0=true)(h0:0 < n.value.size)(h8:n.value.size<=80)(hb:n.behindN=0):vR 156 #[n.V] w (.bool true):=by
 have E:n.path.size<=1000000:=by
  have:n.pathOk 0=true:=hp
  simp only[jae.pathOk,cQ,decide_eq_true_eq]at this;omega
 have q:=je9 w n hr;have O:n.cells[2]?=some (.string n.value):=rfl;have Q:=jbe h0;have c1:(n.value.size:Int)<=80:=vO
 have X:=Hd hp;have Z:=Hd hb;have HH:=Hd h0;clear hp hb h0;unfold jae.V at q ⊢;go_enter Tryz.func156,Tryz.ntmps156;go_wp2_with (refine jaf 181 (.tmp 1) rfl rfl _ _ rfl q ?_)
 refine vC (jr5 _ n hr 0 E) fun w1 z=>?_;rw[X.o];have H:=(Blk.new w (.cells n.cells.toArray 181)).keeps z (fun h=>h);have q2:=H.cellL O;have e:=jbU w1 _ n hr H;have J:=Hd (((ExtR w).alloc _).trans z);unfold jae.V at e;clear q z H;go_wp2_with (refine jaf 181 (.tmp 1) rfl rfl _ _ rfl e ?_)
 refine vH (jns _ n hr) fun w2 z=>?_;rw[Z.o];have K:=Hd (J.o.trans z);clear e q2;go_wp2_with fail
 go_ret
 exact⟨rfl,K.o⟩
def jaV:jae:=⟨0,⟨#[]⟩,⟨#[]⟩,List.replicate 16 ⟨#[]⟩⟩
theorem jym(w:vW):vR 155 #[jaV.V] w (.bool true):=by
 have e:=je9 w jaV rfl;have o:jaV.cells.toArray=#[.int .i64 0,.string ⟨#[]⟩,.string ⟨#[]⟩,.string ⟨#[]⟩,.string ⟨#[]⟩,.string ⟨#[]⟩,.string ⟨#[]⟩,.string ⟨#[]⟩,.string ⟨#[]⟩,.string ⟨#[]⟩,.string ⟨#[]⟩,.string ⟨#[]⟩,.string ⟨#[]⟩,.string ⟨#[]⟩,.string ⟨#[]⟩,.string ⟨#[]⟩,.string ⟨#[]⟩,.string ⟨#[]⟩,.string ⟨#[]⟩]:=rfl;unfold jae.V at e ⊢;rw[o]at e ⊢;have q:∀ w,(binOp .eql 181 (.agg #[.int .i64 0,.string ⟨#[]⟩,.string ⟨#[]⟩,.string ⟨#[]⟩,.string ⟨#[]⟩,.string ⟨#[]⟩,.string ⟨#[]⟩,.string ⟨#[]⟩,.string ⟨#[]⟩,.string ⟨#[]⟩,.string ⟨#[]⟩,.string ⟨#[]⟩,.string ⟨#[]⟩,.string ⟨#[]⟩,.string ⟨#[]⟩,.string ⟨#[]⟩,.string ⟨#[]⟩,.string ⟨#[]⟩,.string ⟨#[]⟩]) (.agg #[.int .i64 0,.string ⟨#[]⟩,.string ⟨#[]⟩,.string ⟨#[]⟩,.string ⟨#[]⟩,.string ⟨#[]⟩,.string ⟨#[]⟩,.string ⟨#[]⟩,.string ⟨#[]⟩,.string ⟨#[]⟩,.string ⟨#[]⟩,.string ⟨#[]⟩,.string ⟨#[]⟩,.string ⟨#[]⟩,.string ⟨#[]⟩,.string ⟨#[]⟩,.string ⟨#[]⟩,.string ⟨#[]⟩,.string ⟨#[]⟩])).run Tryz.prog w=.ok (.bool true) w:=fun w=>by kernel_rfl
 go_enter Tryz.func155,Tryz.ntmps155;go_wp2_with (refine jaf 181 (.tmp 1) rfl rfl _ _ rfl e ?_)
 go_ret
 exact⟨rfl,(ExtR w).alloc _⟩
end
end Go.Proofs.YtmobgkphhbmhbaaGreatDoor
