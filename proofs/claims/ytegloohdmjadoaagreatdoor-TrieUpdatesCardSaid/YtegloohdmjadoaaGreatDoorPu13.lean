/- Lemmas; each is under no condition but those that it states. -/
import Derived.Test.YtegloohdmjadoaaGreatDoorPu12
namespace Go.Proofs.YtegloohdmjadoaaGreatDoor
set_option linter.unusedSimpArgs false
set_option linter.unusedVariables false
set_option maxRecDepth 100000
set_option maxHeartbeats 16000000
open Go Go.RowKit
theorem jaQ(b:vB):(jap b).size<=b.size+9:=by
 unfold jap;split
 ·omega
 ·rw[bY];have:=jel 128 b.size;omega
theorem jnw(s:vB):(jbD s).size=s.size / 2:=by
 show (jcv s.data.toList).length=_;rw[jdR];rfl
theorem jbm(p:vB)(leaf:Bool):(putB p leaf).size<=p.size / 2+1:=by
 unfold putB;rw[jnw];show (jce p leaf++p.data.toList).length / 2<=_;rw[bF,show p.data.toList.length=p.size from rfl];unfold jce oddB
 by_cases h:p.size % 2=1
 ·simp[h];omega
 ·have:(p.size % 2 == 1)=false:=by simpa using h
  rw[this];simp
theorem ja6(x:vB)(xs:vM):(catB (x :: xs)).size=x.size+(catB xs).size:=by
 show ((x :: xs).map (·.data.toList)).flatten.length=x.data.toList.length+(xs.map (·.data.toList)).flatten.length;rw[bT,List.flatten_cons,bF]
theorem jcD:(catB []).size=0:=rfl
theorem jdp(w:vW)(xs:vM)(T:TypeId):RdS (w.alloc (.cells (xs.map Value.string).toArray T)) (.slice (some ⟨w.heap.size,0,none⟩) xs.length xs.length) xs:=
 .inr ⟨w.heap.size,0,xs.length,rfl,by simp,bM _,fun j x e=>by rw[cF];exact (Blk.new w _).cellL (by rw[bV,e];rfl)⟩
def jlW(n:jad):vB:=jba [jap (putB n.path true),jap n.value]
def extB(n:jad):vB:=jba [jap (putB n.path false),n.refs.getD 0 ⟨#[]⟩]
theorem jp1(w:vW)(n:jad)(hps:n.path.size<=900000)(hvs:n.value.size<=100000)(hv:jaz n.path=true):vR 126 #[n.V] w (.string (jlW n)):=by
 obtain⟨k,p,v,X⟩:=n
 simp only at hps hvs hv;unfold jad.V;have e1:(jad.cells ⟨k,p,v,X⟩)[1]?=some (.string p):=rfl;have e2:(jad.cells ⟨k,p,v,X⟩)[2]?=some (.string v):=rfl;have E:=jbm p true;have H:=jaQ (putB p true);have Z:=jaQ v;go_enter Tryz.func126,Tryz.ntmps126;go_wp2_with fail
 refine vC (jzA _ p true hps hv) fun w1 hE=>?_;have hB:=(Blk.new w _).keeps hE (fun h=>h);have J:=((ExtR w).alloc _).trans hE
 obtain⟨g,hg⟩:=vE w.heap.size
 rw[<-hg]at hB ⊢;have q2:=hB.cellL e2
 obtain⟨e,m⟩:=vE (putB p true)
 rw[<-m]at E H ⊢;have HL:=Hd (show jlW ⟨k,p,v,X⟩=jba [jap e,jap v] by unfold jlW;rw[m]);have O:=Hd J;have Q2:=Hd q2;have A:e.size<=1000000000:=vO
 have hc:(catB [jap e,jap v]).size<=1000000000:=by rw[ja6,ja6,jcD];omega
 have HC:=Hd hc;have HP:=Hd A;have HV:=Hd hvs;clear e1 e2 E H Z hB hg m hE J q2 A hc hps hv hvs;go_wp2_with fail
 refine jah [0,2,1,3,4,5,6,7] Ext ExtR ExtT vY vY vY ?_;iterate 2 refine vK ?_
 refine qKC _ 120 #[.string e] (.string (jap e)) rfl (fun w1=>jat (vX 120) vY) (fun w1 h1=>jew w1 e HP.o) ?_;refine vS ?_;refine qKL ⟨g,2,none⟩ _ rfl (fun w2 h2=>jab Tryz.uStr rfl (jaa (by exact Q2.o) h2)) ?_;refine vS ?_;refine qKC _ 120 #[.string v] (.string (jap v)) rfl (fun w1=>jat (vX 120) vY) (fun w1 h1=>jew w1 v (by have:=HV.o;omega)) ?_;refine vS ?_;refine jen _ rfl vY rfl (fun w2 Q K hK=>?_);have a0:=Hd (O.o.trans ((jai w1).trans Q));have HR:=Hd (jdp w2 [jap e,jap v] 9);clear Q O Q2 HV HP;go_simp;refine hK _ _ ((ExtR w2).alloc _) ?_;clear hK K;refine qKC _ 156 _ (.string (jba [jap e,jap v])) rfl (fun w1=>jat (vX 156) vY) (fun w3 h3=>jr8 w3 _ [jap e,jap v] (HR.o.ext (by exact h3)) HC.o (show 2<=1000000000 by decide)) ?_;refine vS ?_
 refine vK ?_
 refine qKE (fun w3 Q=>?_);go_wp2_with fail
 go_ret
 exact⟨by rw[HL.o];rfl,(a0.o.alloc _).trans Q⟩
theorem jrI(w:vW)(n:jad)(hps:n.path.size<=900000)(r:vB)(hr:n.refs=r :: n.refs.tail)(hvs:r.size<=100000)(hv:jaz n.path=true):vR 127 #[n.V] w (.string (extB n)):=by
 obtain⟨k,p,v,rs⟩:=n
 simp only at hps hvs hr hv;cases rs with
 | nil=>cases hr
 | cons r' rt =>
 simp only[List.tail_cons,List.cons.injEq,and_true]at hr;subst hr;unfold jad.V;have e1:(jad.cells ⟨k,p,v,r' :: rt⟩)[1]?=some (.string p):=rfl;have e2:(jad.cells ⟨k,p,v,r' :: rt⟩)[3]?=some (.string r'):=rfl;have E:=jbm p false;have H:=jaQ (putB p false);go_enter Tryz.func127,Tryz.ntmps127;go_wp2_with fail
 refine vC (jzA _ p false hps hv) fun w1 X=>?_;have Z:=(Blk.new w _).keeps X (fun h=>h);have J:=((ExtR w).alloc _).trans X
 obtain⟨g,hg⟩:=vE w.heap.size
 rw[<-hg]at Z ⊢;have q2:=Z.cellL e2
 obtain⟨e,m⟩:=vE (putB p false)
 rw[<-m]at E H ⊢;have HL:=Hd (show extB ⟨k,p,v,r' :: rt⟩=jba [jap e,r'] by unfold extB;rw[m];rfl);have O:=Hd J;have Q2:=Hd q2;have A:e.size<=1000000000:=vO
 have hc:(catB [jap e,r']).size<=1000000000:=by rw[ja6,ja6,jcD];omega
 have HC:=Hd hc;have HP:=Hd A;have HV:=Hd hvs;clear e1 e2 E H Z hg m X J q2 A hc hps hv hvs;go_wp2_with fail
 refine jah [0,1,2,3,4,5,6,7] Ext ExtR ExtT vY vY vY ?_
 refine vK ?_
 refine qKC _ 120 #[.string e] (.string (jap e)) rfl (fun w1=>jat (vX 120) vY) (fun w1 h1=>jew w1 e HP.o) ?_;refine vS ?_;iterate 2 refine vK ?_
 refine qKL ⟨g,3,none⟩ _ rfl (fun w2 h2=>jab Tryz.uStr rfl (jaa (by exact Q2.o) h2)) ?_;refine vS ?_;refine jen _ rfl vY rfl (fun w2 Q K hK=>?_);have a0:=Hd (O.o.trans ((jai w1).trans Q));have HR:=Hd (jdp w2 [jap e,r'] 9);clear Q O Q2 HV HP;go_simp;refine hK _ _ ((ExtR w2).alloc _) ?_;clear hK K;refine qKC _ 156 _ (.string (jba [jap e,r'])) rfl (fun w1=>jat (vX 156) vY) (fun w3 h3=>jr8 w3 _ [jap e,r'] (HR.o.ext (by exact h3)) HC.o (show 2<=1000000000 by decide)) ?_;refine vS ?_
 refine vK ?_
 refine qKE (fun w3 Q=>?_);go_wp2_with fail
 go_ret
 exact⟨by rw[HL.o];rfl,(a0.o.alloc _).trans Q⟩
end Go.Proofs.YtegloohdmjadoaaGreatDoor
