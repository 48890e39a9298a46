/- Lemmas; each is under no condition but those that it states. -/
import Derived.Test.YtgppadbgofalpaaGreatDoorPa0
import Derived.Test.YtgppadbgofalpaaGreatDoorPa12
import Derived.Laws.Cover1
namespace Go.Proofs.YtgppadbgofalpaaGreatDoor
set_option linter.unusedSimpArgs false
set_option linter.unusedVariables false
set_option maxRecDepth 100000
set_option maxHeartbeats 16000000
open Go Go.RowKit
variable (acc:vM)(w:vW)(x y:vB)(gi i k:Nat){a:Act}{args vs lb:Array vV}{assign body:Code}{Q:Exit->Act->vW->Prop}{bs:List Nat}{b f r sz m p g bx o:Nat}{A A':Nat->Prop}{P:Program}{n:Ai}{t h s:vB}{L:vM}{v u u':vV}{R R':vV->vW->Prop}{W w' w0 W' w1 w2:vW}
abbrev Ar:=vB × vB
abbrev vL:=List Ar
def Up(k:vB):Bool:=decide (0 < k.size/\k.size<=6)
def Wm(k:vB):Bool:=decide (0 < k.size/\k.size<=80)
theorem Og(h:s.size=0):s=⟨#[]⟩:=by
 obtain⟨⟨l⟩⟩:=s
 cases l with
 | nil=>rfl
 | cons x y=>exact absurd h (iG _)
theorem GF(k:vB)(hs:k.size<=9223372036854775807):vQ 42 #[k] w fun e w'=>e=.returned (Up k)/\w'=w:=by
 by_cases h0:k.size=0
 ·have:=Og h0;(subst this;unfold vQ;go_in;go_wp2_with fail);go_ret;exact⟨rfl,rfl⟩
 ·have q:=Rq (s:=k) vO;by_cases h6:k.size<=6;{have c:(k.size:Int)<=6:=vO;(have e:Up k=true:=by unfold Up;simp;omega);(have E:=Hd e;clear e;unfold vQ;go_in;go_wp2_with fail);go_ret;exact⟨by rw[E.o];rfl,rfl⟩};have c:¬(k.size:Int)<=6:=vO;(have e:Up k=false:=by unfold Up;simp;omega);(have E:=Hd e;clear e;unfold vQ;go_in;go_wp2_with fail);go_ret;exact⟨by rw[E.o];rfl,rfl⟩
theorem JU(k:vB)(hs:k.size<=9223372036854775807):vQ 43 #[k] w fun e w'=>e=.returned (Wm k)/\w'=w:=by
 by_cases h0:k.size=0
 ·have:=Og h0;(subst this;unfold vQ;go_in;go_wp2_with fail);go_ret;exact⟨rfl,rfl⟩
 ·have q:=Rq (s:=k) vO;by_cases h6:k.size<=80;{have c:(k.size:Int)<=80:=vO;(have e:Wm k=true:=by unfold Wm;simp;omega);(have E:=Hd e;clear e;unfold vQ;go_in;go_wp2_with fail);go_ret;exact⟨by rw[E.o];rfl,rfl⟩};have c:¬(k.size:Int)<=80:=vO;(have e:Wm k=false:=by unfold Wm;simp;omega);(have E:=Hd e;clear e;unfold vQ;go_in;go_wp2_with fail);go_ret;exact⟨by rw[E.o];rfl,rfl⟩
def Io(w:vW)(v:vV)(xs:vL):Prop:=
 (∃ a c,v=.slice a 0 c/\xs=[])\/∃ b o c,v=.slice (some ⟨b,o,none⟩) xs.length c/\b < w.heap.size/\xs.length<=c/\∀ (j:Nat) x,xs[j]?=some x->w.cell? ⟨b,o+j * 2,none⟩=some (.string x.1)/\w.cell? ⟨b,o+j * 2+1,none⟩=some (.string x.2)
theorem Io.ext{w:vW}{xs:vL}(h:Io w v xs)(k:Af w w'):Io w' v xs:=by
 rcases h with h |⟨b,o,c,h1,h2,h3,h4⟩
 ·exact .inl h
 ·exact .inr ⟨b,o,c,h1,bE h2 k.size,h3,fun j x e=>⟨Am (h4 j x e).1 k,Am (h4 j x e).2 k⟩⟩
theorem Io.sl{w:vW}{xs:vL}(h:Io w v xs):∃ a c,v=.slice a xs.length c:=by
 rcases h with⟨a,c,h1,h2⟩ |⟨b,o,c,h1,_⟩
 ·exact⟨a,c,by rw[h1,h2];rfl⟩
 ·exact⟨_,c,h1⟩
def Ar.V(p:Ar):vV:=.agg #[p.1,p.2]
def Kn(l:vL)(i:Nat):Bool := !Up (l.getD i (⟨#[]⟩,⟨#[]⟩)).1 || !Wm (l.getD i (⟨#[]⟩,⟨#[]⟩)).2 ||(decide (0 < i) && !Pr (l.getD (i - 1) (⟨#[]⟩,⟨#[]⟩)).1 (l.getD i (⟨#[]⟩,⟨#[]⟩)).1)
def Dv(l:vL):Int:=if (List.range l.length).any (Kn l)then 1 else if 40 < l.length then 12 else 0
def jzm(w:vW)(l:vL)(i:vV)(wr:vW):Prop:=∃ k:Nat,k<=l.length/\i=.int .i64 k/\Af w wr/\(List.range k).any (Kn l)=false
theorem GC(v:vV)(l:vL)(hv:Io w v l)(hn:l.length<=9223372036854775807)(hs:∀ p∈l,p.1.size<=9223372036854775807/\p.2.size<=9223372036854775807):vR 41 #[v] w (.int .i64 (Dv l)):=by
 obtain⟨a,c,b4⟩:=hv.sl
 have HV:=Hd hv;have HS:=Hd hs;subst b4;clear hv hs;unfold vR vQ;go_in;go_wp2_with fail
 go_loopw [7] (fun i wr=>jzm w l i wr) (fun i _=>l.length - (intOf i).toNat)
 case atStart=>exact⟨0,by omega,rfl,Aa w,rfl⟩
 case round =>obtain⟨k,hk,rfl,hE,a8⟩:=hrel;have HE:=Hd hE;have a2:=Hd a8;clear hE a8;by_cases hlt:k < l.length;{rcases HV.o with⟨_,_,_,h0⟩ |⟨b,o,c',hh,hb,hc,hcell⟩;{rw[h0]at hlt;cases hlt};cases hh;obtain⟨p,hp⟩:∃ p,l[k]?=some p:=⟨_,bB hlt⟩;obtain⟨q1,q2⟩:=hcell k p hp;have q1:=Am q1 HE.o;have q2:=Am q2 HE.o;have b1:(k:Int) < (l.length:Int):=vO;obtain⟨x,y⟩:=p;(simp only at q1 q2;have K:l.getD k (⟨#[]⟩,⟨#[]⟩)=(x,y):=by rw[bJ,hp];rfl);(have a1:=HS.o (x,y) (bD hp);have a7:=Hd a1.1;have a9:=Hd a1.2;have a3:(wr.alloc (.cells #[x,y] 49)).cell? wr=some (.string x):=(Ae.new wr _).cell vF;have a4:(wr.alloc (.cells #[x,y] 49)).cell? ⟨wr.heap.size,1,none⟩=some (.string y):=(Ae.new wr _).cell vF;have Q0:=Hd a3;have Q1:=Hd a4;have A:Kn l k=true->Dv l=1:=fun h=>by unfold Dv;rw[if_pos (gR.2 ⟨k,dZ.2 hlt,h⟩)]);(have H:Kn l k=false->(List.range (k+1)).any (Kn l)=false:=fun h=>by rw[gG,List.any_append,a2.o];simp[h]);cases hk1:Up x with| false =>(have Z:=Hd (A (by unfold Kn;rw[K,hk1];rfl));have HK:=Hd hk1;clear hk1 K a1 a3 a4 A H hcell hp;go_wp2_with fail);refine Ij (List.range 25) Af Aa Aq vY vY vY ?_;simp only[List.range,List.range.loop];refine vK ?_;(refine Dc wr _ rfl (fun O q=>Bq Ag rfl (Am (by exact Q0.o) q)) (vS ?_);refine Ls _ 42 #[x] false rfl (fun w1=>Ex (vX 42) vY) (fun w1 J=>(GF w1 x (kL a7.o)).mono (fun e O ⟨J,q⟩=>⟨by rw[J,HK.o],q ▸ Aa w1⟩)) (vS ?_);iterate 2 refine vK ?_);(iterate 4 (refine Wv _ rfl (vS ?_)));(iterate 2 refine vK ?_);(iterate 3 (refine Wv _ rfl (vS ?_)));(iterate 9 (refine Wv _ rfl (vS ?_)));(refine Wv _ rfl (vS ?_));refine vK ?_;(refine Hv (fun w3 he=>?_);have X:=Hd (((HE.o.alloc _).trans (Ap _)).trans he);clear he;go_wp2_with fail);go_ret;exact⟨by rw[Z.o];rfl,X.o⟩| true =>cases hv1:Wm y with| false =>(have Z:=Hd (A (by unfold Kn;rw[K,hk1,hv1];rfl));have HK:=Hd hk1;have a5:=Hd hv1;clear hk1 hv1 K a1 a3 a4 A H hcell hp;go_wp2_with fail);refine Ij (List.range 25) Af Aa Aq vY vY vY ?_;simp only[List.range,List.range.loop];refine vK ?_;(refine Dc wr _ rfl (fun O q=>Bq Ag rfl (Am (by exact Q0.o) q)) (vS ?_);refine Ls _ 42 #[x] true rfl (fun w1=>Ex (vX 42) vY) (fun w1 J=>(GF w1 x (kL a7.o)).mono (fun e O ⟨J,q⟩=>⟨by rw[J,HK.o],q ▸ Aa w1⟩)) (vS ?_);iterate 3 refine vK ?_);(refine Dc ⟨wr.heap.size,1,none⟩ _ rfl (fun O q=>Bq Ag rfl (Am (by exact Q1.o) q)) (vS ?_);refine Ls _ 43 #[y] false rfl (fun w1=>Ex (vX 43) vY) (fun w1 J=>(JU w1 y (kL a9.o)).mono (fun e O ⟨J,q⟩=>⟨by rw[J,a5.o],q ▸ Aa w1⟩)) (vS ?_);iterate 3 refine vK ?_);(iterate 3 (refine Wv _ rfl (vS ?_)));(iterate 9 (refine Wv _ rfl (vS ?_)));(refine Wv _ rfl (vS ?_));refine vK ?_;(refine Hv (fun w3 he=>?_);have X:=Hd (((HE.o.alloc _).trans (Ap _)).trans he);clear he;go_wp2_with fail);go_ret;exact⟨by rw[Z.o];rfl,X.o⟩| true =>by_cases hk0:k=0;{have a0:=Hd (H (by unfold Kn;rw[K,hk1,hv1,hk0];rfl));(subst hk0;rw[iX,gC]at q1 q2;have HK:=Hd hk1;have a5:=Hd hv1;clear hk1 hv1 K a1 a3 a4 A H hcell hp;go_wp2_with fail);refine Ij (List.range 25) Af Aa Aq vY vY vY ?_;simp only[List.range,List.range.loop];refine vK ?_;(refine Dc wr _ rfl (fun O q=>Bq Ag rfl (Am (by exact Q0.o) q)) (vS ?_);refine Ls _ 42 #[x] true rfl (fun w1=>Ex (vX 42) vY) (fun w1 J=>(GF w1 x (kL a7.o)).mono (fun e O ⟨J,q⟩=>⟨by rw[J,HK.o],q ▸ Aa w1⟩)) (vS ?_);iterate 3 refine vK ?_);(refine Dc ⟨wr.heap.size,1,none⟩ _ rfl (fun O q=>Bq Ag rfl (Am (by exact Q1.o) q)) (vS ?_);refine Ls _ 43 #[y] true rfl (fun w1=>Ex (vX 43) vY) (fun w1 J=>(JU w1 y (kL a9.o)).mono (fun e O ⟨J,q⟩=>⟨by rw[J,a5.o],q ▸ Aa w1⟩)) (vS ?_);iterate 6 refine vK ?_);(iterate 9 (refine Wv _ rfl (vS ?_)));(iterate 2 refine vK ?_);(refine Hv (fun w3 he=>?_);have X:=Hd (((HE.o.alloc _).trans (Ap _)).trans he);clear he;go_wp2_with fail);go_roundw;(case rel=>exact⟨0+1,by omega,by go_num,X.o,a0.o⟩);case measure=>exact vJ};obtain⟨pp,b0⟩:∃ p,l[k - 1]?=some p:=⟨_,bB vO⟩;obtain⟨z,zy⟩:=pp;(have b3:=Am (Am (hcell (k - 1) (z,zy) b0).1 HE.o) ((Aa wr).alloc (.cells #[x,y] 49));have QP:=Hd b3;have b2:l.getD (k - 1) (⟨#[]⟩,⟨#[]⟩)=(z,zy):=by rw[bJ,b0];rfl);have c0:(0:Int) < (k:Int):=vO;have d0:0 < k:=vO;have c3:((k:Int) - 1).toNat=k - 1:=vO;have HK:=Hd hk1;have a5:=Hd hv1;cases hls:Op.bytesLess z.toList x.toList with| false =>(have Z:=Hd (A (by unfold Kn Pr;rw[K,hk1,hv1,b2];simp only;rw[hls];simp;omega));clear hk1 hv1 K a1 a3 a4 A H hcell hp hk0 b0 b3 b2;go_wp2_with fail);refine Ij (List.range 25) Af Aa Aq vY vY vY ?_;simp only[List.range,List.range.loop];refine vK ?_;(refine Dc wr _ rfl (fun O q=>Bq Ag rfl (Am (by exact Q0.o) q)) (vS ?_);refine Ls _ 42 #[x] true rfl (fun w1=>Ex (vX 42) vY) (fun w1 J=>(GF w1 x (kL a7.o)).mono (fun e O ⟨J,q⟩=>⟨by rw[J,HK.o],q ▸ Aa w1⟩)) (vS ?_);iterate 3 refine vK ?_);(refine Dc ⟨wr.heap.size,1,none⟩ _ rfl (fun O q=>Bq Ag rfl (Am (by exact Q1.o) q)) (vS ?_);refine Ls _ 43 #[y] true rfl (fun w1=>Ex (vX 43) vY) (fun w1 J=>(JU w1 y (kL a9.o)).mono (fun e O ⟨J,q⟩=>⟨by rw[J,a5.o],q ▸ Aa w1⟩)) (vS ?_);iterate 11 refine vK ?_);refine Dc ⟨b,o+(k - 1) * 2,none⟩ _ rfl (fun O q=>Bq Ag rfl (Am (by exact QP.o) q)) (vS ?_);refine vK ?_;(refine Dc wr _ rfl (fun O q=>Bq Ag rfl (Am (by exact Q0.o) q)) (vS ?_);iterate 3 refine vK ?_);(refine Hv (fun w3 he=>?_);have X:=Hd (((HE.o.alloc _).trans (Ap _)).trans he);clear he;go_wp2_with fail);go_ret;exact⟨by rw[Z.o];rfl,X.o⟩| true =>(have a0:=Hd (H (by unfold Kn Pr;rw[K,hk1,hv1,b2];simp only;rw[hls];simp));clear hk1 hv1 K a1 a3 a4 A H hcell hp hk0 b0 b3 b2;go_wp2_with fail);refine Ij (List.range 25) Af Aa Aq vY vY vY ?_;simp only[List.range,List.range.loop];refine vK ?_;(refine Dc wr _ rfl (fun O q=>Bq Ag rfl (Am (by exact Q0.o) q)) (vS ?_);refine Ls _ 42 #[x] true rfl (fun w1=>Ex (vX 42) vY) (fun w1 J=>(GF w1 x (kL a7.o)).mono (fun e O ⟨J,q⟩=>⟨by rw[J,HK.o],q ▸ Aa w1⟩)) (vS ?_);iterate 3 refine vK ?_);(refine Dc ⟨wr.heap.size,1,none⟩ _ rfl (fun O q=>Bq Ag rfl (Am (by exact Q1.o) q)) (vS ?_);refine Ls _ 43 #[y] true rfl (fun w1=>Ex (vX 43) vY) (fun w1 J=>(JU w1 y (kL a9.o)).mono (fun e O ⟨J,q⟩=>⟨by rw[J,a5.o],q ▸ Aa w1⟩)) (vS ?_);iterate 11 refine vK ?_);refine Dc ⟨b,o+(k - 1) * 2,none⟩ _ rfl (fun O q=>Bq Ag rfl (Am (by exact QP.o) q)) (vS ?_);refine vK ?_;(refine Dc wr _ rfl (fun O q=>Bq Ag rfl (Am (by exact Q0.o) q)) (vS ?_);iterate 3 refine vK ?_);(refine Hv (fun w3 he=>?_);have X:=Hd (((HE.o.alloc _).trans (Ap _)).trans he);clear he;go_wp2_with fail);go_roundw;(case rel=>exact⟨k+1,by omega,by go_num,X.o,a0.o⟩);case measure=>exact vJ};have b5:k=l.length:=vO;subst b5;by_cases h40:40 < l.length;{have c4:(40:Int) < (l.length:Int):=vO;(have e:Dv l=12:=by unfold Dv;rw[if_neg (by rw[a2.o];simp),if_pos h40]);(have E:=Hd e;clear e;go_wp2_with fail);go_ret;exact⟨by rw[E.o];rfl,HE.o⟩};have c4:¬(40:Int) < (l.length:Int):=vO;(have e:Dv l=0:=by unfold Dv;rw[if_neg (by rw[a2.o];simp),if_neg h40]);(have E:=Hd e;clear e;go_wp2_with fail);go_ret;exact⟨by rw[E.o];rfl,HE.o⟩
section
section mixd
variable {P:Program} {l:List Oper} {E D:vW->vW->Prop}
def Rr(P:Program)(ops:Array Oper)(E D:vW->vW->Prop)(w:vW)(o:Oper)(v:vV)(a:Act):Prop:=
 (Region.wanted o (yielded ops a.tmps)=true/\∀ w1,D w w1->EJ P E w1 v ((execOp a.eval o).run P w1))\/(Region.wanted o (yielded ops a.tmps)=false/\v=undef)
theorem Rr.of_same{ops:Array Oper}{w:vW}{o:Oper}{v:vV}{a a':Act}(hy:Rr P ops E D w o v a)(he:execOp a'.eval o=execOp a.eval o)
  (hw:Region.wanted o (yielded ops a'.tmps)=Region.wanted o (yielded ops a.tmps)):Rr P ops E D w o v a':=by
 unfold Rr at *;rw[he,hw];exact hy
theorem Rr.st(hT:∀ x y z,D x y->D y z->D x z){ops:Array Oper}{w w1:vW}{o:Oper}{v:vV}{a:Act}(hy:Rr P ops E D w o v a)(h:D w w1):Rr P ops E D w1 o v a:=
 hy.imp (fun ⟨e,q⟩=>⟨e,fun A H=>q A (hT _ _ _ h H)⟩) id
theorem Rr.wpOp{ops:Array Oper}{i:Nat}{o:Oper}{v:vV}{a:Act}{w:vW}(hi:ops[i]?=some o)(hy:Rr P ops E D w o v a){K:Act->vW->Prop}{w1:vW}(H:D w w1)(hE:∀ w,E w w)
  (h:∀ w',E w1 w'->K (a.put o.dst v) w'):wpOp P ops Ml i K a w1:=by
 unfold Go.wpOp;simp only[hi];rcases hy with⟨hw,hv⟩ |⟨hw,rfl⟩
 ·simp only[hw,if_true];refine .inl ?_;have q:=hv w1 H;unfold Oper.wp;generalize (execOp a.eval o).run P w1=r at *;cases r with| ok n w' =>(cases n <;> simp only[EJ]at q <;> simp only[Oper.upon]);(case value u=>obtain⟨A,J⟩:=q;rw[A,J];exact h _ (hE w1));(case skip=>obtain⟨A,J⟩:=q;rw[A, <-J];exact h _ (hE w1));case enter f args =>obtain⟨A,O⟩:=q;rw[A];exact O.mono fun e X ⟨Z,H⟩=>by subst Z;exact h _ H| halt x w'=>simp only[EJ]at q
 ·simp only[hw,cH,if_false];exact h _ (hE w1)
def Sp(P:Program)(ops:Array Oper)(hd:List Nat)(E D:vW->vW->Prop)(Q:Act->vW->Prop):Nat->Array Bool->Act->vW->Prop
 | 0,listed,a,w=>∀ w1,E w w1->Region.ready .any ops listed=[]/\Q a w1
 | fuel+1,listed,a,w=>∀ w1,E w w1 ->
  (Region.ready .any ops listed=[]->Q a w1) /\
  ∀ i∈Region.ready .any ops listed,wpOp P ops Ml i (fun a' w'=>D w1 w'/\(i ∉ hd->E w1 w')/\Sp P ops hd E D Q fuel (listed.setIfInBounds i true) a' w') a w1
theorem pH(hT:∀ x y z,E x y->E y z->E x z){ops:Array Oper}{hd:List Nat}{Q:Act->vW->Prop}:∀ (fuel:Nat) (listed:Array Bool) (a:Act) (w w1:vW),Sp P ops hd E D Q fuel listed a w->E w w1->Sp P ops hd E D Q fuel listed a w1
 | 0,_,_,_,_,h,he=>fun e q=>h e (hT _ _ _ he q)
 | _+1,_,_,_,_,h,he=>fun e q=>h e (hT _ _ _ he q)
theorem RR(hE:∀ w,E w w){ops:Array Oper}{hd:List Nat}{Q:Act->vW->Prop}{Q':Exit->Act->vW->Prop}(hQ:∀ a w,Q a w->Q' .normal a w):∀ (fuel:Nat) (listed:Array Bool) (a:Act) (w:vW),Sp P ops hd E D Q fuel listed a w->wpAny P .any ops Q' fuel listed a w
 | 0,_,_,w,h=>let ⟨h1,h2⟩:=h w (hE w);⟨h1,hQ _ _ h2⟩
 | fuel+1,_,_,w,h=>let ⟨h1,h2⟩:=h w (hE w)
  ⟨fun e=>hQ _ _ (h1 e),fun i q=>NZ (fun A w' ⟨_,_,H⟩=>RR hE hQ fuel _ A w' H) (h2 i q)⟩
theorem aJ(hE:∀ w,E w w)(hT:∀ x y z,E x y->E y z->E x z)(hD:∀ x y z,D x y->D y z->D x z)(hED:∀ x y,E x y->D x y){ops:Array Oper}{hd:List Nat}{Q:Act->vW->Prop}{i:Nat}{oi:Oper}{v:vV}(hi:ops[i]?=some oi)(hsel:∀ (j:Nat) (o:Oper) cs b,ops[j]?=some o->o.op≠.select cs b):∀ (A:Nat) (q:Array Bool) (a:Act) (w:vW),
   (∀ j oj,ops[j]?=some oj->j≠i->q.getD j true=false->(∀ e∈oj.after,Region.binds .any e=true->e.on≠i)->oi.apart ops oj=true) ->
   i∈Region.ready .any ops q->Rr P ops E D w oi v a ->
   Sp P ops hd E D Q A (q.setIfInBounds i true) (a.put oi.dst v) w->Sp P ops hd E D Q (A+1) q a w:=by
 intro A;induction A with
 | zero =>intro q a w _ hr hy H w1 O;refine⟨fun h=>(by rw[h]at hr;cases hr),fun j hj=>?_⟩;by_cases hji:j=i;{subst hji;exact hy.wpOp hi (hED _ _ O) hE (fun w' J=>⟨hED _ _ J,fun _=>J,pH hT _ _ _ _ _ H (hT _ _ _ O J)⟩)};have:=ready_mono hj hji;rw[(H w1 O).1]at this;cases this
 | succ A ih =>intro q a w K hr hy H w1 O;refine⟨fun h=>(by rw[h]at hr;cases hr),fun j hj=>?_⟩;by_cases hji:j=i;{subst hji;exact hy.wpOp hi (hED _ _ O) hE (fun w' J=>⟨hED _ _ J,fun _=>J,pH hT _ _ _ _ _ H (hT _ _ _ O J)⟩)};have J:=(H w1 O).2 j (ready_mono hj hji);obtain⟨Z,oj,a0,a3⟩:=mem_ready.1 hj;(have a4:∀ e∈oj.after,Region.binds .any e=true->e.on≠i:=fun e O hb a7=>by have J:=a3 e O hb;have h0:=(mem_ready.1 hr).1;rw[a7]at J;rcases fA i q.size with h' | h';{simp[h']at h0 J;rw[h0]at J;cases J};simp[gF h']at J);have h2:=JG (v:=v) (Y:=fun a'=>execOp a'.eval oi=execOp a.eval oi/\Region.wanted oi (yielded ops a'.tmps)=Region.wanted oi (yielded ops a.tmps)) a0 (K j oj a0 hji Z a4) (fun cs b=>hsel i oi cs b hi) (fun cs b=>hsel j oj cs b a0) (fun a1 a2 h e1 e2=>⟨e1.trans h.1,e2.trans h.2⟩) ⟨rfl,rfl⟩ J;(have X:∀ k ok,ops[k]?=some ok->k≠i->(q.setIfInBounds j true).getD k true=false ->(∀ e∈ok.after,Region.binds .any e=true->e.on≠i)->oi.apart ops ok=true:=fun k ok hk a8 a5 a9=>by refine K k ok hk a8 ?_ a9;by_cases hjk:j=k;{subst hjk;exact Z};rw[getD_set_ne true hjk]at a5;exact a5);refine wpOp_mono (fun a' w' h3=>⟨h3.2.1,h3.2.2.1,?_⟩) h2;obtain⟨⟨e1,e2⟩,h4,_,h5⟩:=h3;have b0:Rr P ops E D w' oi v a':=(hy.of_same e1 e2).st hD (hD _ _ _ (hED _ _ O) h4);refine ih (q.setIfInBounds j true) a' w' X (ready_mono hr (Ne.symm hji)) b0 ?_;rw[gU _ _ hji];exact h5
def Gr(P:Program)(l:List Oper)(hd:List Nat)(E D:vW->vW->Prop)(Q:Act->vW->Prop):List Nat->List Nat->Act->vW->Prop
 | [],done,a,w=>∀ w1,E w w1->Region.ready .any l.toArray (Dy l done)=[]/\Q a w1
 | k :: ord,done,a,w =>
  (k∈Region.ready .any l.toArray (Dy l done)/\Region.free .any l.toArray (Dy l done) k=true/\∃ o v,l[k]?=some o/\Rr P l.toArray E D w o v a/\Gr P l hd E D Q ord (k :: done) (a.put o.dst v) w) \/
  (Region.ready .any l.toArray (Dy l done)=[k]/\k∈hd/\∀ w1,E w w1->wpOp P l.toArray Ml k (fun a' w'=>D w1 w'/\Gr P l hd E D Q ord (k :: done) a' w') a w1)
theorem RV(hE:∀ w,E w w)(hT:∀ x y z,E x y->E y z->E x z)(hD:∀ x y z,D x y->D y z->D x z)(hED:∀ x y,E x y->D x y)(hs:Region.noSelect l.toArray=true){hd:List Nat}{Q:Act->vW->Prop}:∀ (ord:List Nat) (done:List Nat) (a:Act) (w:vW),
  Gr P l hd E D Q ord done a w->Sp P l.toArray hd E D Q ord.length (Dy l done) a w
 | [],_,_,_,h=>h
 | k :: ord,done,a,w,h=>by
  rcases h with⟨hr,hf,o,v,ho,hy,h⟩ |⟨hr,hk,h⟩
  ·have e:l.toArray[k]?=some o:=by simpa using ho
   exact aJ hE hT hD hED e (gK hs) ord.length (Dy l done) a w (iF e hf) hr hy (RV hE hT hD hED hs ord _ _ _ h)
  ·intro w1 J
   refine⟨fun q=>(by rw[hr]at q;cases q),fun i A=>?_⟩
   rw[hr]at A;obtain rfl:i=k:=by simpa using A
   exact wpOp_mono (fun O w' H=>⟨H.1,fun K=>absurd hk K,RV hE hT hD hED hs ord _ _ _ H.2⟩) (h w1 J)
theorem Nc(ord hd:List Nat)(E D:vW->vW->Prop)(hE:∀ w,E w w)(hT:∀ x y z,E x y->E y z->E x z)(hD:∀ x y z,D x y->D y z->D x z)(hED:∀ x y,E x y->D x y){id:Nat}{Q:Exit->Act->vW->Prop}{a:Act}{w:vW}
  (hm:P.follows .mixedOrders=true) (hs:Region.noSelect l.toArray=true) (hl:ord.length=l.toArray.size)
  (h:Gr P l hd E D (fun a w=>Q .normal a w) ord [] a w.drew):(Code.region id l.toArray true).wp P Q a w:=by
 refine wp_region_any hm ?_;rw[<-hl]
 have:=RV hE hT hD hED hs ord _ _ _ h
 unfold Dy at this;rw[hl]at this ⊢;exact RR hE (fun _ _ h=>h) _ _ _ _ this
variable {Q:Act->vW->Prop} {ord done hd:List Nat} {a:Act} {w:vW} {k:Nat} {o:Oper}
def headD(l:List Oper)(done:List Nat)(k:Nat):Bool:=(Region.ready .any l.toArray (Dy l done)).contains k && Region.free .any l.toArray (Dy l done) k
def KT(l:List Oper)(hd done:List Nat)(k:Nat):Bool:=Region.ready .any l.toArray (Dy l done) == [k] && hd.contains k
theorem js1(o:Oper)(ho:l[k]?=some o)(hk:headD l done k=true)(hw:Region.wanted o (yielded l.toArray a.tmps)=true)(hq:EA o.op=true)
  (h:∀ K:Act->Prop,(∀ a',Gr P l hd E D Q ord (k :: done) a' w->K a')->o.quiet P a (fun _=>True) K):Gr P l hd E D Q (k :: ord) done a w:=by
 simp only[headD,cI,cJ]at hk
 obtain⟨v,A,H⟩:=h _ (fun _ h=>h)
 have q:Rr P l.toArray E D w o v a:=by refine .inl ⟨hw,fun w1 _=>?_⟩;have e:=A w1 trivial;unfold Oper.quietAt at e;have J:=fun f args w'=>KF (ρ:=a.eval) hq P w1 w' f args;generalize (execOp a.eval o).run P w1=r at *;cases r with| ok n w'=>(cases n <;> simp only[Oper.quietUpon]at e <;> first | exact e | exact absurd rfl (J _ _ _))| halt x w'=>simp only[Oper.quietUpon]at e
 exact .inl ⟨hk.1,hk.2,o,v,ho,q,H⟩
theorem mV(o:Oper)(v:vV)(ho:l[k]?=some o)(hk:headD l done k=true)(hw:Region.wanted o (yielded l.toArray a.tmps)=true)
  (hv:∀ w1,D w w1->(execOp a.eval o).run P w1=.ok (.value v) w1) (h:Gr P l hd E D Q ord (k :: done) (a.put o.dst v) w):Gr P l hd E D Q (k :: ord) done a w:=by
 simp only[headD,cI,cJ]at hk;exact .inl ⟨hk.1,hk.2,o,v,ho,.inl ⟨hw,fun w1 e=>by rw[hv w1 e];exact⟨rfl,rfl⟩⟩,h⟩
theorem Lr(o:Oper)(v:vV)(ho:l[k]?=some o)(hv:∀ w1,D w w1->(execOp a.eval o).run P w1=.ok (.value v) w1)(h:Gr P l hd E D Q ord (k :: done) (a.put o.dst v) w)(hk:headD l done k=true:=by kernel_rfl)(hw:Region.wanted o (yielded l.toArray a.tmps)=true:=by rfl):Gr P l hd E D Q (k :: ord) done a w:=mV o v ho hk hw hv h
theorem js0(p:Addr)(v:vV){t:TypeId}{x:Operand}{d:Option Tmp}{ty:TypeId}{pos:String}{af:Array Edge}{g:Option (Nat × Bool)}(ho:l[k]?=some ⟨d,.load t x,ty,pos,af,g⟩)(hk:headD l done k=true)
  (hw:Region.wanted ⟨d,.load t x,ty,pos,af,g⟩ (yielded l.toArray a.tmps)=true) (hx:a.eval x=.pointer (some p))
  (hv:∀ w1,D w w1->(Instr.loadAt t p).run P w1=.ok v w1) (h:Gr P l hd E D Q ord (k :: done) (a.put d v) w):Gr P l hd E D Q (k :: ord) done a w:=by
 refine mV _ v ho hk hw (fun w1 e=>?_) h
 have:=hv w1 e
 simp only[execOp,hx,bQ,this,Result.andThen,cU]
theorem Fc{t:TypeId}{x:Operand}{d:Option Tmp}{ty:TypeId}{pos:String}{af:Array Edge}{g:Option (Nat × Bool)}(p:Addr)(v:vV)(ho:l[k]?=some ⟨d,.load t x,ty,pos,af,g⟩)(hv:∀ w1,D w w1->(Instr.loadAt t p).run P w1=.ok v w1)(h:Gr P l hd E D Q ord (k :: done) (a.put d v) w)(hk:headD l done k=true:=by kernel_rfl)(hw:Region.wanted ⟨d,.load t x,ty,pos,af,g⟩ (yielded l.toArray a.tmps)=true:=by rfl)(hx:a.eval x=.pointer (some p):=by rfl):Gr P l hd E D Q (k :: ord) done a w:=js0 p v ho hk hw hx hv h
theorem FM(o:Oper)(f:FuncId)(args:Array vV)(v:vV)(ho:l[k]?=some o)(hk:headD l done k=true)(hw:Region.wanted o (yielded l.toArray a.tmps)=true)
  (hv:∀ w1,(execOp a.eval o).run P w1=.ok (.enter f args) w1) (hc:∀ w1,D w w1->Calls P f args w1 (fun e A=>e=.returned v/\E w1 A))
  (h:Gr P l hd E D Q ord (k :: done) (a.put o.dst v) w):Gr P l hd E D Q (k :: ord) done a w:=by
 simp only[headD,cI,cJ]at hk;exact .inl ⟨hk.1,hk.2,o,v,ho,.inl ⟨hw,fun w1 q=>by rw[hv w1];exact⟨rfl,hc w1 q⟩⟩,h⟩
theorem jsZ(o:Oper)(ho:l[k]?=some o)(hk:KT l hd done k=true)(hw:Region.wanted o (yielded l.toArray a.tmps)=true)
  (h:∀ w1,E w w1->∀ K:Act->vW->Prop,(∀ a' w',D w1 w'->Gr P l hd E D Q ord (k :: done) a' w'->K a' w')->o.wp P a w1 K Ml):Gr P l hd E D Q (k :: ord) done a w:=by
 simp only[KT,cI,beq_iff_eq,cJ]at hk;refine .inr ⟨hk.1,hk.2,fun w1 q=>?_⟩;unfold wpOp;have e:l.toArray[k]?=some o:=by simpa using ho
 simp only[e,hw,if_true];exact .inl (h w1 q _ (fun _ _ A H=>⟨A,H⟩))
theorem Hl(o:Oper)(ho:l[k]?=some o)(h:∀ w1,E w w1->∀ K:Act->vW->Prop,(∀ a' w',D w1 w'->Gr P l hd E D Q ord (k :: done) a' w'->K a' w')->o.wp P a w1 K Ml)(hk:KT l hd done k=true:=by kernel_rfl)(hw:Region.wanted o (yielded l.toArray a.tmps)=true:=by rfl):Gr P l hd E D Q (k :: ord) done a w:=jsZ o ho hk hw h
theorem jvU(hk:(Region.ready .any l.toArray (Dy l done)).isEmpty=true)(h:∀ w1,E w w1->Q a w1):Gr P l hd E D Q [] done a w:=
 fun w1 e=>⟨by simpa using hk,h w1 e⟩
theorem Mr(h:∀ w1,E w w1->Q a w1)(hk:(Region.ready .any l.toArray (Dy l done)).isEmpty=true:=by kernel_rfl):Gr P l hd E D Q [] done a w:=jvU hk h
end mixd
end
def Pz(xs:vL):List vV:=xs.flatMap fun p=>[p.1,p.2]
theorem MH(xs:vL):(Pz xs).length=xs.length * 2:=by
 induction xs with
 | nil=>rfl
 | cons x r ih=>unfold Pz at *;rw[dN,bK,ih];simp;omega
theorem EZ(xs ys:vL):Pz (xs++ys)=Pz xs++Pz ys:=by simp[Pz]
theorem MG:∀ (xs:vL) (j:Nat) (p:Ar),xs[j]?=some p->(Pz xs)[j * 2]?=some (.string p.1)/\(Pz xs)[j * 2+1]?=some (.string p.2)
 | [],j,p,h=>by simp at h
 | x :: r,0,p,h=>by simp at h;subst h;exact⟨rfl,rfl⟩
 | x :: r,j+1,p,h=>by
  have:=MG r j p (by simpa using h)
  rw[show (j+1) * 2=j * 2+1+1 by omega];exact this
theorem Kl:Tryz.prog.underlying 147=some (.slice 220):=vY
theorem Ie:(Tryz.prog.info? 220).map (fun i=>(i.zero,i.size,i.bytes))=some (some (.agg #[.string ⟨#[]⟩,.string ⟨#[]⟩]),2,32):=vY
theorem Kj:Me Tryz.prog 147 220 2 32:=Me.mk' Kl Ie rfl vI
abbrev Lf(w0 w:vW)(v:vV)(n:Nat)(xs:vL):Prop:=Av 220 2 w0 w v n (Pz xs)
theorem Lf.rd{w:vW}{n:Nat}{xs:vL}(h:Lf w0 w v n xs):Io w v xs:=by
 have A:xs.length=n:=by have:=h.len;rw[MH]at this;omega
 obtain⟨_,⟨rfl,Z⟩ |⟨g,e,H,rfl,h3,J,K,h6,h7⟩⟩:=h.own
 ·exact .inl ⟨none,0,rfl,bH vO⟩
 ·subst A;refine .inr ⟨g,0,e,rfl,(dD.1 J).1,K,fun j x q=>?_⟩;have hj:=(bI.1 q).1;obtain⟨O,X⟩:=MG xs j x q;exact⟨by rw[bX,h.own.cellAt (j * 2) vO,O],by rw[bX,h.own.cellAt (j * 2+1) vO,X]⟩
def Em(l:vL):vL:=l.map fun p=>(Ci p.1,p.2)
def jxp(w:vW)(l:vL)(v i:vV)(wr:vW):Prop:=∃ k:Nat,k<=l.length/\i=.int .i64 k/\Lf w wr v k ((Em l).take k)
theorem XF{w:vW}{T:TypeId}{n:Nat}{xs:List vV}(h:Av T sz w0 w v n xs):¬ v.ownBlock=some w.heap.size:=fun e=>kL (h.lt _ e)
theorem rU(v:vV)(l:vL)(hv:Io w v l)(hn:l.length<=1000000)(hs:∀ p∈l,p.1.size<=1000000):vQ 71 #[v] w fun e w'=>∃ u,e=.returned u/\Lf w w' u l.length (Em l):=by
 obtain⟨a,c,a7⟩:=hv.sl
 have HV:=Hd hv;have HS:=Hd hs;subst a7;clear hv hs
 obtain⟨i0,hi,a8,a9,b0⟩:=info_parts Ie
 obtain⟨w1,b6,A,Z⟩:=run_make_own (P:=Tryz.prog) (w:=w) w 147 220 i0 _ 2 Kl hi a8 a9 .i64 .i64 l.length (by rw[b0];omega) (by unfold maxLen;omega) (bP _)
 have HO:=Hd A;have HG:=Hd Z;clear A Z;unfold vQ;go_in;go_wp2_with fail
 go_loopw [3,11] (fun v i wr=>jxp w l v i wr) (fun _ i _=>l.length - (intOf i).toNat)
 case atStart=>exact⟨0,cE _,rfl,Av.made w HO.o HG.o⟩
 case round =>obtain⟨k,hk,rfl,hR⟩:=hrel;obtain⟨a2,c2,rfl⟩:=hR.sl;have O:=Hd hR;clear hR;by_cases hlt:k < l.length;{rcases HV.o with⟨_,_,_,h0⟩ |⟨b,o,c',hh,hb,hc,hcell⟩;{rw[h0]at hlt;cases hlt};cases hh;obtain⟨p,hp⟩:∃ p,l[k]?=some p:=⟨_,bB hlt⟩;obtain⟨q1,q2⟩:=hcell k p hp;have q1:=Am q1 O.o.ext;have q2:=Am q2 O.o.ext;have H:=HS.o p (bD hp);obtain⟨x,y⟩:=p;simp only at q1 q2 H;have b1:(k:Int) < (l.length:Int):=vO;(have a0:(Em l).take (k+1)=(Em l).take k++[(Ci x,y)]:=by rw[cA];unfold Em;rw[bY,hp];rfl);(have b2:=Hd a0;have b3:=Hd H;have Q0:=Hd (show (wr.alloc (.cells #[x,y] 49)).cell? wr=some (.string x)from(Ae.new wr _).cell vF);have Q1:=Hd (show (wr.alloc (.cells #[x,y] 49)).cell? ⟨wr.heap.size,1,none⟩=some (.string y)from(Ae.new wr _).cell vF);have NB:=Hd (XF O.o);clear hcell hp H a0;go_wp2_with fail);(refine Nc [0,1,2,3,4,5,6,7,8,9] [7,8] Af (Ad (fun b=>(Value.slice a2 k c2).ownBlock=some b)) Aa Aq (fun x y z h k=>Ad.trans h k) (fun x y h=>h.mono kZ) vY vY vY ?_;iterate 2 refine vD ?_);refine Fc wr _ rfl (fun X h2=>Bq Ag rfl (Dw (by exact Q0.o) h2 NB.o)) (vS ?_);refine FM _ 126 #[x] (Ci x) rfl vY rfl (fun w1=>Ex (vX 126) vY) (fun w1 h1=>Zu w1 x b3.o) (vS ?_);refine vD ?_;refine Fc ⟨wr.heap.size,1,none⟩ _ rfl (fun X h2=>Bq Ag rfl (Dw (by exact Q1.o) h2 NB.o)) (vS ?_);refine vD ?_;(refine Hl _ rfl (fun X q K hK=>?_);have a1:=Hd (O.o.mono ((((Aa wr).alloc _).trans (Ap _)).trans q));clear q O;go_simp;refine hK _ _ ((Ad.refl _ X).alloc _) ?_;clear hK K;refine Hl _ rfl (fun w3 q K hK=>?_);have a3:=Hd (a1.o.mono (((Aa X).alloc _).trans q));have hB:∀ j u,([Ci x,y]:List vV)[j]?=some u->w3.cell? ((X:Addr).add j)=some u:=fun j u hj=>Am (Jx (Ae.new X (.cells [Value.string (Ci x),.string y].toArray 220)) j u hj) q;refine CN Kj a3.o (.tmp 15) (.tmp 22) rfl rfl hB (by intro u hu;simp at hu;rcases hu with rfl | rfl <;> rfl) rfl rfl (by unfold maxLen;omega) vO (fun v' w4 r1 r2 r3=>hK _ _ r2 ?_);have a5:Lf w w4 v' (k+1) ((Em l).take (k+1)):=by unfold Lf;rw[b2.o,EZ];exact r1);have J:=Hd a5;clear hK K q r1 r2 r3 a5 hB a1 a3;obtain⟨a4,c4,rfl⟩:=J.o.sl;refine vS ?_;refine vD ?_;(refine Mr (fun w5 q=>?_);have b4:=Hd (J.o.mono q);clear q J;go_wp2_with fail);go_roundw;(case rel=>exact⟨k+1,by omega,by go_num,b4.o⟩);case measure=>exact vJ};have b5:k=l.length:=vO;subst b5;go_wp2;go_ret;have h:=O.o;rw[cF (by simp[Em])]at h;exact⟨_,rfl,h⟩
def Az(d:Nat)(l:vL):vL:=l.map fun p=>(p.1.extract d p.1.size,p.2)
def jxe(w:vW)(d:Nat)(l:vL)(v i:vV)(wr:vW):Prop:=∃ k:Nat,k<=l.length/\i=.int .i64 k/\Lf w wr v k ((Az d l).take k)
theorem kK(v:vV)(d:Nat)(l:vL)(hv:Io w v l)(hn:l.length<=1000000)(hs:∀ p∈l,d<=p.1.size/\p.1.size<=1000000):vQ 122 #[v,.int .i64 d] w fun e w'=>∃ u,e=.returned u/\Lf w w' u l.length (Az d l):=by
 obtain⟨a,c,a7⟩:=hv.sl
 have HV:=Hd hv;have HS:=Hd hs;subst a7;clear hv hs
 obtain⟨i0,hi,a8,a9,b0⟩:=info_parts Ie
 obtain⟨w1,b6,A,X⟩:=run_make_own (P:=Tryz.prog) (w:=w) w 147 220 i0 _ 2 Kl hi a8 a9 .i64 .i64 l.length (by rw[b0];omega) (by unfold maxLen;omega) (bP _)
 have HO:=Hd A;have HG:=Hd X;clear A X;unfold vQ;go_in;go_wp2_with fail
 go_loopw [5,13] (fun v i wr=>jxe w d l v i wr) (fun _ i _=>l.length - (intOf i).toNat)
 case atStart=>exact⟨0,cE _,rfl,Av.made w HO.o HG.o⟩
 case round =>obtain⟨k,hk,rfl,hR⟩:=hrel;obtain⟨a2,c2,rfl⟩:=hR.sl;have J:=Hd hR;clear hR;by_cases hlt:k < l.length;{rcases HV.o with⟨_,_,_,h0⟩ |⟨b,o,c',hh,hb,hc,hcell⟩;{rw[h0]at hlt;cases hlt};cases hh;obtain⟨p,hp⟩:∃ p,l[k]?=some p:=⟨_,bB hlt⟩;obtain⟨q1,q2⟩:=hcell k p hp;have q1:=Am q1 J.o.ext;have q2:=Am q2 J.o.ext;have Z:=HS.o p (bD hp);obtain⟨x,y⟩:=p;simp only at q1 q2 Z;have b1:(k:Int) < (l.length:Int):=vO;have b2:(d:Int)<=(x.size:Int):=vO;(have a0:(Az d l).take (k+1)=(Az d l).take k++[(x.extract d x.size,y)]:=by rw[cA];unfold Az;rw[bY,hp];rfl);(have b3:=Hd a0;have Q0:=Hd (show (wr.alloc (.cells #[x,y] 220)).cell? wr=some (.string x)from(Ae.new wr _).cell vF);have Q1:=Hd (show (wr.alloc (.cells #[x,y] 220)).cell? ⟨wr.heap.size,1,none⟩=some (.string y)from(Ae.new wr _).cell vF);have NB:=Hd (XF J.o);clear hcell hp Z a0;go_wp2_with fail);(refine Nc [0,1,2,3,4,5,6,7,8,9,10] [8,9] Af (Ad (fun b=>(Value.slice a2 k c2).ownBlock=some b)) Aa Aq (fun x y z h k=>Ad.trans h k) (fun x y h=>h.mono kZ) vY vY vY ?_;iterate 2 refine vD ?_);(refine Fc wr _ rfl (fun O h2=>Bq Ag rfl (Dw (by exact Q0.o) h2 NB.o)) (vS ?_);iterate 3 refine vD ?_);refine Fc ⟨wr.heap.size,1,none⟩ _ rfl (fun O h2=>Bq Ag rfl (Dw (by exact Q1.o) h2 NB.o)) (vS ?_);refine vD ?_;(refine Hl _ rfl (fun O q K hK=>?_);have a1:=Hd (J.o.mono ((((Aa wr).alloc _).trans (Ap _)).trans q));clear q J;go_simp;refine hK _ _ ((Ad.refl _ O).alloc _) ?_;clear hK K;refine Hl _ rfl (fun w3 q K hK=>?_);have a3:=Hd (a1.o.mono (((Aa O).alloc _).trans q));have hB:∀ j u,([x.extract d x.size,y]:List vV)[j]?=some u->w3.cell? ((O:Addr).add j)=some u:=fun j u hj=>Am (Jx (Ae.new O (.cells [Value.string (x.extract d x.size),.string y].toArray 220)) j u hj) q;refine CN Kj a3.o (.tmp 17) (.tmp 25) rfl rfl hB (by intro u hu;simp at hu;rcases hu with rfl | rfl <;> rfl) rfl rfl (by unfold maxLen;omega) vO (fun v' w4 r1 r2 r3=>hK _ _ r2 ?_);have a5:Lf w w4 v' (k+1) ((Az d l).take (k+1)):=by unfold Lf;rw[b3.o,EZ];exact r1);have H:=Hd a5;clear hK K q r1 r2 r3 a5 hB a1 a3;obtain⟨a4,c4,rfl⟩:=H.o.sl;refine vS ?_;refine vD ?_;(refine Mr (fun w5 q=>?_);have b4:=Hd (H.o.mono q);clear q H;go_wp2_with fail);go_roundw;(case rel=>exact⟨k+1,by omega,by go_num,b4.o⟩);case measure=>exact vJ};have b5:k=l.length:=vO;subst b5;go_wp2;go_ret;have h:=J.o;rw[cF (by simp[Az])]at h;exact⟨_,rfl,h⟩
def Ur(i:Nat)(p:Ar):Bool:=match p.1.data.toList with | []=>false | a :: _=>a.toNat == i
theorem jwb{x y:vB}(h:0 < x.size):Ur i (x,y)=(x[0].toNat == i):=by
 obtain⟨⟨l⟩⟩:=x
 cases l with
 | nil=>exact absurd h (Nat.lt_irrefl 0)
 | cons a r=>rfl
theorem juD(a b:Nat):((a:Int) ==(b:Int))=(a == b):=by
 by_cases h:a=b
 ·subst h;simp
 ·have e:¬(a:Int)=(b:Int):=vO;rw[beq_eq_false_iff_ne.2 h,beq_eq_false_iff_ne.2 e]
theorem uU(hs:x.size<=1000000)(hi:i < 256)(hc:w.cell? gi=some (.int .i64 (i:Int))):vR 124 #[.agg #[x,y],gi] w (Ur i (x,y)):=by
 have K:=Hd (show (w.alloc (.cells #[x,y] 220)).cell? w=some (.string x)from(Ae.new w _).cell vF);have QI:=Hd (Am hc ((Aa w).alloc (.cells #[x,y] 220)));clear hc
 by_cases h0:x.size=0
 ·have:=Og h0;(subst this;have E:Hid (Ur i (⟨#[]⟩,y)=false):=rfl;unfold vR vQ;go_in;go_wp2_with fail);refine Ij [0,1,2,3,4,5,6,7,8,9,10,11] Af Aa Aq vY vY vY ?_;refine vK ?_;(refine Dc w _ rfl (fun O q=>Bq Ag rfl (Am (by exact K.o) q)) (vS ?_);iterate 2 refine vK ?_);(iterate 6 (refine Wv _ rfl (vS ?_)));(iterate 2 refine vK ?_);(refine Hv (fun w3 H=>?_);have X:=Hd ((((Aa w).alloc (.cells #[.string ⟨#[]⟩,y] 220)).trans (Ap _)).trans H);clear H;go_wp2_with fail);go_ret;exact⟨by rw[E.o];rfl,X.o⟩
 ·have e:0 < x.size:=vO;have a2:=Rq (s:=x) e;have c0:(0:Int) < (x.size:Int):=vO;(have c1:=x[0].toNat_lt;have E:=Hd (jwb (y:=y) i e);have J:((x[0].toNat:Int) ==(i:Int))=(x[0].toNat == i):=juD _ _;have Z:=Hd J;clear J;unfold vR vQ;go_in;go_wp2_with fail);refine Ij [0,1,2,3,4,5,6,7,8,9,10,11] Af Aa Aq vY vY vY ?_;refine vK ?_;(refine Dc w _ rfl (fun O q=>Bq Ag rfl (Am (by exact K.o) q)) (vS ?_);iterate 3 refine vK ?_);(refine Dc w _ rfl (fun O q=>Bq Ag rfl (Am (by exact K.o) q)) (vS ?_);iterate 2 refine vK ?_);(refine Dc gi _ rfl (fun O q=>Bq Fg rfl (Am (by exact QI.o) q)) (vS ?_);iterate 3 refine vK ?_);refine Hv (fun w3 H=>?_);have a0:=Hd ((((Aa w).alloc (.cells #[x,y] 220)).trans (Ap _)).trans H);clear H;rw[Z.o, <-E.o];obtain⟨bb,A⟩:=vE (Ur i (x,y));(rw[<-A];have a1:=Hd A;clear A;go_wp2_with fail);go_ret;exact⟨by rw[<-a1.o];rfl,a0.o⟩
def Ah(i:Nat)(l:vL):vL:=l.filter (Ur i)
theorem juZ(l:vL){k:Nat}{p:Ar}(h:l[k]?=some p):Ah i (l.take (k+1))=Ah i (l.take k)++(if Ur i p then [p]else []):=by
 unfold Ah;rw[cA,h,List.filter_append,Option.toList_some,List.filter_cons];simp
def jzn(w:vW)(i:Nat)(l:vL)(v j:vV)(wr:vW):Prop:=∃ k n:Nat,k<=l.length/\n<=k/\j=.int .i64 k/\Lf w wr v n (Ah i (l.take k))
theorem jz1(v:vV)(gi i:Nat)(l:vL)(hv:Io w v l)(hn:l.length<=1000000)(hs:∀ p∈l,p.1.size<=1000000)(hi:i < 256)(hc:w.cell? gi=some (.int .i64 (i:Int))):vQ 123 #[v,.func (.func 124) #[] #[gi]] w fun e w'=>∃ u n,e=.returned u/\Lf w w' u n (Ah i l):=by
 obtain⟨a,c,a0⟩:=hv.sl
 have HV:=Hd hv;have HS:=Hd hs;have HC:=Hd hc;subst a0;clear hv hs hc;unfold vQ;go_in;go_wp2_with fail
 go_loopw [5,10] (fun v j wr=>jzn w i l v j wr) (fun _ j _=>l.length - (intOf j).toNat)
 case atStart=>exact⟨0,0,cE _,cE _,rfl,Av.nil _ _ (Aa w)⟩
 case round =>obtain⟨k,n,hk,a4,rfl,hR⟩:=hrel;obtain⟨a2,c2,rfl⟩:=hR.sl;have K:=Hd hR;clear hR;by_cases hlt:k < l.length;{rcases HV.o with⟨_,_,_,h0⟩ |⟨b,o,c',hh,hb,hc,hcell⟩;{rw[h0]at hlt;cases hlt};cases hh;obtain⟨p,Z⟩:∃ p,l[k]?=some p:=⟨_,bB hlt⟩;obtain⟨q1,q2⟩:=hcell k p Z;have q1:=Am q1 K.o.ext;have q2:=Am q2 K.o.ext;have O:=HS.o p (bD Z);have X:=juZ i l Z;obtain⟨x,y⟩:=p;simp only at q1 q2 O;have b1:(k:Int) < (l.length:Int):=vO;(have q:=Hd X;clear hcell Z X;go_wp2_with fail);refine vC (uU _ x y gi i O hi (Am HC.o (K.o.ext.trans ((Aa wr).alloc _)))) fun w3 hE=>?_;have hX:=((Aa wr).alloc (.cells #[x,y] 220)).trans hE;have A:=Hd (K.o.mono hX);have H:=(Ae.new wr (.cells #[x,y] 220)).keeps hE kI;have p0:=H.cell (i:=0) (v:=.string x) vF;have p1:=H.cell (i:=1) (v:=.string y) vF;clear hX hE H q1 q2 K;cases hpk:Ur i (x,y)with| true =>(rw[hpk,if_pos rfl]at q;go_wp2_with (at_builtin;refine Rc Kj (A.o.mono ((Aa w3).alloc _)) (.tmp 17) (.tmp 19) rfl rfl rfl (Jx (Ae.new w3 _)) (news:=[x,y]) (by intro u hu;simp at hu;rcases hu with rfl | rfl <;> rfl) rfl rfl ?c1 ?c2 (fun v' w' r1 r2 r3=>?_)));(case c1=>unfold maxLen;omega);(case c2=>omega);(have J:Lf w w' v' (n+1) (Ah i (l.take (k+1))):=by unfold Lf;rw[q.o,EZ];exact r1);obtain⟨a5,c5,rfl⟩:=J.sl;(have a1:=Hd J;clear r1 r2 r3 J A;go_wp2_with fail);go_roundw;(case rel=>exact⟨k+1,n+1,by omega,by omega,by go_num,a1.o⟩);case measure=>exact vJ| false =>(rw[hpk,if_neg (by simp),cB]at q;go_wp2_with fail);go_roundw;(case rel=>exact⟨k+1,n,by omega,by omega,by go_num,by rw[q.o];exact A.o⟩);case measure=>exact vJ};have a3:k=l.length:=vO;subst a3;go_wp2;go_ret;have h:=K.o;rw[cD]at h;exact⟨_,_,rfl,h⟩
theorem IR{t e ty:TypeId}{i:TypeInfo}(ht:P.underlying t=some (.slice e))(hi:P.info? e=some i)(base:Option Addr)(n c:Nat)(hle:n<=c)(c2:Nat)(w:vW):(Builtin.append_ #[t,t] ty #[.slice base n c,.slice none 0 c2]).run P w=.ok (.slice base n c) w:=by
 have q:(sizeOf e).run P w=.ok i.size w:=by simp[sizeOf,typeInfo,hi]
 have A:∀ w,(Builtin.lenOf (.slice none 0 c2)).run P w=.ok 0 w:=fun w=>rfl;cases base <;> simp[Builtin.append_,bQ,Result.andThen,run_underlying ht,q,A,cU,Builtin.firstCells,hle,storeCells]
inductive PT where
 | mk (text:vB) (below:List PT)
def PT.text:PT->vB | .mk t _=>t
def PT.kids:PT->List PT | .mk _ ks=>ks
def Fv(b:Nat):vV:=.pointer (some b)
def Xa(A:Nat->Prop)(W:vW)(v:vV)(bs:List Nat):Prop:=
 (v=.slice none 0 0/\bs=[])\/∃ g c,v=.slice (some ⟨g,0,none⟩) bs.length c/\bs≠[]/\A g/\g < W.heap.size/\bs.length<=c/\∀ (j:Nat) b,bs[j]?=some b->W.cell? ⟨g,j,none⟩=some (Fv b)
mutual
def Lm(A:Nat->Prop):PT->Nat->vW->Prop
 | .mk t ks,b,W=>A b/\∃ v bs,Ae W b (.cells #[t,v] 168)/\Xa A W v bs/\Hh A ks bs W
def Hh(A:Nat->Prop):List PT->List Nat->vW->Prop
 | [],bs,_=>bs=[]
 | k :: ks,bs,W=>∃ b r,bs=b :: r/\Lm A k b W/\Hh A ks r W
end
theorem Xa.keeps{F:Bf}(h:Xa A W v bs)(k:Ad F W W')(hF:∀ x,A x->¬ F x):Xa A W' v bs:=by
 rcases h with h |⟨g,c,h1,h2,h3,h4,h5,h6⟩
 ·exact .inl h
 ·exact .inr ⟨g,c,h1,h2,h3,bE h4 k.size,h5,fun j b hb=>Dw (h6 j b hb) k (hF g h3)⟩
theorem Xa.mono(h:Xa A W v bs)(hA:∀ x,A x->x < W.heap.size->A' x):Xa A' W v bs:=by
 rcases h with h |⟨g,c,h1,h2,h3,h4,h5,h6⟩
 ·exact .inl h
 ·exact .inr ⟨g,c,h1,h2,hA g h3 h4,h4,h5,h6⟩
mutual
theorem Lm.keeps{A:Nat->Prop}{F:Bf}{W W':vW}(k:Ad F W W')(hF:∀ x,A x->¬ F x):∀ (T:PT) (b:Nat),Lm A T b W->Lm A T b W'
 | .mk t ks,b,h=>by
  unfold Lm at *
  obtain⟨e,v,q,H,J,K⟩:=h
  exact⟨e,v,q,H.keeps k (hF b e),J.keeps k hF,Hh.keeps k hF ks q K⟩
theorem Hh.keeps{A:Nat->Prop}{F:Bf}{W W':vW}(k:Ad F W W')(hF:∀ x,A x->¬ F x):∀ (ks:List PT) (bs:List Nat),Hh A ks bs W->Hh A ks bs W'
 | [],bs,h=>by unfold Hh at *;exact h
 | x :: ks,bs,h=>by
  unfold Hh at *
  obtain⟨b,r,e,q,H⟩:=h
  exact⟨b,r,e,Lm.keeps k hF x b q,Hh.keeps k hF ks r H⟩
end
mutual
theorem Lm.mono{A A':Nat->Prop}{W:vW}(hA:∀ x,A x->x < W.heap.size->A' x):∀ (T:PT) (b:Nat),Lm A T b W->Lm A' T b W
 | .mk t ks,b,h=>by
  unfold Lm at *
  obtain⟨H,v,e,q,J,K⟩:=h
  exact⟨hA b H q.lt,v,e,q,J.mono hA,Hh.mono hA ks e K⟩
theorem Hh.mono{A A':Nat->Prop}{W:vW}(hA:∀ x,A x->x < W.heap.size->A' x):∀ (ks:List PT) (bs:List Nat),Hh A ks bs W->Hh A' ks bs W
 | [],bs,h=>by unfold Hh at *;exact h
 | x :: ks,bs,h=>by
  unfold Hh at *
  obtain⟨b,r,e,q,H⟩:=h
  exact⟨b,r,e,Lm.mono hA x b q,Hh.mono hA ks r H⟩
end
theorem Hh.append{A:Nat->Prop}{W:vW}:∀ (ks:List PT) (bs:List Nat) (ks':List PT) (bs':List Nat),Hh A ks bs W->Hh A ks' bs' W->Hh A (ks++ks') (bs++bs') W
 | [],bs,ks',bs',h,h'=>by unfold Hh at h;subst h;exact h'
 | x :: ks,bs,ks',bs',h,h'=>by
  unfold Hh at h
  obtain⟨b,r,rfl,e,q⟩:=h
  show Hh A (x ::(ks++ks')) (b ::(r++bs')) W;unfold Hh
  exact⟨b,r++bs',rfl,e,Hh.append ks r ks' bs' q h'⟩
theorem Gz:Tryz.prog.underlying 166=some (.slice 145):=vY
theorem Qj:(Tryz.prog.info? 145).map (fun i=>(i.zero,i.size,i.bytes))=some (some (.pointer none),1,8):=vY
theorem Mo:Me Tryz.prog 166 145 1 8:=Me.mk' Gz Qj rfl vI
abbrev AF(w0 w:vW)(v:vV)(bs:List Nat):Prop:=Av 145 1 w0 w v bs.length (bs.map Fv)
structure Oi(w0 W:World)(b m:Nat)(t:vB)(ks:List PT)(u:Value)(bs:List Nat):Prop where
 blk:Ae W b (.cells #[t,u] 168)
 new:w0.heap.size<=b
 row:AF w0 W u bs
 nil:bs=[]->u=.slice none 0 0
 nb:¬ u.ownBlock=some b
 bm:m≠b
 mb:¬ u.ownBlock=some m
 mn:w0.heap.size<=m
 ml:m < W.heap.size
 ks:Hh (fun x=>w0.heap.size<=x/\x≠b/\x≠m/\¬ u.ownBlock=some x) ks bs W
theorem Oi.ext{ks:List PT}(h:Oi w0 W b m t ks u bs)(e:Af W W'):Oi w0 W' b m t ks u bs:=
 ⟨h.blk.keeps e kI,h.new,h.row.mono e,h.nil,h.nb,h.bm,h.mb,h.mn,bE h.ml e.size,Hh.keeps e (fun _ _ h=>h) _ _ h.ks⟩
theorem Oi.other{ks:List PT}(h:Oi w0 W b m t ks u bs)(e:Ad (fun x=>x=m) W W'):Oi w0 W' b m t ks u bs:=
 ⟨h.blk.keeps e (fun e=>h.bm e.symm),h.new,h.row.keeps e (fun x q e=>h.mb (by have e:x=m:=e;rw[<-e];exact q)) (fun x q e=>by have e:x=m:=e;have:=h.mn;omega),h.nil,h.nb,h.bm,h.mb,h.mn,bE h.ml e.size,
  Hh.keeps e (fun x q e=>q.2.2.1 e) _ _ h.ks⟩
theorem Oi.setText{ks:List PT}(h:Oi w0 W b m t ks u bs)(t':vB):Oi w0 (W.setCell b t') b m t' ks u bs:=
 have K:=Ad.oneSet W b t'
 ⟨h.blk.set_same (i:=0) t',h.new,h.row.keeps K (fun x q e=>h.nb (by have e:x=b:=e;rw[<-e];exact q)) (fun x q e=>by have e:x=b:=e;have:=h.new;omega),h.nil,h.nb,h.bm,h.mb,h.mn,bE h.ml K.size,Hh.keeps K (fun x q e=>q.2.1 e) _ _ h.ks⟩
theorem Oi.part{ks:List PT}(h:Oi w0 W b m t ks u bs):Lm (fun x=>w0.heap.size<=x) (.mk t ks) b W:=by
 unfold Lm
 refine⟨h.new,u,bs,h.blk,?_,Hh.mono (fun x q _=>q.1) _ _ h.ks⟩
 by_cases h0:bs=[]
 ·exact .inl ⟨h.nil h0,h0⟩
 ·obtain⟨_,⟨rfl,K⟩ |⟨g,e,A,rfl,O,H,J,X,Z⟩⟩:=h.row.own;{exact absurd (bH vO) h0};refine .inr ⟨g,e,rfl,h0,h.row.new g rfl,(dD.1 H).1,J,fun j b hb=>?_⟩;have hj:=(bI.1 hb).1;rw[h.row.own.cellAt j vO,bY,hb];rfl
def Hx(T:PT):List PT:=if T.text.size < 32 then []else [T]
structure WZ(T:PT):Prop where
 size:T.text.size<=100000
 small:T.text.size < 32->T.kids=[]
 nohash:T.text.size < 32->∃ q,Dq T.text=some q/\Vg T.text q=none
theorem jvE(W:vW)(b:Nat)(a:Option Addr)(c:Nat):vQ 121 #[Fv b,.slice a 0 c] W fun e w'=>e=.returned (.string ⟨#[]⟩)/\w'=W:=by
 unfold Fv;unfold vQ;go_in;go_wp2_with fail
 go_ret
 exact⟨rfl,rfl⟩
theorem IT{w:vW}{d:Option Tmp}{args:Array Operand}{ats:Array TypeId}{ty:TypeId}{pos:String}{af:Array Edge}{g:Option (Nat × Bool)}(h:(Builtin.append_ ats ty vs).run P w=.ok v w')(hv:args.map a.eval=vs):(execOp a.eval ⟨d,.call { callee:=.builtin .append,args:=args,argTypes:=ats },ty,pos,af,g⟩).run P w=.ok (.value v) w':=by
 subst hv;simp[execOp,resolve,invoke,Go.builtin,Act.eval,bQ,Result.andThen,cU,h]
theorem Oi.add{ks:List PT}{k:Nat}{T:PT}(h:Oi w0 W b m t ks u bs)(hk:Lm (fun x=>w1.heap.size<=x) T k W)(h1:b < w1.heap.size)(h1m:m < w1.heap.size)(h2:∀ x,u.ownBlock=some x->x < w1.heap.size)(h3:w0.heap.size<=w1.heap.size)
  (r1:AF w0 w2 u' (bs++[k])) (r2:Ad (fun x=>u.ownBlock=some x) W w2) (r3:u'.ownBlock=u.ownBlock\/∀ x,u'.ownBlock=some x->W.heap.size<=x) :
  Oi w0 (w2.setCell ⟨b,1,none⟩ u') b m t (ks++[T]) u' (bs++[k]):=by
 have K:Ad (fun x=>x=b\/u.ownBlock=some x) W (w2.setCell ⟨b,1,none⟩ u'):=(r2.mono (fun x _ q=>.inr q)).setCell (.inl (.inl rfl)) _;have A:=h.blk.lt;have J:¬ u'.ownBlock=some b:=fun e=>by rcases r3 with r3 | r3;{exact h.nb (r3 ▸ e)};have:=r3 b e;omega
 have H:∀ x,x < W.heap.size->¬ u.ownBlock=some x->¬ u'.ownBlock=some x:=fun x q X e=>by rcases r3 with r3 | r3;{exact X (r3 ▸ e)};have:=r3 x e;omega
 refine⟨?_,h.new,r1.keeps (Ad.oneSet w2 ⟨b,1,none⟩ u') (fun x q e=>J (by have e:x=b:=e;rw[<-e];exact q)) (fun x q e=>by have e:x=b:=e;have:=h.new;omega),fun e=>absurd e (by simp),J,h.bm,H m h.ml h.mb,h.mn,bE h.ml K.size,?_⟩
 ·have:=(h.blk.keeps r2 h.nb).set_same (i:=1) u';exact this
 ·refine Hh.append _ _ _ _ ?_ ?_;{refine Hh.keeps K (fun x q e=>?_) _ _ (Hh.mono (A':=fun x=>w0.heap.size<=x/\x≠b/\¬ u.ownBlock=some x/\x≠m/\¬ u'.ownBlock=some x) (fun x q A=>⟨q.1,q.2.1,q.2.2.2,q.2.2.1,H x A q.2.2.2⟩) _ _ h.ks) |> Hh.mono (fun x q _=>⟨q.1,q.2.1,q.2.2.2.1,q.2.2.2.2⟩) _ _;rcases e with e | e;{exact q.2.1 e};exact q.2.2.1 e};unfold Hh;refine⟨k,[],rfl,?_,by unfold Hh;rfl⟩;have O:Lm (fun x=>w0.heap.size<=x/\x≠b/\¬ u.ownBlock=some x/\x≠m/\¬ u'.ownBlock=some x) T k W:=Lm.mono (fun x q A=>⟨by omega,by omega,fun e=>kL (h2 x e),by omega,H x A (fun e=>kL (h2 x e))⟩) _ _ hk;refine Lm.mono (fun x q _=>⟨q.1,q.2.1,q.2.2.2.1,q.2.2.2.2⟩) _ _ (Lm.keeps K (fun x q e=>?_) _ _ O);rcases e with e | e;{exact q.2.1 e};exact q.2.2.1 e
theorem Oi.same{ks:List PT}(h:Oi w0 W b m t ks u bs):Oi w0 (W.setCell ⟨b,1,none⟩ u) b m t ks u bs:=
 have K:=Ad.oneSet W ⟨b,1,none⟩ u
 ⟨h.blk.set_same (i:=1) u,h.new,h.row.keeps K (fun x q e=>h.nb (by have e:x=b:=e;rw[<-e];exact q)) (fun x q e=>by have e:x=b:=e;have:=h.new;omega),h.nil,h.nb,h.bm,h.mb,h.mn,bE h.ml K.size,Hh.keeps K (fun x q e=>q.2.1 e) _ _ h.ks⟩
theorem Lm.open{T:PT}(h:Lm A T b W):A b/\∃ v bs,Ae W b (.cells #[T.text,v] 168)/\Xa A W v bs/\Hh A T.kids bs W:=by
 cases T with
 | mk t ks=>unfold Lm at h;exact h
theorem Xa.sl(h:Xa A W v bs):∃ a c,v=.slice a bs.length c:=by
 rcases h with⟨h1,h2⟩ |⟨g,c,h1,_⟩
 ·exact⟨none,0,by rw[h1,h2];rfl⟩
 ·exact⟨_,c,h1⟩
theorem rN(hc:Ha W){ks:List PT}(h:Oi w0 W b m t ks u bs)(hbs:bs.length<=100)(v:vV)(l:vL)(hv:Io W v l)(hl:l≠[])(hln:l.length<=1000000)(T:PT)(hT:WZ T)
  (hb:vQ 70 #[v] W fun e w'=>∃ k,e=.returned (Fv k)/\Lm (fun x=>W.heap.size<=x) T k w'/\Af W w') :
  vQ 121 #[Fv b,v] W fun e w'=>∃ u' bs',e=.returned (Ba T.text)/\Oi w0 w' b m t (ks++Hx T) u' bs'/\bs'.length<=bs.length+1/\Af w0 w'/\Ad (fun x=>x=b\/u.ownBlock=some x) W w':=by
 obtain⟨av,cv,rfl⟩:=hv.sl
 have c4:l.length≠0:=fun e=>hl (bH e);have c0:((l.length:Int) == 0)=false:=by simp;exact hl
 have c1:¬(l.length:Int)=0:=vO
 have HB:=Hd hb;have H:=Hd h;have HC:=Hd hc;have HT:=Hd hT
 obtain⟨s,hs⟩:=vE T.text
 have b4:Ba T.text=Ba s:=by rw[hs]
 rw[b4];have HS:=Hd hs;clear hb h hc hT hv hl c4 hs b4;unfold Fv;unfold vQ;go_in;go_wp2_with fail
 refine HB.o.mono ?_;rintro e w1 ⟨k,rfl,hk,J⟩;have HK:=Hd hk
 obtain⟨e4,vk,bk,a7,b5,b6⟩:=hk.open
 have q0:w1.cell? k=some (.string s):=by rw[HS.o];exact a7.cell vF
 have H1:=Hd (H.o.ext J);have HE:=Hd J;have c7:=Hd (HC.o.ext J);have c8:=Hd a7;have c9:=Hd b5;have d0:=Hd b6;clear J hk a7 b5 b6;unfold Fv;go_wp2_with fail
 refine vC (XD w1 s c7.o) fun w2 J=>?_;have b7:=Hd J;have H2:=Hd (H1.o.ext J)
 by_cases hsm:s.size < 32
 ·(have a2:T.text.size < 32:=by rw[<-HS.o];exact hsm);obtain⟨q,O,X⟩:=HT.o.nohash a2;(rw[<-HS.o]at O X;have hr:Ba s=s:=by unfold Ba;rw[if_pos hsm]);(rw[hr];have a3:=HT.o.small a2;have a4:=d0.o;rw[a3]at a4;unfold Hh at a4;have a8:=c9.o;rw[a4]at a8;have b8:vk=.slice none 0 0:=by rcases a8 with⟨h1,_⟩ |⟨g,c,_,h2,_⟩;{exact h1};exact absurd rfl h2);(have A:ks++Hx T=ks:=by unfold Hx;rw[if_pos a2,cB]);(have Z:=Hd A;have a0:=Hd hr;have a9:=Hd O;have b0:=Hd X;have a1:=c8.o.keeps J kI;rw[b8]at a1;have QK:=Hd (a1.cell (i:=1) (v:=.slice none 0 0) vF);clear J O X hr a3 a4 a8 b8 a1 A;go_wp2_with fail);refine vC (BE w2 s q vO a9.o) fun w3 J=>?_;rw[b0.o];have H3:=Hd (H2.o.ext J);have d1:=Hd (Am QK.o J);have b1:=Hd ((HE.o.trans b7.o).trans J);clear J;obtain⟨au,cu,hu⟩:=H3.o.row.sl;(subst hu;unfold Dg;simp only;go_wp2_with fail);(have d2:bs.length<=cu:=by obtain⟨_,⟨hx,h2⟩ |⟨g,e5,e6,hx,h3,h4,h5,h6,h7⟩⟩:=H3.o.row.own;{have:=dH hx;omega};have:=dH hx;omega);(refine Kr [0,1,2,3,4,5,6,7,8,9,10,11,12] [12] Af Aa Aq vY vY vY ?_;iterate 2 refine vP ?_);refine qA _ b rfl (fun w1=>by kernel_rfl) (vS ?_);refine vP ?_;refine qL ⟨b,1,none⟩ _ rfl (fun w1 h1=>Bq Gz rfl (Am (by exact H3.o.blk.cell (i:=1) (v:=.slice au bs.length cu) vF) h1)) (vS ?_);refine vP ?_;refine qA _ k rfl (fun w1=>by kernel_rfl) (vS ?_);refine vP ?_;refine qL ⟨k,1,none⟩ _ rfl (fun w1 h1=>Bq Gz rfl (Am (by exact d1.o) h1)) (vS ?_);obtain⟨i0,z0,d3,_⟩:=Mo.hi;refine qA _ (.slice au bs.length cu) rfl (fun w1=>IT (IR Gz d3 au bs.length cu d2 0 w1) vY) (vS ?_);refine qA _ b rfl (fun w1=>by kernel_rfl) (vS ?_);refine vP ?_;(refine qH _ rfl (fun w4 he K hK=>?_);have h4:=H3.o.ext ((Ap w3).trans he);have q1:w4.cell? ⟨b,1,none⟩=some (.slice au bs.length cu):=h4.blk.cell (i:=1) vF;have f1:w4.frozen? ⟨b,1,none⟩=false:=h4.blk.frozen;have H4:=Hd h4;have d4:=Hd (b1.o.trans ((Ap w3).trans he));clear he h4;go_simp;refine hK _ _ ?_;clear hK K q1 f1;have H5:=Hd H4.o.same;refine qE (fun w5 he=>?_);have H6:=Hd (H5.o.ext he);have d5:=Hd ((((d4.o.mono (G:=fun x=>x=b\/(Value.slice au bs.length cu).ownBlock=some x) kZ).setCell (p:=⟨b,1,none⟩) (.inl (.inl rfl)) (.slice au bs.length cu)).trans (he.mono kZ)));clear he H5 H4;go_wp2_with fail);go_ret;exact⟨_,bs,by rw[a0.o];rfl,by rw[Z.o];exact H6.o,by omega,H6.o.row.ext,d5.o⟩
 ·(have a2:¬ T.text.size < 32:=by rw[<-HS.o];exact hsm);obtain⟨r,hr⟩:=vE (Ba s);(have b2:r=Ay (Ak s):=by rw[hr];unfold Ba;rw[if_neg hsm]);obtain⟨q,O,X⟩:=JO (Ak s) (Uj s);(rw[<-b2]at O X;have d6:r.size<=1000000000:=by have:=Pw (Ak s);have:=Uj s;rw[b2];omega);(have A:ks++Hx T=ks++[T]:=by unfold Hx;rw[if_neg a2]);(rw[<-hr];have Z:=Hd A;have a0:=Hd hr;have a9:=Hd O;have b0:=Hd X;have d7:=Hd (Lm.keeps J (fun _ _ h=>h) _ _ HK.o);clear J O X hr b2 A a2;go_wp2_with fail);refine vC (BE w2 r q d6 a9.o) fun w3 J=>?_;rw[b0.o];have h3:=H2.o.ext J;have b3:=Hd (Lm.keeps J (fun _ _ h=>h) _ _ d7.o);have b9:=(HE.o.trans b7.o).trans J;obtain⟨au,cu,hu⟩:=h3.row.sl;(subst hu;have q1:w3.cell? ⟨b,1,none⟩=some (.slice au bs.length cu):=h3.blk.cell (i:=1) vF;have H3:=Hd h3;have d8:=H.o.blk.lt;have c2:=H.o.row.lt;have d9:=Hd c2;have e0:=H.o.row.ext.size;have b1:=Hd b9;clear J h3 b9 c2;unfold Dg;simp only;go_wp2_with (at_builtin;refine Rc Mo (H3.o.row.mono ((Aa w3).alloc _)) (.tmp 29) (.tmp 31) rfl rfl rfl (Jx (Ae.new w3 _)) (news:=[Fv k]) (by intro u hu;simp at hu;rw[hu];rfl) rfl rfl (by unfold maxLen;omega) vO (fun v' w4 r1 r2 r3=>?_);obtain⟨a5,c5,e2⟩:=r1.sl;subst e2;have c3:=(H3.o.blk.alloc _).keeps r2 H3.o.nb;have qb:w4.cell? ⟨b,1,none⟩=some (.slice au bs.length cu):=c3.cell (i:=1) vF;have fb:w4.frozen? ⟨b,1,none⟩=false:=c3.frozen));(have e1:AF w0 w4 (.slice a5 (bs.length+1) c5) (bs++[k]):=by unfold AF;rw[bK,bW];exact r1);have h5:=Oi.add (w1:=W) (H3.o.ext ((Aa w3).alloc _)) (Lm.keeps ((Aa w3).alloc _) (fun _ _ h=>h) _ _ b3.o) d8 H.o.ml d9.o e0 e1 r2 r3;have e3:Ad (fun x=>x=b\/(Value.slice au bs.length cu).ownBlock=some x) W (w4.setCell ⟨b,1,none⟩ (.slice a5 (bs.length+1) c5)):=((((b1.o.alloc _).mono (G:=fun x=>x=b\/(Value.slice au bs.length cu).ownBlock=some x) kZ).trans (r2.mono (fun _ _ h=>.inr h)))).setCell (.inl (.inl rfl)) _;go_ret;exact⟨_,bs++[k],by rw[<-a0.o];rfl,by rw[Z.o];exact h5,by simp,h5.row.ext,e3⟩
abbrev Lt(a b:vN):Prop:=Op.bytesLess a b=true
theorem Nd{a b:vU}{x y:vN}:Lt (a :: x) (b :: y)↔a < b\/(a=b/\Lt x y):=by
 unfold Lt;rw[Op.bytesLess];simp
theorem not_lt_nil(a:vN):¬ Lt a []:=by
 unfold Lt;cases a <;> simp[Op.bytesLess]
theorem OT{b:vU}{y:vN}:Lt [] (b :: y):=rfl
theorem lt_irrefl:∀ a:vN,¬ Lt a a
 | [],h=>not_lt_nil _ h
 | a :: x,h=>by
  rcases Nd.1 h with h | h
  ·exact iL a h
  ·exact lt_irrefl x h.2
theorem AK:∀ (a b:vN),a.take (Hu a b)=b.take (Hu a b)/\Hu a b<=a.length/\Hu a b<=b.length
 | [],b=>by simp[Hu]
 | x :: r,[]=>by simp[Hu]
 | x :: r,y :: t=>by
  unfold Hu;split
  ·rename_i h
   obtain⟨e,q,A⟩:=AK r t
   subst h;simp only[fH,bS,e]
   exact⟨trivial,by omega,by omega⟩
  ·simp
theorem YU(a b:vN):Hu (a.drop (Hu a b)) (b.drop (Hu a b))=0:=by
 obtain⟨e,q,A⟩:=AK a b
 have:=MA a b (Hu a b) e q A
 omega
theorem pO:∀ (k:Nat) (a m b:vN),Lt a m->Lt m b->a.take k=b.take k->k<=a.length->k<=b.length->m.take k=a.take k/\k<=m.length
 | 0,a,m,b,_,_,_,_,_=>by simp
 | k+1,[],m,b,_,_,_,h,_=>by simp at h
 | k+1,x :: a,m,[],_,_,_,_,h=>by simp at h
 | k+1,x :: a,[],y :: b,h,_,_,_,_=>absurd h (not_lt_nil _)
 | k+1,x :: a,z :: m,y :: b,h1,h2,e,h4,h5=>by
  simp only[fH,List.cons.injEq]at e
  obtain⟨rfl,e⟩:=e
  have q:x=z:=by
   rcases Nd.1 h1 with h | h
   ·rcases Nd.1 h2 with h' | h'
    ·exact absurd (UInt8.lt_trans h h') (iL x)
    ·rw[h'.1]at h;exact absurd h (iL x)
   ·exact h.1
  subst q;have A:Lt a m:=by
   rcases Nd.1 h1 with h | h
   ·exact absurd h (iL x)
   ·exact h.2
  have H:Lt m b:=by
   rcases Nd.1 h2 with h | h
   ·exact absurd h (iL x)
   ·exact h.2
  obtain⟨J,K⟩:=pO k a m b A H e (by simpa using h4) (by simpa using h5)
  simp only[fH,J,bS]
  exact⟨trivial,by omega⟩
theorem qB:∀ (k:Nat) (a b:vN),Lt a b->a.take k=b.take k->k<=a.length->k<=b.length->Lt (a.drop k) (b.drop k)
 | 0,a,b,h,_,_,_=>h
 | k+1,[],b,_,_,h,_=>by simp at h
 | k+1,x :: a,[],h,_,_,_=>absurd h (not_lt_nil _)
 | k+1,x :: a,y :: b,h,h1,h2,h3=>by
  simp only[fH,List.cons.injEq]at h1;rcases Nd.1 h with h | h
  ·rw[h1.1]at h;exact absurd h (iL y)
  ·exact qB k a b h.2 h1.2 (by simpa using h2) (by simpa using h3)
abbrev Ar.l(p:Ar):vN:=p.1.data.toList
structure Eu(f:Nat)(l:vL):Prop where
 size:∀ p∈l,p.1.size<=f/\p.1.size<=12/\Dz p.1=true/\0 < p.2.size/\p.2.size<=80
 rise:l.Pairwise fun p q=>Lt p.l q.l
theorem DP(b:vB)(k n:Nat)(h:b.size<=n):(b.extract k n).data.toList=b.data.toList.drop k:=by
 rw[fG,fY,fM,cF];rw[gP];have:b.data.toList.length=b.size:=rfl;omega
theorem Jp(b:vB)(k:Nat):(b.extract k b.size).size=b.size - k:=by rw[dI];omega
theorem Px{b:vB}(h:Dz b=true)(k n:Nat):Dz (b.extract k n)=true:=by
 unfold Dz at *;rw[fD]at *;intro x e;refine h x ?_;rw[fG,fY,fM]at e;exact List.mem_of_mem_drop (iK e)
def pd:Ar:=(⟨#[]⟩,⟨#[]⟩)
def Aj(l:vL):Nat:=Cy (l.getD 0 pd).1 (l.getD (l.length - 1) pd).1
theorem Xh{l:vL}{R:Ar->Ar->Prop}(h:l.Pairwise R){i j:Nat}{p q:Ar}(hij:i < j)(hi:l[i]?=some p)(hj:l[j]?=some q):R p q:=by
 obtain⟨e,rfl⟩:=bI.1 hi
 obtain⟨A,rfl⟩:=bI.1 hj
 exact fV.1 h i j e A hij
theorem Rh{l:vL}(h:Eu f l)(h2:2<=l.length):∀ p∈l,p.l.take (Aj l)=(l.getD 0 pd).l.take (Aj l)/\Aj l<=p.1.size:=by
 intro p O
 obtain⟨i,e⟩:=fC O
 have X:=(bI.1 e).1
 obtain⟨a,q⟩:∃ a,l[0]?=some a:=⟨_,bB vO⟩
 obtain⟨b,hb⟩:∃ b,l[l.length - 1]?=some b:=⟨_,bB vO⟩
 have A:l.getD 0 pd=a:=by rw[bJ,q];rfl
 have Z:l.getD (l.length - 1) pd=b:=by rw[bJ,hb];rfl
 have hk:Aj l=Hu a.l b.l:=by unfold Aj Cy;rw[A,Z]
 obtain⟨H,J,K⟩:=AK a.l b.l
 rw[hk,A]
 by_cases h0:i=0
 ·subst h0;rw[q]at e;obtain rfl:=bV e;exact⟨rfl,J⟩
 ·by_cases hn:i=l.length - 1;{subst hn;rw[hb]at e;obtain rfl:=bV e;exact⟨H.symm,K⟩};exact pO _ a.l p.l b.l (Xh h.rise vO q e) (Xh h.rise vO e hb) H J K
theorem Yh{l:vL}(h:Eu f l)(hk:∀ p∈l,∀ q∈l,p.l.take k=q.l.take k)(hs:∀ p∈l,k<=p.1.size):Eu (f - k) (Az k l):=by
 refine⟨fun p e=>?_,?_⟩
 ·obtain⟨q,A,rfl⟩:=bC.1 e;obtain⟨X,Z,J,K,O⟩:=h.size q A;refine⟨?_,?_,Px J _ _,K,O⟩;{show (q.1.extract k q.1.size).size<=_;rw[Jp];omega};show (q.1.extract k q.1.size).size<=_;rw[Jp];omega
 ·unfold Az;rw[gI];refine List.Pairwise.imp_of_mem (fun {p q} e A H=>?_) h.rise;show Lt (p.1.extract k p.1.size).data.toList (q.1.extract k q.1.size).data.toList;rw[DP _ _ _ (bP _),DP _ _ _ (bP _)];exact qB k _ _ H (hk p e q A) (hs p e) (hs q A)
theorem Ul{i:Nat}{l:vL}{p:Ar}(h:p∈Ah i l):p∈l/\∃ a r,p.l=a :: r/\a.toNat=i:=by
 obtain⟨q,e⟩:=cG.1 h
 refine⟨q,?_⟩
 unfold Ur at e;cases hp:p.1.data.toList with
 | nil=>rw[hp]at e;cases e
 | cons a r=>rw[hp]at e;exact⟨a,r,hp,by simpa using e⟩
theorem pG{l:vL}(h:Eu f l):Eu f (Ah i l):=
 ⟨fun p e=>h.size p (Ul e).1,List.Pairwise.filter _ h.rise⟩
theorem Yn{l:vL}(h:Eu f l):Eu (f - 1) (Az 1 (Ah i l)):=by
 refine Yh 1 (pG i h) (fun p e q J=>?_) (fun p e=>?_)
 ·obtain⟨_,a,r,A,H⟩:=Ul e;obtain⟨_,b,t,K,O⟩:=Ul J;rw[A,K,dP.1 (H.trans O.symm)];rfl
 ·obtain⟨_,a,r,A,H⟩:=Ul e;show 1<=p.1.data.toList.length;rw[show p.1.data.toList=a :: r from A];simp
def Bm(B:vL->PT)(l:vL):Ai:=
 if l.length=0 then Db
 else if l.length=1 then ⟨1,(l.getD 0 pd).1,(l.getD 0 pd).2,Cv 16⟩
 else if 0 < Aj l then ⟨2,(l.getD 0 pd).1.extract 0 (Aj l),⟨#[]⟩,Ba (B (Az (Aj l) l)).text :: Cv 15⟩
 else ⟨3,⟨#[]⟩,if (l.getD 0 pd).1.size=0 then (l.getD 0 pd).2 else ⟨#[]⟩,(List.range 16).map fun i=>if (Ah i l).length=0 then ⟨#[]⟩else Ba (B (Az 1 (Ah i l))).text⟩
def Cu(B:vL->PT)(l:vL):List PT:=
 if l.length<=1 then []
 else if 0 < Aj l then Hx (B (Az (Aj l) l))
 else (List.range 16).flatMap fun i=>if (Ah i l).length=0 then []else Hx (B (Az 1 (Ah i l)))
def An:Nat->vL->PT
 | 0,_=>.mk ⟨#[]⟩ []
 | f+1,l=>.mk (Cr (Bm (An f) l)) (Cu (An f) l)
theorem Eu.mono{l:vL}(h:Eu f l)(hg:f<=g):Eu g l:=⟨fun p e=>by obtain⟨A,q⟩:=h.size p e;exact⟨by omega,q⟩,h.rise⟩
theorem YI:∀ (l:vM) (i j:Nat) (r:vB),l[j]?=some r->r.size≠0->(i+j,r)∈Gt i l
 | [],i,j,r,h,_=>by simp at h
 | x :: l,i,0,r,h,h0=>by
  simp at h;subst h;unfold Gt;rw[if_neg h0];exact bO ..
 | x :: l,i,j+1,r,h,h0=>by
  have:=YI l (i+1) j r (by simpa using h) h0
  rw[show i+(j+1)=i+1+j by omega];unfold Gt;split
  ·exact this
  ·exact bM _ this
theorem xS{α:Type}{a b:α}{l:List α}(ha:a∈l)(hb:b∈l)(h:a≠b):2<=l.length:=by
 match l,ha,hb with
 | [x],ha,hb =>rw[bL]at ha hb;exact absurd (ha.trans hb.symm) h
 | x :: y :: r,_,_=>simp
theorem uQ{α:Type}{a:α}{l:List α}(ha:a∈l):1<=l.length:=by cases l <;> simp at ha ⊢
structure Ym(f:Nat)(T:PT)(n:Ai):Prop where
 text:T.text=Cr n
 good:Gi (Bs f) n
 kind:n.kind≠0
 small:T.text.size < 32->T.kids=[]
theorem Ym.may{T:PT}(h:Ym f T n):Gf (Bs (f+1)) (Ba T.text)/\(T.text.size < 32->Bs (f+1) (Ba T.text) n):=by
 by_cases hs:T.text.size < 32
 ·(have e:Ba T.text=Cr n:=by unfold Ba;rw[if_pos hs,h.text]);(have q:Bs (f+1) (Ba T.text) n:=by rw[e];exact⟨h.good,rfl,by rw[<-h.text];exact hs,h.kind⟩);exact⟨.inr ⟨n,q⟩,fun _=>q⟩
 ·exact⟨.inl ⟨Ak T.text,Uj _,by unfold Ba;rw[if_neg hs]⟩,fun h=>absurd h hs⟩
theorem Gf.pos{r:vB}(h:Gf (Bs f) r):r.size≠0:=by
 rcases h with h |⟨m,h⟩
 ·rw[h.size];omega
 ·exact (Br f).pos r m h
theorem Ym.kid{T:PT}(h:Ym f T n):WZ T:=by
 have e:=h.good.one (Br f)
 refine⟨by have:=jqp n e;rw[h.text];omega,h.small,fun H=>?_⟩
 obtain⟨xs,q,A⟩:=YY n e h.kind
 rw[h.text,q];exact aX xs A
theorem XP{T:PT}(h:¬ T.text.size < 32):(Ba T.text).size=33:=by
 have:Zr (Ba T.text):=⟨Ak T.text,Uj _,by unfold Ba;rw[if_neg h]⟩
 exact this.size
theorem NH:∀ (l:vM) (x:vB),x∈l->x.size<=(Aw l).size
 | y :: l,x,h=>by
  rw[Ti];rcases bT.1 h with rfl | h
  ·omega
  ·have:=NH l x h;omega
theorem NT(xs:vM):(Aw xs).size<=(Fj xs).size:=by unfold Fj;rw[cM];omega
theorem ZV{k:Nat}{l:vL}{i:Nat}(h:i < l.length):(Az k l).getD i pd=((l.getD i pd).1.extract k (l.getD i pd).1.size,(l.getD i pd).2):=by
 unfold Az;rw[bJ,bY,bJ,bB h];rfl
theorem Jn(l:vL):(Az k l).length=l.length:=by simp[Az]
theorem MU{l:vL}(h:0 < l.length):Aj (Az (Aj l) l)=0:=by
 have e:Aj (Az (Aj l) l)=Hu (((l.getD 0 pd).l).drop (Aj l)) (((l.getD (l.length - 1) pd).l).drop (Aj l)):=by(conv=>lhs;unfold Aj);rw[Jn,ZV h,ZV vO];unfold Cy;simp only;rw[DP _ _ _ (bP _),DP _ _ _ (bP _)];rfl
 rw[e];exact YU _ _
theorem Tn{p:Ar}(h:Dz p.1=true){a:vU}{r:vN}(hp:p.l=a :: r):a.toNat < 16:=by
 have:a<=15:=of_decide_eq_true (fD.1 h a (by rw[show p.1.data.toList=a :: r from hp];exact bO ..))
 have:=fN.1 this
 have e:(15:vU).toNat=15:=rfl;omega
theorem good:∀ (f:Nat) (l:vL),Eu f l->Gi (Bs f) (Bm (An f) l)/\(l≠[]->Ym f (An (f+1) l) (Bm (An f) l))/\(2<=l.length->Aj l=0->(Bm (An f) l).kind=3):=by
 intro f;induction f with
 | zero =>(intro l h;have hl:l.length<=1:=by rcases fA l.length 2 with h2 | h2;{omega};obtain⟨a,ha⟩:∃ a,l[0]?=some a:=⟨_,bB vO⟩;obtain⟨b,hb⟩:∃ b,l[1]?=some b:=⟨_,bB vO⟩;have A:=Xh h.rise vO ha hb;have:=(h.size b (bD hb)).1;rw[show b.l=[]from bH (by show b.1.size=0;omega)]at A;exact absurd A (not_lt_nil _));by_cases O:l.length=0;{(have e:Bm (An 0) l=Db:=by unfold Bm;rw[if_pos O]);rw[e];exact⟨.none,fun hn=>absurd (bH O) hn,fun h2=>by omega⟩};have h1:l.length=1:=vO;obtain⟨p,J⟩:=vE (l.getD 0 pd);(have e:Bm (An 0) l=⟨1,p.1,p.2,Cv 16⟩:=by unfold Bm;rw[if_neg O,if_pos h1,J]);(have a5:p∈l:=by rw[J,bJ,bB vO];exact fB _);obtain⟨s1,s2,s3,s4,s5⟩:=h.size p a5;have X:Gi (Bs 0) ⟨1,p.1,p.2,Cv 16⟩:=.leaf p.1 p.2 (by simp[Ai.pathOk,s2,s3]) s4 s5;rw[e];exact⟨X,fun _=>⟨by unfold An;rw[e];rfl,X,by simp,fun _=>by unfold An Cu;rw[if_pos vO];rfl⟩,fun h2=>by omega⟩
 | succ f ih =>intro l h;by_cases O:l.length=0;{(have e:Bm (An (f+1)) l=Db:=by unfold Bm;rw[if_pos O]);rw[e];exact⟨.none,fun hn=>absurd (bH O) hn,fun h2=>by omega⟩};by_cases h1:l.length=1;{obtain⟨p,J⟩:=vE (l.getD 0 pd);(have e:Bm (An (f+1)) l=⟨1,p.1,p.2,Cv 16⟩:=by unfold Bm;rw[if_neg O,if_pos h1,J]);(have a5:p∈l:=by rw[J,bJ,bB vO];exact fB _);obtain⟨s1,s2,s3,s4,s5⟩:=h.size p a5;have X:Gi (Bs (f+1)) ⟨1,p.1,p.2,Cv 16⟩:=.leaf p.1 p.2 (by simp[Ai.pathOk,s2,s3]) s4 s5;rw[e];exact⟨X,fun _=>⟨by unfold An;rw[e];rfl,X,by simp,fun _=>by unfold An Cu;rw[if_pos vO];rfl⟩,fun h2=>by omega⟩};have h2:2<=l.length:=vO;have H:=Rh h h2;obtain⟨a,ha⟩:∃ a,l[0]?=some a:=⟨_,bB vO⟩;obtain⟨b,hb⟩:∃ b,l[l.length - 1]?=some b:=⟨_,bB vO⟩;(have ga:l.getD 0 pd=a:=by rw[bJ,ha];rfl);(have gb:l.getD (l.length - 1) pd=b:=by rw[bJ,hb];rfl);have A:=Xh h.rise vO ha hb;obtain⟨c8,c9,b7,d0,b8⟩:=h.size a (bD ha);obtain⟨d1,d2,d3,d4,d5⟩:=h.size b (bD hb);by_cases hk:0 < Aj l;{have b9:Eu f (Az (Aj l) l):=(Yh (Aj l) h (fun p J q hq=>(H p J).1.trans (H q hq).1.symm) (fun p J=>(H p J).2)).mono vO;obtain⟨_,i2,i3⟩:=ih _ b9;(have b2:=i2 (fun e=>by have:=Jn (Aj l) l;rw[e]at this;simp at this;omega);have c0:=i3 (by rw[Jn];omega) (MU vO);have e:Bm (An (f+1)) l=⟨2,a.1.extract 0 (Aj l),⟨#[]⟩,Ba (An (f+1) (Az (Aj l) l)).text :: Cv 15⟩:=by unfold Bm;rw[if_neg O,if_neg h1,if_pos hk,ga]);(have d6:=(H a (bD ha)).2;have c1:(a.1.extract 0 (Aj l)).size=Aj l:=by rw[dI];omega);(have X:Gi (Bs (f+1)) (Bm (An (f+1)) l):=by rw[e];refine .ext _ _ ?_ b2.may.1.pos ?_;{simp[Ai.pathOk,c1,Px b7];omega};by_cases hs:(An (f+1) (Az (Aj l) l)).text.size < 32;{exact .inr ⟨_,b2.may.2 hs,c0⟩};exact .inl ⟨_,Uj _,by unfold Ba;rw[if_neg hs]⟩);refine⟨X,fun _=>⟨rfl,X,by rw[e];simp,fun Z=>?_⟩,fun _ a7=>by omega⟩;(have a0:(An (f+1+1) l).kids=Hx (An (f+1) (Az (Aj l) l)):=by show Cu (An (f+1)) l=_;unfold Cu;rw[if_neg vO,if_pos hk]);rw[a0];unfold Hx;rw[if_pos];rcases fA (An (f+1) (Az (Aj l) l)).text.size 32 with hx | hx;{exact hx};have c2:=XP (T:=An (f+1) (Az (Aj l) l)) vO;(have ht:(An (f+1+1) l).text=Qy (Bm (An (f+1)) l):=by show Cr (Bm (An (f+1)) l)=_;rw[e];rfl);rw[ht,e]at Z;have:=NT [Ay (Cs (a.1.extract 0 (Aj l)) false),Ba (An (f+1) (Az (Aj l) l)).text];have:=NH [Ay (Cs (a.1.extract 0 (Aj l)) false),Ba (An (f+1) (Az (Aj l) l)).text] _ (bM _ (bO ..));have a2:(Fj [Ay (Cs (a.1.extract 0 (Aj l)) false),Ba (An (f+1) (Az (Aj l) l)).text]).size < 32:=Z;omega};obtain⟨K,a4⟩:=vE ((List.range 16).map fun i=>if (Ah i l).length=0 then (⟨#[]⟩:vB)else Ba (An (f+1) (Az 1 (Ah i l))).text);(have e:Bm (An (f+1)) l=⟨3,⟨#[]⟩,if a.1.size=0 then a.2 else ⟨#[]⟩,K⟩:=by unfold Bm;rw[if_neg O,if_neg h1,if_neg hk,ga,a4]);have a3:∀ i,(Ah i l).length≠0->Ym f (An (f+1) (Az 1 (Ah i l))) (Bm (An f) (Az 1 (Ah i l))):=fun i hi =>(ih _ (Yn i h)).2.1 (fun e=>by have:=Jn 1 (Ah i l);rw[e]at this;simp at this;omega);(have b3:K.length=16:=by rw[a4];simp);(have b4:∀ i,i < 16->K[i]?=some (if (Ah i l).length=0 then (⟨#[]⟩:vB)else Ba (An (f+1) (Az 1 (Ah i l))).text):=fun i hi=>by rw[a4,bY,fI hi];rfl);(have a9:∀ r∈K,r.size≠0->Gf (Bs (f+1)) r:=by intro r hr b5;rw[a4]at hr;obtain⟨i,_,rfl⟩:=bC.1 hr;by_cases hi:(Ah i l).length=0;{rw[if_pos hi]at b5;exact absurd rfl b5};rw[if_neg hi];exact (a3 i hi).may.1);(have a8:∀ (p:Ar) (x:vU) (r:vN),p∈l->p.l=x :: r->∃ y,(x.toNat,y)∈Gt 0 K:=by(intro p x r J b6;have hx:=Tn (h.size p J).2.2.1 b6;have hc:(Ah x.toNat l).length≠0:=by intro O;have hm:p∈Ah x.toNat l:=cG.2 ⟨J,by unfold Ur;rw[show p.1.data.toList=x :: r from b6];simp⟩;rw[bH O]at hm;cases hm);have h5:=b4 x.toNat hx;rw[if_neg hc]at h5;have:=YI K 0 x.toNat _ h5 (a3 _ hc).may.1.pos;rw[bX]at this;exact⟨_,this⟩);(have d7:Aj l=Hu a.l b.l:=by unfold Aj Cy;rw[ga,gb]);have a7:Hu a.l b.l=0:=vO;(have a1:2<=min (if a.1.size=0 then a.2 else (⟨#[]⟩:vB)).size 1+(Gt 0 K).length:=by cases hal:a.l with| nil =>((have c3:a.1.size=0:=by show a.1.data.toList.length=0;rw[show a.1.data.toList=[]from hal];rfl);rw[if_pos c3];cases hbl:b.l with| nil=>rw[hbl]at A;exact absurd A (not_lt_nil _)| cons y r =>obtain⟨z,hz⟩:=a8 b y r (bD hb) hbl;have:=uQ hz;omega)| cons x r =>cases hbl:b.l with| nil=>rw[hbl]at A;exact absurd A (not_lt_nil _)| cons y t =>obtain⟨z,hz⟩:=a8 a x r (bD ha) hal;obtain⟨z',c4⟩:=a8 b y t (bD hb) hbl;(have c5:x≠y:=by intro e;rw[hal,hbl,e]at a7;simp[Hu]at a7);have:=xS hz c4 (fun e=>c5 (dP.1 (Prod.mk.inj e).1));omega);(have X:Gi (Bs (f+1)) (Bm (An (f+1)) l):=by rw[e];refine .branch _ _ b3 ?_ a9 a1;split;{exact b8};exact cE _);refine⟨X,fun _=>⟨rfl,X,by rw[e];simp,fun Z=>?_⟩,fun _ _=>by rw[e]⟩;(have a0:(An (f+1+1) l).kids=(List.range 16).flatMap fun i=>if (Ah i l).length=0 then []else Hx (An (f+1) (Az 1 (Ah i l))):=by show Cu (An (f+1)) l=_;unfold Cu;rw[if_neg vO,if_neg hk]);rw[a0,List.flatMap_eq_nil_iff];intro i hi;have b0:=dZ.1 hi;by_cases hc:(Ah i l).length=0;{rw[if_pos hc]};rw[if_neg hc];unfold Hx;rw[if_pos];rcases fA (An (f+1) (Az 1 (Ah i l))).text.size 32 with hx | hx;{exact hx};have c2:=XP (T:=An (f+1) (Az 1 (Ah i l))) vO;(have ht:(An (f+1+1) l).text=CH (Bm (An (f+1)) l):=by show Cr (Bm (An (f+1)) l)=_;rw[e];rfl);(rw[ht,e]at Z;have h6:=b4 i b0;rw[if_neg hc]at h6;have c7:Po ⟨3,⟨#[]⟩,if a.1.size=0 then a.2 else ⟨#[]⟩,K⟩=Oq K (if a.1.size=0 then a.2 else ⟨#[]⟩):=MF _ b3;have b1:Ba (An (f+1) (Az 1 (Ah i l))).text∈Oq K (if a.1.size=0 then a.2 else ⟨#[]⟩):=by unfold Oq;refine gL _ (bC.2 ⟨_,bD h6,?_⟩);rw[if_neg vO]);have h7:=NH _ _ b1;have h8:=NT (Oq K (if a.1.size=0 then a.2 else ⟨#[]⟩));have a2:(Fj (Po ⟨3,⟨#[]⟩,if a.1.size=0 then a.2 else ⟨#[]⟩,K⟩)).size < 32:=Z;rw[c7]at a2;omega
def ED(l:vL)(T:PT):Prop:=∀ (w:vW) (v:vV),Ha w->Io w v l->vQ 70 #[v] w fun e w'=>∃ k,e=.returned (Fv k)/\Lm (fun x=>w.heap.size<=x) T k w'/\Af w w'
theorem PN(W1 W2:vW)(bn:Nat)(h1:W1=w.alloc (.cells #[.string ⟨#[]⟩,.slice none 0 0] 168))(h2:Af W1 W2)(h3:bn=W1.heap.size)(h4:bn < W2.heap.size):Oi w W2 w bn ⟨#[]⟩ [] (.slice none 0 0) []:=by
 have A:W1.heap.size=w.heap.size+1:=by rw[h1,bG]
 have q:Af w W2:=(by rw[h1]at h2;exact ((Aa w).alloc _).trans h2)
 refine⟨?_,bP _,Av.nil _ _ q,fun _=>rfl,fun e=>(by cases e),by omega,fun e=>(by cases e),by omega,h4,by unfold Hh;rfl⟩
 rw[h1]at h2;exact (Ae.new w _).keeps h2 kI
theorem jpO(f:Nat)(l:vL)(h0:l.length=0):ED l (An (f+1) l):=by
 intro w v hc hv
 obtain⟨a,c,X⟩:=hv.sl
 rw[h0]at X;subst X;have ht:An (f+1) l=.mk (Cr Db) []:=by show PT.mk (Cr (Bm _ l)) (Cu _ l)=_;unfold Bm Cu;rw[if_pos h0,if_pos vO]
 rw[ht];clear hv hc h0
 obtain⟨W1,q⟩:=vE (w.alloc (.cells #[.string ⟨#[]⟩,.slice none 0 0] 168))
 have a0:=Hd q;go_enter Tryz.func70,Tryz.ntmps70;go_wp2_with (first |(refine Di Ac rfl rfl ?_;intro W3 Z J;refine Bv (vs:=Db.cells) rfl rfl rfl rfl Z rfl Ab (Ai.one _) ?_;intro W4 A K;simp only[bG]at A K) |(refine Gv 215 (.tmp 4) rfl rfl _ _ rfl (Jq _ _ Db rfl A) ?_))
 have H:Af W1 W4:=by rw[<-q]at J;exact J.trans' K (fun x hx e=>by have e:x=w.heap.size+1:=e;rw[q,bG]at hx;omega)
 have HH:=Hd (PN w W1 W4 (w.heap.size+1) q H (by rw[q,bG]) A.lt);have HG:=Hd (Gi.none (I:=Bs f));clear J K Z q a0 ht;unfold Ai.V;refine vH (GL (Br f) _ Db HG.o) fun w9 hE=>?_;have h9:=HH.o.ext hE;have q0:w9.cell? w=some (.string ⟨#[]⟩):=h9.blk.cell (i:=0) vF;have f0:w9.frozen? w=false:=h9.blk.frozen;have H9:=Hd (h9.setText (Cr Db))
 obtain⟨tx,O⟩:=vE (Cr Db)
 rw[<-O]at H9 ⊢;have a1:=Hd O;clear h9 O A H;go_wp2_with fail
 go_ret
 exact⟨w.heap.size,rfl,by rw[<-a1.o];exact H9.o.part,H9.o.row.ext⟩
theorem jru(f:Nat)(l:vL)(H:l.length=1)(hok:Eu f l):ED l (An (f+1) l):=by
 intro w v hc hv
 obtain⟨p,hp⟩:∃ p,l=[p]:=by match l,H with| [p],_=>exact⟨p,rfl⟩
 have hn:Bm (An f) l=⟨1,p.1,p.2,Cv 16⟩:=by unfold Bm;rw[if_neg vO,if_pos H,hp];rfl
 have q:=(good f l hok).1;rw[hn]at q;have ht:An (f+1) l=.mk (Cr ⟨1,p.1,p.2,Cv 16⟩) []:=by show PT.mk (Cr (Bm _ l)) (Cu _ l)=_;rw[hn];unfold Cu;rw[if_pos vO]
 obtain⟨T,hT⟩:=vE (An (f+1) l)
 rw[<-hT]at ht ⊢;have HT:=Hd ht;rcases hv with⟨_,_,_,h0⟩ |⟨b,o,c,rfl,hb,hcl,hcell⟩
 ·rw[h0]at H;cases H
 obtain⟨q1,q2⟩:=hcell 0 p (by rw[hp];rfl)
 rw[iX,gC]at q1 q2;rw[H]at hcl ⊢
 obtain⟨x,y⟩:=p
 have q:=q;have Q1:=Hd q1;have Q2:=Hd q2;have HG:=Hd q
 obtain⟨W1,A⟩:=vE (w.alloc (.cells #[.string ⟨#[]⟩,.slice none 0 0] 168))
 clear hc H hok hp hn q ht hT hcell q1 q2;go_enter Tryz.func70,Tryz.ntmps70;go_wp2_with (refine Di Ac rfl rfl ?_;intro W3 a2 Z;refine Bv (vs:=Db.cells) rfl rfl rfl rfl a2 rfl Ab (Ai.one _) ?_;intro W4 J a0;simp only[bG]at J a0)
 have X:Af W1 W4:=by rw[<-A]at Z;exact Z.trans' a0 (fun x hx e=>by have e:x=w.heap.size+1:=e;rw[A,bG]at hx;omega)
 have hh:=PN w W1 W4 (w.heap.size+1) A X (by rw[A,bG]) J.lt;have O:=Hd hh;have a3:=Hd J;clear Z a0 a2 A J X hh;refine Kr [0,1,2,3,4,5,6,7,8,9] [9] Af Aa Aq vY vY vY ?_;iterate 3 refine vP ?_
 refine qL ⟨b,o,none⟩ _ rfl (fun w1 H=>Bq Ag rfl (Am (Am (by exact Q1.o) (O.o.row.ext.trans (Ap _))) H)) (vS ?_);iterate 3 refine vP ?_
 refine qL ⟨b,o+1,none⟩ _ rfl (fun w1 H=>Bq Ag rfl (Am (Am (by exact Q2.o) (O.o.row.ext.trans (Ap _))) H)) (vS ?_)
 refine vP ?_
 refine qH _ rfl (fun w5 he K hK=>?_);have hX:=(Ap W4).trans he;refine Yk (vs:=Uk 1 x y ⟨#[]⟩) rfl rfl rfl (a3.o.keeps hX kI) rfl Ab (BY _ _ _ _) ?_;intro W6 a4 a5;have H6:=Hd ((O.o.ext hX).other a5);have a7:=Hd (show Ae W6 (w.heap.size+1) (.cells (Ai.cells ⟨1,x,y,Cv 16⟩).toArray 215)from a4);clear he hX a4 a5 Q1 Q2 a3 O;refine vS ?_;refine hK _ _ ?_;clear hK K;refine qE (fun w7 he=>?_);have HH:=Hd (H6.o.ext he);have a8:=a7.o.keeps he kI;clear he a7 H6;go_wp2_with (refine Gv 215 (.tmp 4) rfl rfl _ _ rfl (Jq _ _ ⟨1,x,y,Cv 16⟩ rfl a8) ?_)
 refine vH (GL (Br _) _ ⟨1,x,y,Cv 16⟩ HG.o) fun w9 hE=>?_;have h9:=HH.o.ext hE;have q0:w9.cell? w=some (.string ⟨#[]⟩):=h9.blk.cell (i:=0) vF;have f0:w9.frozen? w=false:=h9.blk.frozen;have H9:=Hd (h9.setText (Cr ⟨1,x,y,Cv 16⟩))
 obtain⟨tx,a1⟩:=vE (Cr ⟨1,x,y,Cv 16⟩)
 rw[<-a1]at H9 ⊢;have a9:=Hd a1;clear h9 a1;go_wp2_with fail
 go_ret
 exact⟨w.heap.size,rfl,by rw[HT.o, <-a9.o];exact H9.o.part,H9.o.row.ext⟩
theorem jrt(f:Nat)(l:vL)(K:2<=l.length)(hln:l.length<=1000)(hok:Eu (f+1) l)(hk:0 < Aj l)(HB:ED (Az (Aj l) l) (An (f+1) (Az (Aj l) l))):ED l (An (f+1+1) l):=by
 intro w v hc hv
 obtain⟨a,ha⟩:∃ a,l[0]?=some a:=⟨_,bB vO⟩
 obtain⟨z,hz⟩:∃ z,l[l.length - 1]?=some z:=⟨_,bB vO⟩
 have ga:l.getD 0 pd=a:=by rw[bJ,ha];rfl
 have gz:l.getD (l.length - 1) pd=z:=by rw[bJ,hz];rfl
 obtain⟨f7,f8,d5,f9,g0⟩:=hok.size a (bD ha)
 obtain⟨g2,g3,d6,g4,g5⟩:=hok.size z (bD hz)
 have H:=(good (f+1) l hok).1;have d8:=hv;rcases hv with⟨_,_,_,h0⟩ |⟨b,o,c,rfl,hb,hcl,hcell⟩
 ·rw[h0]at K;simp at K
 obtain⟨q1,b6⟩:=hcell 0 a ha
 rw[iX,gC]at q1 b6
 obtain⟨q2,_⟩:=hcell (l.length - 1) z hz
 obtain⟨A,O⟩:=vE (Aj l)
 have b7:A=Cy a.1 z.1:=by rw[O];unfold Aj;rw[ga,gz]
 obtain⟨x,y⟩:=a
 obtain⟨xb,yb⟩:=z
 simp only at f7 f8 d5 f9 g0 g2 g3 d6 g4 g5 q1 b6 q2 b7;have a0:=Yh (Aj l) hok (fun p hp q hq=>((Rh hok K p hp).1).trans (Rh hok K q hq).1.symm) (fun p hp=>(Rh hok K p hp).2);have a7:=(Rh hok K (x,y) (bD ha)).2;have d9:∀ p∈l,A<=p.1.size/\p.1.size<=1000000:=fun p hp=>⟨by rw[O];exact (Rh hok K p hp).2,kL ((hok.size p hp).2.1)⟩;rw[<-O]at hk a0 a7 HB;have a7:A<=x.size:=a7
 obtain⟨T',a9⟩:∃ T',T'=An (f+1) (Az A l):=⟨_,rfl⟩
 have b8:=(good f _ (a0.mono vO)).2.1 (fun e=>by have:=Jn A l;rw[e]at this;simp at this;omega);rw[<-a9]at HB b8
 obtain⟨r,hr⟩:=vE (Ba T'.text)
 have hn:Bm (An (f+1)) l=⟨2,x.extract 0 A,⟨#[]⟩,r :: Cv 15⟩:=by unfold Bm;rw[if_neg vO,if_neg vO, <-O,if_pos hk,ga, <-a9, <-hr]
 rw[hn]at H;have ht:An (f+1+1) l=.mk (Cr ⟨2,x.extract 0 A,⟨#[]⟩,r :: Cv 15⟩) (Hx T'):=by show PT.mk (Cr (Bm _ l)) (Cu _ l)=_;rw[hn];unfold Cu;rw[if_neg vO, <-O,if_pos hk, <-a9]
 obtain⟨T,hT⟩:=vE (An (f+1+1) l)
 rw[<-hT]at ht ⊢;have c0:((l.length:Int) == 0)=false:=by simp;exact fun e=>by rw[e]at K;simp at K
 have c1:¬(l.length:Int)=0:=vO
 have c2:((l.length:Int) == 1)=false:=by simp;omega
 have c3:¬(l.length:Int)=1:=vO
 have c4:(0:Int)<=(l.length:Int) - 1:=vO
 have c5:(l.length:Int) - 1 < (l.length:Int):=vO
 have c6:((l.length:Int) - 1).toNat=l.length - 1:=vO
 have c7:(0:Int) < (l.length:Int):=vO
 have d7:0 < l.length:=vO
 have d0:0 < A:=hk;have e0:(0:Int) < (A:Int):=vO
 have e1:(A:Int)<=(x.size:Int):=vO
 have e2:(x.extract 0 A).size=A:=by rw[dI];omega
 have HT:=Hd ht;have Q1:=Hd q1;have Q2:=Hd q2;have e3:=Hd b7;have HG:=Hd H;have g6:=Hd d8;have g7:=Hd d9;have d2:=Hd b8.kid;have HR:=Hd hr;have g8:=Hd HB;have HC:=Hd hc;have HL:=Hd (show Az A l≠[]from fun e=>by have:=Jn A l;rw[e]at this;simp at this;omega);have g9:=Hd (show (Az A l).length<=1000000 by rw[Jn];omega);clear hc ha hz ga gz hok H d8 hcell q1 b6 q2 O b7 a0 a7 d9 a9 b8 hr hn ht hT HB d5 d6 e2
 obtain⟨W1,a1⟩:=vE (w.alloc (.cells #[.string ⟨#[]⟩,.slice none 0 0] 168))
 go_enter Tryz.func70,Tryz.ntmps70;go_wp2_with (refine Di Ac rfl rfl ?_;intro W3 e4 b9;refine Bv (vs:=Db.cells) rfl rfl rfl rfl e4 rfl Ab (Ai.one _) ?_;intro W4 b0 c9;simp only[bG]at b0 c9)
 have a2:Af W1 W4:=by rw[<-a1]at b9;exact b9.trans' c9 (fun x hx e=>by have e:x=w.heap.size+1:=e;rw[a1,bG]at hx;omega)
 have hh:=PN w W1 W4 (w.heap.size+1) a1 a2 (by rw[a1,bG]) b0.lt;have e5:=Hd hh;have e6:=Hd b0;have Z:=Hd hh.row.ext;clear b9 c9 e4 a1 b0 a2 hh;refine Ij [0,1,2,3,4,5,6,7,8,9,10,11,12,13] Af Aa Aq vY vY vY ?_;iterate 3 refine vK ?_
 refine Dc ⟨b,o,none⟩ _ rfl (fun w1 X=>Bq Ag rfl (Am (Am (by exact Q1.o) (Z.o.trans (Ap _))) X)) (vS ?_);iterate 6 refine vK ?_
 refine Dc ⟨b,o+(l.length - 1) * 2,none⟩ _ rfl (fun w1 X=>Bq Ag rfl (Am (Am (by exact Q2.o) (Z.o.trans (Ap _))) X)) (vS ?_);refine Ls _ 120 #[x,xb] (.int .i64 (A:Nat)) rfl (fun w1=>Ex (vX 120) vY) (fun w1 X=>by rw[e3.o];exact (FR w1 x xb vO vO).mono (fun e w2 ⟨X,n,K⟩=>⟨X,by rw[K];exact (Aa w1).drewN n⟩)) ?_;refine vS ?_;iterate 2 refine vK ?_
 refine Hv (fun w5 he=>?_);have b1:=(Ap W4).trans he;have e7:=Hd (e5.o.ext b1);have e8:=Hd (e6.o.keeps b1 kI);have Z:=Hd (Z.o.trans b1);clear he b1 e5 e6;go_wp2_with fail
 refine Ij [0,1,2,3,4,5,6,7,8,9,10,11,12] Af Aa Aq vY vY vY ?_;iterate 3 refine vK ?_
 refine Dc ⟨b,o,none⟩ _ rfl (fun w1 X=>Bq Ag rfl (Am (Am (by exact Q1.o) (Z.o.trans (Ap _))) X)) (vS ?_);iterate 6 refine vK ?_
 refine Dc ⟨b,o+(l.length - 1) * 2,none⟩ _ rfl (fun w1 X=>Bq Ag rfl (Am (Am (by exact Q2.o) (Z.o.trans (Ap _))) X)) (vS ?_);refine Ls _ 120 #[x,xb] (.int .i64 (A:Nat)) rfl (fun w1=>Ex (vX 120) vY) (fun w1 X=>by rw[e3.o];exact (FR w1 x xb vO vO).mono (fun e w2 ⟨X,n,K⟩=>⟨X,by rw[K];exact (Aa w1).drewN n⟩)) ?_;refine vS ?_
 refine vK ?_
 refine Hv (fun w6 he=>?_);have b2:=(Ap w5).trans he;have h3:=Hd (e7.o.ext b2);have e9:=e8.o.keeps b2 kI;have Z:=Hd (Z.o.trans b2);have q6:=Am Q1.o Z.o;clear he b2 e7 e8;go_wp2_with (refine Bv (vs:=Uk 2 (x.extract 0 A) ⟨#[]⟩ ⟨#[]⟩) rfl rfl rfl rfl e9 rfl Ab (BY _ _ _ _) ?_;intro W7 f1 f2)
 have f4:=Hd (h3.o.other f2);have h4:=Hd f1;clear f1 f2 e9 q6;have Z:=Hd f4.o.row.ext;refine (kK W7 _ A l (g6.o.ext Z.o) vO g7.o).mono ?_;rintro e w8 ⟨v8,rfl,b3⟩;have b4:Af W7 w8:=b3.ext;have h5:=Hd (f4.o.ext b4);have h6:=Hd (h4.o.keeps b4 kI);have a3:=Hd b3.rd;have f5:=HC.o.ext (Z.o.trans b4)
 obtain⟨a8,c8,h7⟩:=b3.sl
 subst h7;clear b3 b4;go_wp2_with fail
 refine (rN f5 h5.o (by simp) _ (Az A l) a3.o HL.o g9.o T' d2.o (g8.o w8 _ f5 a3.o)).mono ?_;rintro e b5 ⟨u,bs,rfl,f6,i0,d3,a4⟩;rw[<-HR.o];have J:=h6.o.keeps a4 (by rintro (h | h) <;> first | omega | cases h);have q3:b5.cell? ⟨w.heap.size+1,3,none⟩=some (.string ⟨#[]⟩):=J.cell (i:=3) vF;have f3:b5.frozen? ⟨w.heap.size+1,3,none⟩=false:=J.frozen;have a5:=J.set_same (i:=3) r;have d4:Hid (Ae (b5.setCell ⟨w.heap.size+1,3,none⟩ r) (w.heap.size+1) (.cells (Ai.cells ⟨2,x.extract 0 A,⟨#[]⟩,r :: Cv 15⟩).toArray 215)):=Hd a5;have HH:=Hd (f6.other (Ad.oneSet b5 ⟨w.heap.size+1,3,none⟩ r));clear f6 d3 a4 J a5;go_wp2_with (refine Gv 215 (.tmp 4) rfl rfl _ _ rfl (Jq _ _ ⟨2,x.extract 0 A,⟨#[]⟩,r :: Cv 15⟩ rfl d4.o) ?_)
 refine vH (GL (Br _) _ ⟨2,x.extract 0 A,⟨#[]⟩,r :: Cv 15⟩ HG.o) fun w9 hE=>?_;have h9:=HH.o.ext hE;have q0:w9.cell? w=some (.string ⟨#[]⟩):=h9.blk.cell (i:=0) vF;have f0:w9.frozen? w=false:=h9.blk.frozen;have H9:=Hd (h9.setText (Cr ⟨2,x.extract 0 A,⟨#[]⟩,r :: Cv 15⟩))
 obtain⟨tx,d1⟩:=vE (Cr ⟨2,x.extract 0 A,⟨#[]⟩,r :: Cv 15⟩)
 rw[<-d1]at H9 ⊢;have h8:=Hd d1;clear h9 d1;go_wp2_with fail
 go_ret
 exact⟨w.heap.size,rfl,by rw[HT.o, <-h8.o];exact H9.o.part,H9.o.row.ext⟩
def Ut(B:vL->PT)(l:vL)(k:Nat):List PT:=(List.range k).flatMap fun i=>if (Ah i l).length=0 then []else Hx (B (Az 1 (Ah i l)))
theorem NS(B:vL->PT)(l:vL)(k:Nat):Ut B l (k+1)=Ut B l k++(if (Ah k l).length=0 then []else Hx (B (Az 1 (Ah k l)))):=by
 unfold Ut;rw[gG,dW];simp
def jzk(w:vW)(bn:Nat)(B:vL->PT)(l:vL)(rs:vM)(i:vV)(wr:vW):Prop:=∃ k:Nat,k<=16/\i=.int .i64 k/\∃ u bs,Oi w wr w bn ⟨#[]⟩ (Ut B l k) u bs/\bs.length<=k/\Ae wr bn (.cells (Qv rs k).cells.toArray 215)
theorem Oe{o:Oper}{w:vW}{K:Act->vW->Prop}{f:FuncId}(hv:(execOp a.eval o).run P w=.ok (.enter f args) w)(h:Calls P f args w (fun e q=>∃ v,e=.returned v/\K (a.put o.dst v) q)):o.wp P a w K Q:=by
 unfold Oper.wp;rw[hv];exact h.mono fun e q ⟨v,A,H⟩=>by subst A;exact H
theorem g_(f:Nat)(l:vL)(h2:2<=l.length)(hln:l.length<=1000)(hok:Eu (f+1) l)(hk:¬ 0 < Aj l)(HB:∀ i,(Ah i l).length≠0->ED (Az 1 (Ah i l)) (An (f+1) (Az 1 (Ah i l)))):ED l (An (f+1+1) l):=by
 intro w v hc hv
 obtain⟨a,ha⟩:∃ a,l[0]?=some a:=⟨_,bB vO⟩
 obtain⟨z,hz⟩:∃ z,l[l.length - 1]?=some z:=⟨_,bB vO⟩
 have ga:l.getD 0 pd=a:=by rw[bJ,ha];rfl
 have gz:l.getD (l.length - 1) pd=z:=by rw[bJ,hz];rfl
 obtain⟨i0,i1,f1,i2,i3⟩:=hok.size a (bD ha)
 obtain⟨i4,i5,f3,i6,i7⟩:=hok.size z (bD hz)
 have J:=(good (f+1) l hok).1;have f4:=hv;rcases hv with⟨_,_,_,h0⟩ |⟨b,o,c,rfl,hb,hcl,hcell⟩
 ·rw[h0]at h2;simp at h2
 obtain⟨q1,a3⟩:=hcell 0 a ha
 rw[iX,gC]at q1 a3
 obtain⟨q2,_⟩:=hcell (l.length - 1) z hz
 obtain⟨kk,d1⟩:=vE (Aj l)
 have d2:kk=Cy a.1 z.1:=by rw[d1];unfold Aj;rw[ga,gz]
 obtain⟨x,y⟩:=a
 obtain⟨xb,yb⟩:=z
 simp only at i0 i1 f1 i2 i3 i4 i5 f3 i6 i7 q1 a3 q2 d2
 obtain⟨A,b5⟩:=vE ((List.range 16).map fun i=>if (Ah i l).length=0 then (⟨#[]⟩:vB)else Ba (An (f+1) (Az 1 (Ah i l))).text)
 obtain⟨q,a0⟩:=vE (if x.size=0 then y else (⟨#[]⟩:vB))
 have hn:Bm (An (f+1)) l=⟨3,⟨#[]⟩,q,A⟩:=by unfold Bm;rw[if_neg vO,if_neg vO,if_neg hk,ga,b5,a0]
 rw[hn]at J;have ht:An (f+1+1) l=.mk (Cr ⟨3,⟨#[]⟩,q,A⟩) (Ut (An (f+1)) l 16):=by show PT.mk (Cr (Bm _ l)) (Cu _ l)=_;rw[hn];unfold Cu;rw[if_neg vO,if_neg hk];rfl
 obtain⟨T,hT⟩:=vE (An (f+1+1) l)
 rw[<-hT]at ht ⊢;have f5:A.length=16:=by rw[b5];simp
 have f6:∀ i,i < 16->A[i]?=some (if (Ah i l).length=0 then (⟨#[]⟩:vB)else Ba (An (f+1) (Az 1 (Ah i l))).text):=fun i hi=>by rw[b5,bY,fI hi];rfl
 have b0:∀ i,(Ah i l).length≠0->WZ (An (f+1) (Az 1 (Ah i l))):=fun i hi =>(((good f _ (Yn i hok)).2.1 (fun e=>by have:=Jn 1 (Ah i l);rw[e]at this;simp at this;omega)).kid)
 have d3:∀ p∈l,p.1.size<=1000000:=fun p hp=>kL ((hok.size p hp).2.1)
 have f8:∀ i,∀ p∈Ah i l,1<=p.1.size/\p.1.size<=1000000:=fun i p hp=>by obtain⟨hm,a',r',e',_⟩:=Ul hp;exact⟨by show 1<=p.1.data.toList.length;rw[show p.1.data.toList=a' :: r' from e'];simp,d3 p hm⟩
 have f9:∀ i,(Ah i l).length<=1000:=fun i=>bF (dY _ _) hln;have c0:((l.length:Int) == 0)=false:=by simp;exact fun e=>by rw[e]at h2;simp at h2
 have c1:¬(l.length:Int)=0:=vO
 have c2:((l.length:Int) == 1)=false:=by simp;omega
 have c3:¬(l.length:Int)=1:=vO
 have c4:(0:Int)<=(l.length:Int) - 1:=vO
 have c5:(l.length:Int) - 1 < (l.length:Int):=vO
 have c6:((l.length:Int) - 1).toNat=l.length - 1:=vO
 have c7:(0:Int) < (l.length:Int):=vO
 have d7:0 < l.length:=vO
 rw[<-d1]at hk;have e0:¬(0:Int) < (kk:Int):=vO
 have HT:=Hd ht;have Q1:=Hd q1;have i8:=Hd a3;have Q2:=Hd q2;have i9:=Hd d2;have HG:=Hd J;have j0:=Hd f4;have j1:=Hd d3;have j2:=Hd f8;have g0:=Hd f9;have e8:=Hd b0;have j3:=Hd f6;have a5:=Hd f5;have b2:=Hd a0;have j4:=Hd HB;have HC:=Hd hc;clear hc ha hz ga gz hok J f4 hcell q1 a3 q2 d1 d2 d3 f8 f9 b0 f6 f5 a0 b5 hn ht hT HB f1 f3
 obtain⟨W1,a7⟩:=vE (w.alloc (.cells #[.string ⟨#[]⟩,.slice none 0 0] 168))
 go_enter Tryz.func70,Tryz.ntmps70;go_wp2_with (refine Di Ac rfl rfl ?_;intro W3 g2 d4;refine Bv (vs:=Db.cells) rfl rfl rfl rfl g2 rfl Ab (Ai.one _) ?_;intro W4 b6 d5;simp only[bG]at b6 d5)
 have b3:Af W1 W4:=by rw[<-a7]at d4;exact d4.trans' d5 (fun x hx e=>by have e:x=w.heap.size+1:=e;rw[a7,bG]at hx;omega)
 have hh:=PN w W1 W4 (w.heap.size+1) a7 b3 (by rw[a7,bG]) b6.lt;have g3:=Hd hh;have g4:=Hd b6;have HX:=Hd hh.row.ext;clear d4 d5 g2 a7 b6 b3 hh;refine Ij [0,1,2,3,4,5,6,7,8,9,10,11,12,13] Af Aa Aq vY vY vY ?_;iterate 3 refine vK ?_
 refine Dc ⟨b,o,none⟩ _ rfl (fun w1 h1=>Bq Ag rfl (Am (Am (by exact Q1.o) (HX.o.trans (Ap _))) h1)) (vS ?_);iterate 6 refine vK ?_
 refine Dc ⟨b,o+(l.length - 1) * 2,none⟩ _ rfl (fun w1 h1=>Bq Ag rfl (Am (Am (by exact Q2.o) (HX.o.trans (Ap _))) h1)) (vS ?_);refine Ls _ 120 #[x,xb] (.int .i64 (kk:Nat)) rfl (fun w1=>Ex (vX 120) vY) (fun w1 h1=>by rw[i9.o];exact (FR w1 x xb vO vO).mono (fun e w2 ⟨h1,n,h2⟩=>⟨h1,by rw[h2];exact (Aa w1).drewN n⟩)) ?_;refine vS ?_;iterate 2 refine vK ?_
 refine Hv (fun w5 H=>?_);have b7:=(Ap W4).trans H;have O:=Hd (g3.o.ext b7);have b8:=Hd (g4.o.keeps b7 kI);have HX:=Hd (HX.o.trans b7);clear H b7 g3 g4;have q0:=b8.o.cell (i:=0) (v:=.int .i64 0) vF;have f0:w5.frozen? (w.heap.size+1:)=false:=b8.o.frozen;have K6:=Ad.oneSet w5 (w.heap.size+1:) (.int .i64 3);have b9:=Hd (O.o.other K6);have c8:Hid (Ae (w5.setCell (w.heap.size+1:) (.int .i64 3)) (w.heap.size+1) (.cells (Qv A 0).cells.toArray 215)):=Hd (b8.o.set_same (i:=0) (.int .i64 3));clear K6 b8 O HX;go_wp2_with fail
 go_loopw [11] (fun i wr=>jzk w (w.heap.size+1) (An (f+1)) l A i wr) (fun i _=>16 - (intOf i).toNat)
 case atStart=>exact⟨0,by omega,rfl,_,[],b9.o,by simp,c8.o⟩
 case round =>obtain⟨k,e9,rfl,u,bs,hH,k4,Z⟩:=hrel;obtain⟨au,cu,hu⟩:=hH.row.sl;subst hu;have HH:=Hd hH;have HB:=Hd Z;have HX:=Hd hH.row.ext;clear hH Z;by_cases hlt:k < 16;{have b1:(k:Int) < 16:=vO;have k5:=HH.o.ml;have QI:=Hd (show (wr.alloc (.cells #[(k:Int)] 3)).cell? wr=some (.int .i64 (k:Int))from(Ae.new wr _).cell vF);have g5:=XF HH.o.row;have NF:=Hd (show ¬(wr.heap.size=w.heap.size\/wr.heap.size=w.heap.size+1\/(Value.slice au bs.length cu).ownBlock=some wr.heap.size)from fun h=>by rcases h with h | h | h;{omega};{omega};exact g5 h);(clear g5;go_wp2_with fail);(refine Nc [0,1,2,3,7,4,5,6,8,9] [4,5,6,9] Af (Ad (fun x=>x=w.heap.size\/x=w.heap.size+1\/(Value.slice au bs.length cu).ownBlock=some x)) Aa Aq (fun x y z h k=>Ad.trans h k) (fun x y h=>h.mono kZ) vY vY vY ?_;refine Fc wr _ rfl (fun w2 h2=>Bq Fg rfl (Dw (by exact QI.o) h2 (by exact NF.o))) (vS ?_);iterate 4 refine vD ?_);refine Hl _ rfl (fun w1 H K hK=>?_);have d6:=(((Aa wr).alloc (.cells #[(k:Int)] 3)).trans (Ap _)).trans H;have g6:=Am (Am QI.o (Ap _)) H;refine Oe (Ex (vX 123) vY) ((jz1 w1 _ wr k l (j0.o.ext (HX.o.trans d6)) vO j1.o vO g6).mono ?_);rintro e w2 ⟨v2,n2,rfl,a8⟩;have g7:=Hd a8.rd;have g8:=Hd (d6.trans a8.ext);refine⟨_,rfl,hK _ _ (a8.ext.mono kZ) ?_⟩;obtain⟨a2,c2,j5⟩:=a8.rd.sl;subst j5;clear hK K H d6 g6 a8;refine vS ?_;refine Hl _ rfl (fun w3 H K hK=>?_);refine Oe (Ex (vX 122) vY) ((kK w3 _ 1 (Ah k l) (g7.o.ext H) (kL (g0.o k)) (j2.o k)).mono ?_);rintro e w4 ⟨v4,rfl,a9⟩;have g9:=Hd a9.rd;have j6:=Hd ((g8.o.trans H).trans a9.ext);refine⟨_,rfl,hK _ _ (a9.ext.mono kZ) ?_⟩;obtain⟨a4,h3,j7⟩:=a9.rd.sl;subst j7;clear hK K H a9 g7 g8;refine vS ?_;refine Hl _ rfl (fun d8 H K hK=>?_);have d9:=Hd (j6.o.trans H);have e1:=Hd (g9.o.ext H);have O:=Hd (HH.o.ext d9.o);have e2:=HC.o.ext (HX.o.trans d9.o);obtain⟨rk,c9⟩:=vE (if (Ah k l).length=0 then (⟨#[]⟩:vB)else Ba (An (f+1) (Az 1 (Ah k l))).text);refine Oe (f:=121) (args:=#[Fv w,.slice a4 (Az 1 (Ah k l)).length h3]) (Ex (vX 121) vY) ((show Calls _ _ _ _ (fun e w'=>∃ u' bs',e=.returned rk/\Oi w w' w (w.heap.size+1) ⟨#[]⟩ (Ut (An (f+1)) l (k+1)) u' bs'/\bs'.length<=bs.length+1/\Af w w'/\Ad (fun x=>x=w.heap.size\/(Value.slice au bs.length cu).ownBlock=some x) d8 w')from ?hold).mono ?_);(case hold =>rw[NS];by_cases hc0:(Ah k l).length=0;{rw[c9,if_pos hc0,if_pos hc0,cB,Jn,hc0];refine (jvE d8 w a4 h3).mono ?_;rintro e w6 ⟨rfl,rfl⟩;exact⟨_,bs,rfl,O.o,by omega,O.o.row.ext,Ad.refl _ _⟩};rw[c9,if_neg hc0,if_neg hc0];exact rN e2 O.o vO _ (Az 1 (Ah k l)) e1.o (fun e=>hc0 (by have:=Jn 1 (Ah k l);rw[e]at this;simpa using this.symm)) (by rw[Jn];have:=g0.o k;omega) _ (e8.o k hc0) (j4.o k hc0 d8 _ e2 e1.o));rintro e w6 ⟨u6,j8,rfl,h6,k6,j9,e3⟩;refine⟨_,rfl,hK _ _ (e3.mono (fun x _ h=>h.elim .inl (fun h=>.inr (.inr h)))) ?_⟩;have h4:=(HB.o.keeps d9.o kI).keeps e3 (fun h=>by rcases h with h | h;{omega};exact HH.o.mb h);have c8:=Hd h4;have b9:=Hd h6;have k0:=Hd ((j3.o k hlt).trans (by rw[<-c9]));clear hK K H h6 j9 e3 h4 e2 c9 g9 e1 O;refine vS ?_;refine vD ?_;refine Hl _ rfl (fun w7 H K hK=>?_);have d0:=c8.o.keeps H kI;obtain⟨old,q7⟩:∃ v,w7.cell? ⟨w.heap.size+1,3+k,none⟩=some v:=⟨_,d0.cellL (bB (by rw[Ai.cells_len _ (pQ a5.o e9)];omega))⟩;(have f7:w7.frozen? ⟨w.heap.size+1,3+k,none⟩=false:=d0.frozen;have e4:=d0.set_same (i:=3+k) rk;rw[show (Qv A k).cells.toArray.setIfInBounds (3+k) rk=((Qv A k).cells.set (3+k) rk).toArray by simp,pR a5.o hlt rk k0.o]at e4;have h5:=Hd e4;have K8:=Ad.oneSet w7 ⟨w.heap.size+1,3+k,none⟩ rk;have h7:=Hd ((b9.o.ext H).other K8);have h8:=Hd (K8.mono (G:=fun x=>x=w.heap.size\/x=w.heap.size+1\/(Value.slice au bs.length cu).ownBlock=some x) (fun x _ e=>.inr (.inl e)));clear H d0 e4 K8 c8 b9;go_simp;refine hK _ _ h8.o ?_;clear hK K q7 f7;refine Mr (fun w9 H=>?_);have k1:=Hd (h7.o.ext H);have k2:=Hd (h5.o.keeps H kI);clear H h7 h5 h8;go_wp2_with fail);go_roundw;(case rel=>exact⟨k+1,by omega,by go_num,u6,j8,k1.o,by omega,k2.o⟩);case measure=>exact vJ};have b4:k=16:=vO;(subst b4;have e5:Qv A 16=⟨3,⟨#[]⟩,⟨#[]⟩,A⟩:=by unfold Qv Cv;rw[cF (kL a5.o)];simp);have Z:=HB.o;rw[e5]at Z;have q1:=Am Q1.o HX.o;by_cases hx0:x.size=0;{have k3:=Og hx0;(have hv:q=y:=by rw[b2.o,if_pos hx0]);(have a3:=Am i8.o HX.o;subst k3;have q2:wr.cell? ⟨w.heap.size+1,2,none⟩=some (.string ⟨#[]⟩):=Z.cellL vF;have f2:wr.frozen? ⟨w.heap.size+1,2,none⟩=false:=Z.frozen;have e6:=Z.set_same (i:=2) y;rw[show (Ai.cells ⟨3,⟨#[]⟩,⟨#[]⟩,A⟩).toArray.setIfInBounds 2 y=(Ai.cells ⟨3,⟨#[]⟩,y,A⟩).toArray by simp[Ai.cells]]at e6;have a1:=Hd (show Ae (wr.setCell ⟨w.heap.size+1,2,none⟩ y) (w.heap.size+1) (.cells (Ai.cells ⟨3,⟨#[]⟩,q,A⟩).toArray 215)from by rw[hv];exact e6);have HH:=Hd (HH.o.other (Ad.oneSet wr ⟨w.heap.size+1,2,none⟩ y));clear Z e6 e5 hv;go_wp2_with (refine Gv 215 (.tmp 4) rfl rfl _ _ rfl (Jq _ _ ⟨3,⟨#[]⟩,q,A⟩ a5.o a1.o) ?_));refine vH (GL (Br _) _ ⟨3,⟨#[]⟩,q,A⟩ HG.o) fun w9 hE=>?_;have h9:=HH.o.ext hE;have q0:w9.cell? w=some (.string ⟨#[]⟩):=h9.blk.cell (i:=0) vF;have f0:w9.frozen? w=false:=h9.blk.frozen;have H9:=Hd (h9.setText (Cr ⟨3,⟨#[]⟩,q,A⟩));obtain⟨tx,X⟩:=vE (Cr ⟨3,⟨#[]⟩,q,A⟩);(rw[<-X]at H9 ⊢;have e7:=Hd X;clear h9 X;go_wp2_with fail);go_ret;exact⟨w.heap.size,rfl,by rw[HT.o, <-e7.o];exact H9.o.part,H9.o.row.ext⟩};have k7:=Rq (s:=x) vO;(have hv:q=⟨#[]⟩:=by rw[b2.o,if_neg hx0]);(rw[<-hv]at Z;have a1:=Hd (show Ae wr (w.heap.size+1) (.cells (Ai.cells ⟨3,⟨#[]⟩,q,A⟩).toArray 215)from by rw[hv]at Z ⊢;exact Z);clear Z e5 hv;go_wp2_with (refine Gv 215 (.tmp 4) rfl rfl _ _ rfl (Jq _ _ ⟨3,⟨#[]⟩,q,A⟩ a5.o a1.o) ?_));refine vH (GL (Br _) _ ⟨3,⟨#[]⟩,q,A⟩ HG.o) fun w9 hE=>?_;have h9:=HH.o.ext hE;have q0:w9.cell? w=some (.string ⟨#[]⟩):=h9.blk.cell (i:=0) vF;have f0:w9.frozen? w=false:=h9.blk.frozen;have H9:=Hd (h9.setText (Cr ⟨3,⟨#[]⟩,q,A⟩));obtain⟨tx,X⟩:=vE (Cr ⟨3,⟨#[]⟩,q,A⟩);(rw[<-X]at H9 ⊢;have e7:=Hd X;clear h9 X;go_wp2_with fail);go_ret;exact⟨w.heap.size,rfl,by rw[HT.o, <-e7.o];exact H9.o.part,H9.o.row.ext⟩
theorem OJ:∀ (f:Nat) (l:vL),Eu f l->l.length<=1000->ED l (An (f+1) l)
 | f,l,hok,hln=>by
  by_cases h0:l.length=0
  ·exact jpO f l h0
  by_cases h1:l.length=1
  ·exact jru f l h1 hok
  have e:2<=l.length:=vO
  cases f with
  | zero =>
   exfalso
   obtain⟨a,J⟩:∃ a,l[0]?=some a:=⟨_,bB vO⟩
   obtain⟨b,hb⟩:∃ b,l[1]?=some b:=⟨_,bB vO⟩
   have A:=Xh hok.rise vO J hb
   have:=(hok.size b (bD hb)).1
   rw[show b.l=[]from bH (by show b.1.size=0;omega)]at A;exact not_lt_nil _ A
  | succ f =>
   by_cases hk:0 < Aj l
   ·exact jrt f l e hln hok hk (OJ f _ ((Yh (Aj l) hok (fun p H q K=>((Rh hok e p H).1).trans (Rh hok e q K).1.symm) (fun p H=>(Rh hok e p H).2)).mono vO) (by rw[Jn];exact hln))
   ·exact g_ f l e hln hok hk (fun i _=>OJ f _ (Yn i hok) (by rw[Jn];exact bF (dY _ _) hln))
theorem KW(b:vU):(b >>> 4).toNat=b.toNat / 16:=by
 have:∀ c:Fin 256,(UInt8.ofNat c.1 >>> 4).toNat=c.1 / 16:=by decide
 have h:=this ⟨b.toNat,b.toNat_lt⟩;simpa using h
theorem KX(b:vU):(b &&& 15).toNat=b.toNat % 16:=by
 have:∀ c:Fin 256,(UInt8.ofNat c.1 &&& 15).toNat=c.1 % 16:=by decide
 have h:=this ⟨b.toNat,b.toNat_lt⟩;simpa using h
theorem qD:∀ (a b:vN),Lt a b->Lt (Mg a) (Mg b)
 | a,[],h=>absurd h (not_lt_nil _)
 | [],y :: b,_=>rfl
 | x :: a,y :: b,h=>by
  show Lt ((x >>> 4) ::(x &&& 15) :: Mg a) ((y >>> 4) ::(y &&& 15) :: Mg b);have e:=KW x;have q:=KW y;have A:=KX x;have H:=KX y;rcases Nd.1 h with h |⟨he,h2⟩
  ·have h:=dQ.1 h
   by_cases hh:x.toNat / 16 < y.toNat / 16
   ·exact Nd.2 (.inl (dQ.2 vO))
   ·refine Nd.2 (.inr ⟨dP.1 vO,Nd.2 (.inl (dQ.2 vO))⟩)
  ·subst he;exact Nd.2 (.inr ⟨rfl,Nd.2 (.inr ⟨rfl,qD a b h2⟩)⟩)
theorem FE(s:vB):Dz (Ci s)=true:=by
 unfold Dz Ci;rw[fD];intro x e;have e:x∈Mg s.data.toList:=e;unfold Mg at e
 obtain⟨b,_,hb⟩:=dL.1 e
 have A:=KW b;have H:=KX b;have J:=b.toNat_lt;have q:(15:vU).toNat=15:=rfl;refine decide_eq_true (fN.2 ?_);rcases bT.1 hb with rfl | hb
 ·omega
 ·rw[bL.1 hb];omega
theorem JT(s:vB):(Ci s).size=2 * s.size:=by
 show (Mg s.data.toList).length=2 * s.data.toList.length;unfold Mg;induction s.data.toList with
 | nil=>rfl
 | cons x r ih=>rw[dN,bK,ih,bS,bS,bS,cY];omega
structure PK(l:vL):Prop where
 size:∀ p∈l,0 < p.1.size/\p.1.size<=6/\0 < p.2.size/\p.2.size<=80
 rise:l.Pairwise fun p q=>Lt p.l q.l
 len:l.length<=40
theorem FL:∀ (a b c:vN),Lt a b->Lt b c->Lt a c
 | a,b,[],_,h=>absurd h (not_lt_nil _)
 | a,[],z :: c,h,_=>absurd h (not_lt_nil _)
 | [],y :: b,z :: c,_,_=>rfl
 | x :: a,y :: b,z :: c,h1,h2=>by
  rcases Nd.1 h1 with h |⟨rfl,h⟩
  ·rcases Nd.1 h2 with h' |⟨rfl,h'⟩
   ·exact Nd.2 (.inl (UInt8.lt_trans h h'))
   ·exact Nd.2 (.inl h)
  ·rcases Nd.1 h2 with h' |⟨rfl,h'⟩
   ·exact Nd.2 (.inl h')
   ·exact Nd.2 (.inr ⟨rfl,FL a b c h h'⟩)
theorem Fr{l:vL}(h:Dv l=0):PK l:=by
 unfold Dv at h;split at h
 ·cases h
 rename_i hb
 split at h
 ·cases h
 rename_i hl
 have J:∀ i,i < l.length->Kn l i=false:=fun i q=>by cases hbi:Kn l i with| false=>rfl| true=>exact absurd (gR.2 ⟨i,dZ.2 q,hbi⟩) hb
 refine⟨fun p hp=>?_,?_,by omega⟩
 ·obtain⟨i,q⟩:=fC hp;(have A:=J i (bI.1 q).1;have hg:l.getD i (⟨#[]⟩,⟨#[]⟩)=p:=by rw[bJ,q];rfl);unfold Kn at A;rw[hg]at A;simp only[gN,Bool.not_eq_false']at A;have H:=A.1.1;have O:=A.1.2;unfold Up at H;unfold Wm at O;simp only[decide_eq_true_eq]at H O;exact⟨H.1,H.2,O.1,O.2⟩
 ·(have K:∀ i,i+1 < l.length->Lt (l.getD i pd).l (l.getD (i+1) pd).l:=fun i q=>by have A:=J (i+1) q;unfold Kn at A;simp only[gN,Bool.and_eq_false_iff,Bool.not_eq_false']at A;rcases A.2 with H | H;{simp at H};rw[Nat.add_sub_cancel]at H;have:Op.bytesLess (l.getD i pd).1.toList (l.getD (i+1) pd).1.toList=true:=H;rw[cC,cC]at this;exact this);(rw[fV];intro i j q hj a0;have e:∀ k (Z:k < l.length),l.getD k pd=l[k]:=fun k Z=>by rw[bJ,bB Z];rfl);(have X:∀ d,∀ i,i+d+1 < l.length->Lt (l.getD i pd).l (l.getD (i+d+1) pd).l:=by intro d;induction d with| zero=>exact fun i q=>K i q| succ d ih=>exact fun i q=>FL _ _ _ (ih i vO) (K (i+d+1) q));have:=X (j - i - 1) i vO;rw[show i+(j - i - 1)+1=j by omega,e i q,e j hj]at this;exact this
theorem Ou{l:vL}(h:PK l):Eu 12 (Em l):=by
 refine⟨fun p e=>?_,?_⟩
 ·obtain⟨q,A,rfl⟩:=bC.1 e;obtain⟨K,O,H,J⟩:=h.size q A;have X:=JT q.1;exact⟨by show (Ci q.1).size<=_;omega,by show (Ci q.1).size<=_;omega,FE _,H,J⟩
 ·unfold Em;rw[gI];exact h.rise.imp fun {p q} h=>qD _ _ h
def Ds(l:vL):PT:=An 13 (Em l)
section
attribute [local go_sem] Oper.semAt_some
inductive AT where
 | mk (b:Nat) (text:vB) (v:vV) (kids:List AT)
def AT.root:AT->Nat | .mk b _ _ _=>b
mutual
def Hc(A:Nat->Prop):AT->vW->Prop
 | .mk b t v ks,W=>A b/\Ae W b (.cells #[t,v] 168)/\Xa A W v (ks.map AT.root)/\Ri A ks W
def Ri(A:Nat->Prop):List AT->vW->Prop
 | [],_=>True
 | k :: ks,W=>Hc A k W/\Ri A ks W
end
mutual
def AT.pt:AT->PT
 | .mk _ t _ ks=>.mk t (AT.pts ks)
def AT.pts:List AT->List PT
 | []=>[]
 | k :: ks=>AT.pt k :: AT.pts ks
end
mutual
def Bz:PT->vM
 | .mk t ks=>t :: Ej ks
def Ej:List PT->vM
 | []=>[]
 | k :: ks=>Bz k++Ej ks
end
mutual
theorem sY{A:Nat->Prop}{W:vW}:∀ (T:PT) (b:Nat),Lm A T b W->∃ a:AT,a.root=b/\a.pt=T/\Hc A a W
 | .mk t ks,b,h=>by
  unfold Lm at h
  obtain⟨e,v,q,H,J,K⟩:=h
  obtain⟨O,X,Z,e3⟩:=sE ks q K
  exact⟨.mk b t v O,rfl,by unfold AT.pt;rw[Z],by unfold Hc;exact⟨e,H,by rw[X];exact J,e3⟩⟩
theorem sE{A:Nat->Prop}{W:vW}:∀ (ks:List PT) (bs:List Nat),Hh A ks bs W->∃ e:List AT,e.map AT.root=bs/\AT.pts e=ks/\Ri A e W
 | [],bs,h=>by
  unfold Hh at h;subst h
  exact⟨[],rfl,by unfold AT.pts;rfl,by unfold Ri;trivial⟩
 | x :: ks,bs,h=>by
  unfold Hh at h
  obtain⟨b,r,rfl,q,H⟩:=h
  obtain⟨a,J,K,O⟩:=sY x b q
  obtain⟨e,X,Z,e6⟩:=sE ks r H
  exact⟨a :: e,by rw[bN,J,X],by unfold AT.pts;rw[K,Z],by unfold Ri;exact⟨O,e6⟩⟩
end
mutual
theorem Hc.keeps{A:Nat->Prop}{F:Bf}{W W':vW}(k:Ad F W W')(hF:∀ x,A x->¬ F x):∀ (a:AT),Hc A a W->Hc A a W'
 | .mk b t v ks,h=>by
  unfold Hc at *
  obtain⟨e,q,H,J⟩:=h
  exact⟨e,q.keeps k (hF b e),H.keeps k hF,Ri.keeps k hF ks J⟩
theorem Ri.keeps{A:Nat->Prop}{F:Bf}{W W':vW}(k:Ad F W W')(hF:∀ x,A x->¬ F x):∀ (ks:List AT),Ri A ks W->Ri A ks W'
 | [],_=>by unfold Ri;trivial
 | x :: ks,h=>by
  unfold Ri at *
  exact⟨Hc.keeps k hF x h.1,Ri.keeps k hF ks h.2⟩
end
theorem Ri.get{A:Nat->Prop}{W:vW}:∀ (ks:List AT) (j:Nat) (a:AT),Ri A ks W->ks[j]?=some a->Hc A a W
 | [],j,a,_,h=>by simp at h
 | x :: ks,0,a,h,hj=>by simp at hj;subst hj;unfold Ri at h;exact h.1
 | x :: ks,j+1,a,h,hj=>by unfold Ri at h;exact Ri.get ks j a h.2 (by simpa using hj)
theorem eZ:∀ (ks:List AT) (j:Nat) (a:AT),ks[j]?=some a->Ej (AT.pts (ks.take (j+1)))=Ej (AT.pts (ks.take j))++Bz a.pt
 | [],j,a,h=>by simp at h
 | x :: ks,0,a,h=>by
  simp at h;subst h;simp[AT.pts,Ej]
 | x :: ks,j+1,a,h=>by
  have:=eZ ks j a (by simpa using h)
  simp only[fH,AT.pts,Ej,this,bZ]
theorem nP:∀ (ks:List AT) (j:Nat),∃ r,Ej (AT.pts ks)=Ej (AT.pts (ks.take j))++r
 | ks,0=>⟨Ej (AT.pts ks),by simp[AT.pts,Ej]⟩
 | [],j+1=>⟨[],by simp[AT.pts,Ej]⟩
 | x :: ks,j+1=>by
  obtain⟨r,h⟩:=nP ks j
  exact⟨r,by simp only[fH,AT.pts,Ej,h,bZ]⟩
def Wn(L m:vM)(p:Nat):Prop:=∀ j x,m[j]?=some x->L[p+j]?=some x
theorem Wn.left{m n:vM}(h:Wn L (m++n) p):Wn L m p:=fun j x e=>h j x (by rw[cN (bI.1 e).1];exact e)
theorem Wn.right{m n:vM}(h:Wn L (m++n) p):Wn L n (p+m.length):=fun j x e=>by
 have:=h (m.length+j) x (by rw[cO vO,Nat.add_sub_cancel_left];exact e)
 rw[Nat.add_assoc];exact this
theorem Wn.le{m:vM}(h:Wn L m p)(hm:m≠[]):p+m.length<=L.length:=by
 have e:0 < m.length:=fZ.2 hm
 have:=h (m.length - 1) _ (bB vO)
 have:=(bI.1 this).1
 omega
theorem jvr(T:PT):1<=(Bz T).length:=by cases T;unfold Bz;simp
theorem nN:∀ (ks:List AT),ks.length<=(Ej (AT.pts ks)).length
 | []=>by simp
 | x :: ks=>by
  have:=nN ks
  have:=jvr x.pt
  simp only[AT.pts,Ej,bK,bS];omega
def UP(C Cx:Nat->vW->Prop)(n N:Nat)(e:Ending)(W':vW):Prop:=(e=.returned true/\C n W')\/(e=.returned false/\∃ q,0 < q/\q<=N/\Cx q W')
def jxr(C:Nat->vW->Prop)(p:Nat)(ks:List AT)(v:vV)(wr:vW):Prop:=∃ j:Nat,j<=ks.length/\v=.int .i64 j/\C (p+1+(Ej (AT.pts (ks.take j))).length) wr
theorem jt6(A:Nat->Prop)(l:Nat)(C Cx:Nat->vW->Prop)(hC:∀ k,St (C k))(L:vM)(hLn:L.length<=1000000)
  (hY:∀ j q,j < L.length->C j q->WC Tryz.prog l #[.string (L.getD j ⟨#[]⟩)] q (C (j+1)) (Cx (j+1)))
  (b:Nat) (t:vB) (v:vV) (ks:List AT)
  (IHk:∀ a∈ks,∀ (p:Nat) (W:vW),Wn L (Bz a.pt) p->(∀ j q,C j q->Hc A a q)->C p W ->
   CallsIn Fence.wide 0 Tryz.prog 128 #[Fv a.root,.func (.yield l) #[] #[]] W (UP C Cx (p+(Bz a.pt).length) L.length))
  (p:Nat) (W:vW) (hL:Wn L (Bz (AT.mk b t v ks).pt) p) (hS:∀ j q,C j q->Hc A (.mk b t v ks) q) (h0:C p W) :
   CallsIn Fence.wide 0 Tryz.prog 128 #[Fv b,.func (.yield l) #[] #[]] W (UP C Cx (p+(Bz (AT.mk b t v ks).pt).length) L.length):=by
 have e1:Bz (AT.pt (.mk b t v ks))=t :: Ej (AT.pts ks):=by unfold AT.pt Bz;rfl
 rw[e1]at hL ⊢;have hp:p < L.length:=by have:=hL 0 t rfl;exact (bI.1 this).1
 have hg:L.getD p ⟨#[]⟩=t:=by rw[bJ];have:=hL 0 t rfl;rw[gC]at this;rw[this];rfl
 have K:∀ j q,C j q->Ae q b (.cells #[.string t,v] 168)/\Xa A q v (ks.map AT.root)/\Ri A ks q:=fun j q h=>by have:=hS j q h;unfold Hc at this;exact this.2
 obtain⟨fn,tm,b8,bd,a1,a7⟩:=hY p W hp h0
 rw[hg]at a1;have q0:=(K p W h0).1.cell (i:=0) (v:=.string t) vF
 obtain⟨av,cv,hv⟩:=(K p W h0).2.1.sl
 rw[bU]at hv;subst hv;have b9:ks.length<=1000000:=by have h1:=nN ks;have h2:=hL.le (by simp);simp only[bS]at h2;omega
 have a8:=Hd a7;have HS:=Hd K;have HY:=Hd hY;have HC:=Hd hC;have a9:=Hd IHk;have HL:=Hd hL;clear K hS a7 hg h0 e1 hL hY hC IHk;unfold Fv;refine callsIn_of_wp Tryz.func128 rfl trivial ?_ rfl;simp only[Tryz.ntmps128,cQ,bS,cY,Nat.reduceAdd,Nat.reduceSub,cT,cS,dC,cW,cL,cR];gi_wp2_with fail
 refine⟨rfl,a8.o.mono ?_⟩
 rintro e w5 (⟨rfl,C5⟩ |⟨rfl,C5⟩)
 ·have q1:=(HS.o _ _ C5).1.cell (i:=1) (v:=.slice av ks.length cv) vF;(have O:=Hd C5;clear C5 q0 a1;gi_wp2_with fail);(gi_loopw [19] (fun v wr=>jxr C p ks v wr) (fun v _=>ks.length - (intOf v).toNat));(case atStart=>exact⟨0,by omega,rfl,by simpa [AT.pts,Ej]using O.o⟩);case round =>obtain⟨j,hj,rfl,H⟩:=hrel;by_cases hlt:j < ks.length;{obtain⟨b0,a2,b2⟩:=HS.o _ _ H;obtain⟨a,ha⟩:∃ a,ks[j]?=some a:=⟨_,bB hlt⟩;have X:a∈ks:=bD ha;have a3:=eZ ks j a ha;obtain⟨a5,Z⟩:=nP ks (j+1);(have a0:Wn L (Bz a.pt) (p+1+(Ej (AT.pts (ks.take j))).length):=by(have h1:Wn L ([t]++(Ej (AT.pts (ks.take j))++(Bz a.pt++a5))) p:=by have:=HL.o;rw[Z,a3,bZ]at this;exact this);exact (h1.right.right).left);rcases a2 with⟨_,h0⟩ |⟨g,c,hh,_,_,_,_,hcell⟩;{rw[List.map_eq_nil_iff]at h0;rw[h0]at hlt;cases hlt};obtain⟨rfl,b3,b4⟩:=dH hh;clear b3 b4;have qj:wr.cell? ⟨g,j,none⟩=some (Fv a.root):=hcell j a.root (by rw[bY,ha];rfl);obtain⟨ar,a4⟩:=vE a.root;rw[<-a4]at qj;have b1:(j:Int) < (ks.length:Int):=vO;(have ih:=a9.o a X _ wr a0 (fun j' q h=>Ri.get ks j a (HS.o j' q h).2.2 ha) H;rw[<-a4]at ih;have IH:=Hd ih;have b5:=Hd a3;unfold Fv at qj;clear b0 b2 hcell hh Z a0 ih a3 H ha a4 q1 X O;gi_wp2_with fail);refine⟨trivial,rfl,IH.o.mono ?_⟩;rintro e w6 (⟨rfl,C6⟩ |⟨rfl,q',a2,b6,C6⟩);{have J:=Hd C6;(clear C6;gi_wp2_with fail);go_roundw;(case rel=>exact⟨j+1,by omega,by go_num,by rw[b5.o,bK, <-Nat.add_assoc];exact J.o⟩);case measure=>exact vJ};have J:=Hd C6;(clear C6;gi_wp2_with fail);go_ret;exact .inr ⟨rfl,q',a2,b6,J.o⟩};have b7:j=ks.length:=vO;(subst b7;rw[cD]at H;have J:=Hd H;clear H;gi_wp2_with fail);go_ret;exact .inl ⟨rfl,by rw[show p+((Ej (AT.pts ks)).length+1)=p+1+(Ej (AT.pts ks)).length by omega];exact J.o⟩
 ·have O:=Hd C5;(clear C5 q0 a1;gi_wp2_with fail);go_ret;exact .inr ⟨rfl,p+1,by omega,by omega,O.o⟩
theorem qR(A:Nat->Prop)(l:Nat)(C Cx:Nat->vW->Prop)(hC:∀ k,St (C k))(L:vM)(hLn:L.length<=1000000)
  (hY:∀ j W',j < L.length->C j W'->WC Tryz.prog l #[L.getD j ⟨#[]⟩] W' (C (j+1)) (Cx (j+1))) :
  ∀ (a:AT) (p:Nat) (W:vW),Wn L (Bz a.pt) p->(∀ j W',C j W'->Hc A a W')->C p W ->
   CallsIn Fence.wide 0 Tryz.prog 128 #[Fv a.root,.func (.yield l) #[] #[]] W (UP C Cx (p+(Bz a.pt).length) L.length)
 | .mk b t v ks,p,W,hL,hS,h0=>jt6 A l C Cx hC L hLn hY b t v ks (fun a e=>qR A l C Cx hC L hLn hY a) p W hL hS h0
termination_by a=>SizeOf.sizeOf a
decreasing_by
 have:=List.sizeOf_lt_of_mem e
 simp
 omega
def oW(L:vM)(k:Nat):Array vV:=#[L.getD k ⟨#[]⟩]
theorem jzU(A:Nat->Prop)(bx:Nat)(a:AT)(hLn:(Bz a.pt).length<=1000000):LB Tryz.prog 127 #[bx] (Bz a.pt).length (oW (Bz a.pt)) (fun W=>Ae W bx (.cells #[Fv a.root] 145)/\Hc A a W):=by
 intro l C Cx hC q H W hY J;have hT:=qR A l C Cx hC (Bz a.pt) hLn (fun j K hj hc=>hY j K hj hc) a 0 W (fun j x hx=>by rw[bX];exact hx) (fun j K h=>(H j K h).2) J;have q0:=(H 0 W J).1.cell (i:=0) (v:=Fv a.root) vF;have HT:=Hd hT;clear hT hY hC q H J;unfold Fv at q0
 obtain⟨r,O⟩:=vE a.root
 rw[<-O]at q0 HT;have HR:=Hd O;clear O;refine callsIn_of_wp Tryz.func127 rfl trivial ?_ rfl;simp only[Tryz.ntmps127,cQ,bS,cY,Nat.reduceAdd,Nat.reduceSub,cT,cS,dC,cW,cL,cR];gi_wp2_with fail
 refine⟨trivial,rfl,HT.o.mono ?_⟩
 rintro e w5 (⟨rfl,C5⟩ |⟨rfl,q',X,Z,C6⟩)
 ·have a0:=Hd C5;(clear C5;gi_wp2_with fail);refine bodyPost_end (results_none rfl _ _ _) rfl ?_;exact⟨⟨_,rfl⟩,.inl (by have:=a0.o;rw[bX]at this;exact this)⟩
 ·have a1:=Hd C6;(clear C6;gi_wp2_with fail);refine bodyPost_end (results_none rfl _ _ _) rfl ?_;exact⟨⟨_,rfl⟩,.inr ⟨q',Z,X,a1.o⟩⟩
theorem yR:vQ 72 #[Fv k] w fun e w'=>e=.returned (.func (.func 127) #[] #[w])/\Ae w' w (.cells #[Fv k] 145)/\Af w w':=by
 unfold Fv;unfold vQ;go_in;go_wp2_with fail
 go_ret
 exact⟨rfl,Ae.new w _,(Aa w).alloc _⟩
def Ji(acc:vM)(x:vB):Bool:=(acc.map (·.data.toList)).contains x.data.toList
theorem FV:Ji acc x=true↔x∈acc:=by
 unfold Ji;rw[cJ,bC]
 exact⟨fun ⟨y,q,e⟩=>by rw[<-show y=x from ByteArray.ext (Array.ext' e)];exact q,fun h=>⟨x,h,rfl⟩⟩
def Ih(acc:vM)(x:vB):vM:=if Ji acc x=true then acc else acc++[x]
def Hb(l:vM):vM:=l.foldl Ih []
theorem jun:y∈Ih acc x↔y∈acc\/y=x:=by
 unfold Ih;split
 ·rename_i h;exact⟨.inl,fun q=>q.elim id (fun e=>e ▸ (FV _ _).1 h)⟩
 ·simp
theorem Rb(l:vM)(y:vB):y∈Hb l↔y∈l:=by
 unfold Hb
 suffices ∀ e,y∈l.foldl Ih e↔y∈e\/y∈l by simpa using this []
 induction l with
 | nil=>intro e;simp
 | cons x r ih=>intro e;rw[dM,ih,jun,bT];exact or_assoc
theorem SA(l:vM)(x:vB):Hb (l++[x])=Ih (Hb l) x:=by
 unfold Hb;rw[dX];rfl
theorem SS(l:vM):(Hb l).length<=l.length:=by
 unfold Hb
 suffices ∀ e,(l.foldl Ih e).length<=e.length+l.length by simpa using this []
 induction l with
 | nil=>intro e;simp
 | cons x r ih =>(intro e;rw[dM,bS];have q:=ih (Ih e x);have A:(Ih e x).length<=e.length+1:=by unfold Ih;split <;> simp);omega
theorem DO{K:Type}[DecidableEq K](k:K)(v:vV)(n:Nat)(k':K):∀ (l:List (Ce K)),Dr (Iy l k v n) k'=if k'=k then some v else Dr l k'
 | []=>by
  by_cases h:k'=k
  ·subst h;simp[Iy,Dr]
  ·simp[Iy,Dr,h]
 | x :: r=>by
  have H:=DO k v n k' r;unfold Iy
  by_cases hk:k=x.1
  ·rw[if_pos hk]
   by_cases h:k'=k
   ·subst h;simp[Dr]
   ·have q:¬ k'=x.1:=fun e=>h (e.trans hk.symm)
    simp[Dr,h,q]
  ·rw[if_neg hk]
   by_cases h:k'=x.1
   ·have q:¬ k'=k:=fun e=>hk (e.symm.trans h)
    rw[if_neg q];simp[Dr,h]
   ·have A:∀ l,Dr (x :: l) k'=Dr l k':=fun l=>by simp[Dr,h]
    rw[A,A,H]
def Ez(l:vM)(x:vB):Nat:=(l.map (·.data.toList)).count x.data.toList
def Jv(n:Nat):Option vV:=if n=0 then none else some (.int .i64 (n:Int))
theorem Bi:Tryz.prog.underlying 133=some (.map 9 3):=vY
noncomputable abbrev Al:Fx Tryz.prog 9 (vN):=wP Ag
theorem Df:(zeroValue 3).run Tryz.prog w=.ok (.int .i64 0) w:=vY
structure Rv(w:World)(g m:Nat)(A:Nat->Prop)(bx:Nat)(a:AT)(L:vM)(k:Nat)(W:World):Prop where
 ext:Af w W
 var:∃ v n,Ae W g (.cells #[v] 52)/\W.ownsRow 0 9 1 v n ((Hb (L.take k)).map Value.string)/\n<=k/\∀ b,v.ownBlock=some b->m+2<=b
 tab:∃ es ck,Ae W (g+1) (.map (Al.arr es) ck)/\∀ x:vB,Dr es x.data.toList=Jv (Ez (L.take k) x)
 mv:Ae W (g+2) (.cells #[.map (some (g+1))] 133)
 box:Ae W bx (.cells #[Fv a.root] 145)
 at':Hc A a W
theorem Rv.st{w:vW}{a:AT}{k:Nat}(h:Rv w g m A bx a L k W)(e:Af W W'):Rv w g m A bx a L k W':=
 let ⟨v,n,h1,h2,h3,h4⟩:=h.var
 let ⟨es,ck,h5,h6⟩:=h.tab
 ⟨h.ext.trans e,⟨v,n,h1.keeps e kI,Jy h2 e,h3,h4⟩,⟨es,ck,h5.keeps e kI,h6⟩,h.mv.keeps e kI,h.box.keeps e kI,Hc.keeps e (fun _ _ h=>h) a h.at'⟩
theorem Rv.put{w:vW}{a:AT}{k:Nat}(h:Rv w g m A bx a L k W)(hr:w.heap.size<=r)(h1:g+2 < r)(h2:r < m+2)(h3:bx≠r)(h4:∀ x,A x->x≠r)(o:Obj):Rv w g m A bx a L k (W.putObj r o):=
 let ⟨v,n,h5,h6,h7,h8⟩:=h.var
 let ⟨es,ck,h9,h10⟩:=h.tab
 ⟨h.ext.putObj (.inr hr) _,⟨v,n,h5.put_other vO _,Kq h6 (Ad.onePut W r o) (fun b hb e=>kL (h8 b hb)),h7,h8⟩,⟨es,ck,h9.put_other vO _,h10⟩,h.mv.put_other vO _,h.box.put_other h3 _,
  Hc.keeps (Ad.onePut W r o) (fun x q e=>h4 x q e) a h.at'⟩
end
def Sy(l:vL):Nat->Nat
 | 0=>0
 | n+1=>Sy l n+(Ah n l).length
def hN(L:vN)(n:Nat):Nat:=match L with | []=>0 | a :: _=>if a.toNat < n then 1 else 0
theorem jx5(p:Ar)(n:Nat):hN p.l (n+1)=hN p.l n+(if Ur n p=true then 1 else 0):=by
 have e:Ur n p=match p.l with | []=>false | a :: _=>a.toNat == n:=rfl
 rw[e];cases p.l with
 | nil=>rfl
 | cons a r =>simp only[hN,beq_iff_eq];by_cases h1:a.toNat=n;{rw[if_pos vO,if_neg vO,if_pos h1]};by_cases h3:a.toNat < n;{rw[if_pos vO,if_pos h3,if_neg h1]};rw[if_neg vO,if_neg h3,if_neg h1]
theorem XU(L:vN)(n:Nat):hN L n<=1:=by
 cases L with
 | nil=>exact cE _
 | cons a r=>simp only[hN];split <;> omega
theorem RY(p:Ar)(l:vL):∀ n,Sy (p :: l) n=Sy l n+hN p.l n
 | 0=>by
  have:hN p.l 0=0:=by cases p.l <;> simp[hN]
  rw[this];rfl
 | n+1=>by
  have h:(Ah n (p :: l)).length=(Ah n l).length+(if Ur n p=true then 1 else 0):=by
   unfold Ah;rw[List.filter_cons];split <;> simp
  unfold Sy;rw[RY p l n,h,jx5];omega
theorem JJ:∀ (l:vL) (n:Nat),Sy l n<=l.length
 | [],n=>by
  have:∀ n,Sy [] n=0:=fun n=>by induction n with
   | zero=>rfl
   | succ n ih=>unfold Sy;rw[ih];rfl
  rw[this];exact cE _
 | p :: l,n=>by
  rw[RY,bS]
  have:=JJ l n
  have:=XU p.l n
  omega
theorem LU:∀ (a b:List PT),Ej (a++b)=Ej a++Ej b
 | [],b=>by simp[Ej]
 | x :: a,b=>by simp only[cR,Ej,LU a b,bZ]
theorem KI(T:PT):(Ej (Hx T)).length<=(Bz T).length:=by
 unfold Hx;split <;> simp[Ej]
theorem XV(B:vL->PT)(F:Nat)(l:vL)(hB:∀ i,(Ah i l).length≠0->(Bz (B (Az 1 (Ah i l)))).length<=F * (Ah i l).length):∀ n,(Ej (Ut B l n)).length<=F * Sy l n
 | 0=>by simp[Ut,Ej,Sy]
 | n+1=>by
  rw[NS,LU,bK];unfold Sy;rw[Nat.mul_add]
  have:=XV B F l hB n
  by_cases h0:(Ah n l).length=0
  ·rw[if_pos h0];simp[Ej];omega
  ·rw[if_neg h0]
   have e:=hB n h0;have q:=KI (B (Az 1 (Ah n l)));omega
theorem VT:∀ (f:Nat) (l:vL),l≠[]->(Bz (An (f+1) l)).length<=(f+1) * l.length
 | f,l,hl=>by
  have H:1<=l.length:=fZ.2 hl;show (Bz (.mk (Cr (Bm (An f) l)) (Cu (An f) l))).length<=_;unfold Bz;rw[bS];have J:(Ej (Cu (An f) l)).length<=f * l.length:=by
   unfold Cu;split
   ·simp[Ej]
   ·split
    ·cases f with
     | zero =>
      have h:=KI (An 0 (Az (Aj l) l));have K:Hx (An 0 (Az (Aj l) l))=[]:=rfl;rw[K];simp[Ej]
     | succ f =>
      have h:=KI (An (f+1) (Az (Aj l) l));have q:=VT f (Az (Aj l) l) (fun e=>by have:=Jn (Aj l) l;rw[e]at this;simp at this;omega);rw[Jn]at q;omega
    ·cases f with
     | zero =>
      have:∀ n,Ut (An 0) l n=[]:=fun n=>by
       induction n with
       | zero=>rfl
       | succ n q =>
        rw[NS,q];split
        ·rfl
        ·rfl
      have A:=this 16;unfold Ut at A;rw[A];simp[Ej]
     | succ f =>
      have h:=XV (An (f+1)) (f+1) l (fun i Z=>by
       have q:=VT f (Az 1 (Ah i l)) (fun e=>by have:=Jn 1 (Ah i l);rw[e]at this;simp at this;omega)
       rwa [Jn]at q) 16
      have O:=Nat.mul_le_mul_left (f+1) (JJ l 16);have X:Ut (An (f+1)) l 16=(List.range 16).flatMap fun i=>if (Ah i l).length=0 then []else Hx (An (f+1) (Az 1 (Ah i l))):=rfl
      rw[<-X];exact bF h O
  have:(f+1) * l.length=f * l.length+l.length:=by rw[Nat.succ_mul]
  omega
theorem oP{l:vL}(h:PK l):(Bz (Ds l)).length<=13 * l.length+1:=by
 by_cases h0:l=[]
 ·subst h0;show (Bz (.mk (Cr (Bm (An 12) [])) (Cu (An 12) []))).length<=_;have:Cu (An 12) []=[]:=rfl;rw[this];simp[Bz,Ej]
 ·have q:(Bz (Ds l)).length<=13 * (Em l).length:=VT 12 (Em l) (fun e=>h0 (by unfold Em at e;simpa using e));(have A:(Em l).length=l.length:=by unfold Em;rw[bU]);rw[A]at q;omega
section
attribute [local go_sem] Oper.semAt_some
theorem Ec(W:vW):(Instr.makeMap 133 none).run Tryz.prog W=.ok (.map (some W.heap.size)) (W.alloc (.map #[] 0)):=vY
theorem jv1(v:vV)(l:vL)(hc:Ha w)(hv:Io w v l)(h:Dv l=0):vQ 31 #[v] w fun e w'=>∃ u n,e=.returned (.tuple #[u,.int .i64 0])/\Cd w w' u n (Hb (Bz (Ds l))):=by
 have hm:=Fr h
 obtain⟨a,c,rfl⟩:=hv.sl;have HV:=Hd hv;have HM:=Hd hm;have HC:=Hd hc;have H:=Hd h;have HL:=Hd hm.len
 obtain⟨T,hT⟩:=vE (Ds l)
 rw[<-hT];have d3:=Hd hT;clear hv hm hc h hT;refine (callsIn_wide (n:=0)).1 ?_;refine callsIn_of_wp_marks Tryz.func31 rfl trivial ?_ rfl;simp only[Tryz.ntmps31,cQ,bS,cY,Nat.reduceAdd,Nat.reduceSub,cT,cS,dC,cW,cL,cR];gi_wp2_with fail
 refine⟨trivial,rfl,CallsIn.mono (callsIn_wide.2 (GC w _ l HV.o (kL HL.o) (fun p hp=>kL (HM.o.size p hp)))) ?_⟩
 rintro e w1 ⟨rfl,J⟩;rw[H.o];have HE:=Hd J;have i3:=J.size;clear J;have f5:(Instr.makeMap 133 none).run Tryz.prog (w1.alloc (.cells #[.slice none 0 0] 52))=.ok (.map (some (w1.heap.size+1))) ((w1.alloc (.cells #[.slice none 0 0] 52)).alloc (.map #[] 0)):=by rw[<-bG w1 (.cells #[.slice none 0 0] 52)];exact Ec _
 gi_wp2_with fail
 obtain⟨W6,X⟩:=vE (((w1.alloc (.cells #[.slice none 0 0] 52)).alloc (.map #[] 0)).alloc (.cells #[.map (some (w1.heap.size+1))] 133))
 rw[<-X];have i4:W6.heap.size=w1.heap.size+3:=by rw[X];simp
 have E6:Af w1 W6:=by rw[X];exact (((Aa w1).alloc _).alloc _).alloc _
 have B5:Ae W6 w1 (.cells #[.slice none 0 0] 52):=by rw[X];exact ((Ae.new w1 _).alloc _).alloc _
 have BM:Ae W6 (w1.heap.size+1) (.map #[] 0):=by rw[X];have:=(Ae.new (w1.alloc (.cells #[.slice none 0 0] 52)) (.map #[] 0)).alloc (.cells #[.map (some (w1.heap.size+1))] 133);rwa [bG]at this
 have B6:Ae W6 (w1.heap.size+2) (.cells #[.map (some (w1.heap.size+1))] 133):=by rw[X];have:=Ae.new ((w1.alloc (.cells #[.slice none 0 0] 52)).alloc (.map #[] 0)) (.cells #[.map (some (w1.heap.size+1))] 133);rwa [bG,bG]at this
 clear X f5
 refine⟨trivial,rfl,CallsIn.mono (callsIn_wide.2 (rU W6 _ l ((HV.o.ext HE.o).ext E6) (kL HL.o) (fun p hp=>kL (HM.o.size p hp)))) ?_⟩
 rintro e w7 ⟨u,rfl,hr⟩;have HR:=Hd hr.rd;have Z:Af W6 w7:=hr.ext;clear hr
 obtain⟨a2,c2,hu⟩:=HR.o.sl
 subst hu;have f6:=Hd Z;have d4:=Hd (B5.keeps Z kI);have d5:=Hd (BM.keeps Z kI);have d6:=Hd (B6.keeps Z kI);have b8:=Hd ((HE.o.trans E6).trans Z);have i5:=Z.size;clear B5 BM B6 E6 Z;gi_wp2_with fail
 refine⟨trivial,rfl,CallsIn.mono (callsIn_wide.2 (OJ 12 (Em l) (Ou HM.o) (by unfold Em;rw[bU];have:=HL.o;omega) w7 _ (HC.o.ext b8.o) HR.o)) ?_⟩
 rintro e w8 ⟨k,rfl,hk,J⟩;have hk:=Lm.mono (A':=fun x=>w7.heap.size<=x/\x < w8.heap.size) (fun x h1 h2=>⟨h1,h2⟩) _ _ hk
 obtain⟨q,d7,d8,d9⟩:=sY _ _ hk
 have i6:=J.size;have a7:=Hd (d4.o.keeps J kI);have a8:=Hd (d5.o.keeps J kI);have a9:=Hd (d6.o.keeps J kI);have e0:=Hd (b8.o.trans J);have e1:=Hd d9;have a4:=Hd d8;rw[<-d7];clear hk d7 d8 d9 J d4 d5 d6 b8 f6 HR HE;gi_wp2_with fail
 refine⟨trivial,rfl,CallsIn.mono (callsIn_wide.2 (yR w8 q.root)) ?_⟩
 rintro e w9 ⟨rfl,b9,J⟩;have c0:q.pt=T:=a4.o.trans d3.o.symm;have b0:(Bz q.pt).length<=1000000:=by rw[c0,d3.o];have:=oP HM.o;have:=HL.o;omega
 have i7:=b9.lt
 obtain⟨A,hA⟩:∃ A:Nat->Prop,A=fun x=>w7.heap.size<=x/\x < w8.heap.size:=⟨_,rfl⟩
 have S0:Rv w w1.heap.size w9 A w8 q (Bz q.pt) 0 w9:=⟨e0.o.trans J,⟨_,0,a7.o.keeps J kI,by simpa [Hb]using fE _ _ _ _,bP _,fun b hb=>by cases hb⟩,⟨[],0,a8.o.keeps J kI,fun x=>by simp[Dr,Ez,Jv]⟩,a9.o.keeps J kI,b9,by rw[hA];exact Hc.keeps J (fun _ _ h=>h) _ e1.o⟩
 have b6:=Hd S0;have b1:∀ x,A x->w1.heap.size+2 < x/\x < w9.heap.size:=fun x hx=>by rw[hA]at hx;omega
 have h7:w1.heap.size+2 < w8.heap.size:=vO
 obtain⟨L,c1⟩:=vE (Bz q.pt)
 have c3:=jzU A w8 q b0;rw[<-c1]at c3 b0 b6;have f7:=Hd c3;have f8:=Hd c1;have a0:=Hd b1;have d2:=Hd c0;clear S0 J b9 hA e0 a7 a8 a9 e1 a4 c0 c1 c3 b1;unfold Fv;gi_wp2_with fail
 refine' DK (N:=L.length) (gf:=127) (lb:=#[w8]) rfl (vX 127) f7.o (fun k=>rfl) (Rv w w1.heap.size w9 A w8 q L) (fun _ _ _=>False) (fun k W W' h e=>h.st e) (fun _ _ _ _ h _=>h) (fun k W h=>⟨h.box,h.at'⟩) (fun k W o h=>h.put vO vO vO vO (fun x hx=>kL (a0.o x hx)) _) (fun _ _ _ _ h=>h) b6.o _ ?hassign ?hbody ?hdone ?hstop
 case hassign =>intro l2 j W K _ hK;unfold oW;rw[XT];simp only[dJ,dE];gi_wp2;exact hK
 case hbody =>intro l2 k W hk h i8;obtain⟨v,n,h1,h2,h3,h4⟩:=h.var;obtain⟨ad,cp,rfl⟩:=Ir h2;obtain⟨es,ck,h5,h6⟩:=h.tab;obtain⟨x,hx⟩:=vE (L.getD k ⟨#[]⟩);(rw[<-hx];have c4:L.take (k+1)=L.take k++[x]:=by rw[cP hk,hx,bJ,bB hk];rfl);obtain⟨cn,a5⟩:=vE (Ez (L.take k) x);(have i9:cn<=1000000:=by rw[a5];unfold Ez;refine bF jF ?_;rw[bU,cV];omega);(have e6:=h6 x;rw[<-a5]at e6;have e2:(Instr.lookup 133 (.map (some (w1.heap.size+1))) x false).run Tryz.prog W=.ok (cn:Int) W:=by have:=Xd Al Bi h5 (Df W) x.data.toList false;rw[e6]at this;unfold Jv at this;by_cases h0:cn=0;{rw[if_pos h0]at this;rw[h0];exact this};rw[if_neg h0]at this;exact this);obtain⟨Gb,a1⟩:=vE (Iy es x.data.toList (.int .i64 ((cn:Int)+1)) ck);obtain⟨c5,b2⟩:=vE (if (Dr es x.data.toList).isSome then ck else ck+1);obtain⟨O,b7⟩:=vE (W.putObj (w1.heap.size+1) (.map (Al.arr Gb) c5));(have e3:(Instr.mapUpdate 133 (.map (some (w1.heap.size+1))) x (.int .i64 ((cn:Int)+1))).run Tryz.prog W=.ok () O:=by have:=Ze Al Bi h5 x.data.toList (.int .i64 ((cn:Int)+1));rw[<-a1, <-b2, <-b7]at this;exact this);(have B2:Ae O (w1.heap.size+1) (.map (Al.arr Gb) c5):=by rw[b7];exact h5.put_same _);(have e7:∀ y:vB,Dr Gb y.data.toList=Jv (Ez (L.take (k+1)) y):=fun y=>by(rw[a1,DO,h6 y,c4];have hc:Ez (L.take k++[x]) y=Ez (L.take k) y+(if x.data.toList=y.data.toList then 1 else 0):=by unfold Ez;rw[bW,List.count_append,bN,fX,List.count_singleton];simp);rw[hc];by_cases hxy:y.data.toList=x.data.toList;{have f9:y=x:=ByteArray.ext (Array.ext' hxy);subst f9;rw[if_pos rfl,if_pos rfl, <-a5];unfold Jv;rw[if_neg vO];simp};rw[if_neg hxy,if_neg (fun e=>hxy e.symm)];rfl);(have b3:(Instr.lookup 133 (.map (some (w1.heap.size+1))) x false).run Tryz.prog O=.ok (.int .i64 ((cn:Int)+1)) O:=by have:=Xd Al Bi B2 (Df O) x.data.toList false;rw[a1,DO,if_pos rfl]at this;exact this);(have K2:Ad (fun b=>b=w1.heap.size+1) W O:=by rw[b7];exact Ad.onePut _ _ _);have q6:W.cell? (w1.heap.size+1+1:)=some (.map (some (w1.heap.size+1))):=h.mv.cell (i:=0) vF;have M2:=h.mv.keeps K2 vO;have j0:O.cell? (w1.heap.size+1+1:)=some (.map (some (w1.heap.size+1))):=M2.cell (i:=0) vF;have V2:=h1.keeps K2 vO;have O2:=Kq h2 K2 (fun b hb e=>kL (h4 b hb));have X2:=h.box.keeps K2 vO;have A2:=Hc.keeps K2 (fun y hy e=>kL (a0.o y hy)) _ h.at';have E2:=h.ext.trans' K2 (fun y hy e=>by omega);have j1:=V2.cell (i:=0) (v:=.slice ad n cp) vF;have h8:O.frozen? w1=false:=V2.frozen;have b4:=Hd (show Ji (Hb (L.take k)) x=true↔cn≠0 from by rw[FV,Rb,a5];unfold Ez;rw[<-Nat.pos_iff_ne_zero,gE,bC];exact⟨fun hm=>⟨x,hm,rfl⟩,fun ⟨y,hy,e⟩=>by rw[<-show y=x from ByteArray.ext (Array.ext' e)];exact hy⟩);have e4:=Hd (show Hb (L.take (k+1))=Ih (Hb (L.take k)) x by rw[c4,SA]);have b5:=Hd (show ∃ es ck,Ae O (w1.heap.size+1) (.map (Al.arr es) ck)/\∀ y:vB,Dr es y.data.toList=Jv (Ez (L.take (k+1)) y)from⟨Gb,c5,B2,e7⟩);have c7:=Hd K2;have e5:=Hd M2;have e8:=Hd V2;have e9:=Hd O2;have f0:=Hd X2;have a4:=Hd A2;have f1:=Hd E2;have H4:=Hd h4;clear h h1 h2 h4 h5 h6 hx c4 a5 e6 a1 b2 b7 B2 e7 K2 M2 V2 O2 X2 A2 E2 b6;obtain⟨i0,hi,g0,g2,g3⟩:=info_parts Bl;by_cases hc0:cn=0;{subst hc0;(have f2:Ji (Hb (L.take k)) x=false:=by cases hm:Ji (Hb (L.take k)) x with| false=>rfl| true=>exact absurd rfl (b4.o.1 hm));(have c8:=Hd f2;have i1:(Instr.lookup 133 (.map (some (w1.heap.size+1))) x false).run Tryz.prog W=.ok (.int .i64 0) W:=e2;have i2:(Instr.mapUpdate 133 (.map (some (w1.heap.size+1))) x (.int .i64 1)).run Tryz.prog W=.ok () O:=e3;have f4:(Instr.lookup 133 (.map (some (w1.heap.size+1))) x false).run Tryz.prog O=.ok (.int .i64 1) O:=b3;clear f2 e2 e3 b3;gi_wp2_with (gi_at_builtin;refine IP _ rfl (.tmp 27) (.tmp 29) 52 rfl 9 i0 _ 1 16 Bd hi g0 g2 g3 rfl vI (.slice ad n cp) n _ rfl (Jy e9.o ((Aa O).alloc _)) O 1 1 [x] rfl rfl (Jx (Ae.new O _)) (by simp[Value.oneCell']) (by unfold maxLen;omega) vO ?_;intro v' w6 r1 r2 r3;obtain⟨c9,d0,rfl⟩:=Ir r1;have d1:=(e8.o.alloc _).keeps r2 (fun e=>kL (H4.o _ e));have j2:w6.cell? w1=some (.slice ad n cp):=d1.cell (i:=0) vF;have j3:w6.frozen? w1=false:=d1.frozen));(have a3:Hb (L.take (k+1))=Hb (L.take k)++[x]:=by rw[e4.o];unfold Ih;rw[if_neg (by rw[c8.o];simp)]);(have g4:w6.ownsRow 0 9 1 (.slice c9 (n+1) d0) (n+1) ((Hb (L.take (k+1))).map Value.string):=by rw[a3,bW];exact r1);(have K6:Ad (fun b=>(Value.slice ad n cp).ownBlock=some b) O w6:=((Ad.refl _ O).alloc _).trans r2;have f3:∀ b,(Value.slice c9 (n+1) d0).ownBlock=some b->w9.heap.size+2<=b:=fun b hb=>by rcases r3 with r3 | r3;{exact H4.o b (r3 ▸ hb)};have h9:=r3 b hb;have:=c7.o.size;rw[bG]at h9;omega);have K7:Ad (fun b=>b=w1.heap.size) w6 (w6.setCell w1 (.slice c9 (n+1) d0)):=Ad.oneSet w6 w1 _;have nO:∀ b,b < w9.heap.size+2->¬(Value.slice ad n cp).ownBlock=some b:=fun b hb e=>kL (H4.o b e);refine⟨((c7.o.mono (fun y _ e=>?_)).trans (K6.mono (fun y _ e=>?_))).trans (K7.mono (fun y _ e=>?_)),?_⟩;{have e:y=_:=e;show y≠_/\y≠_;omega};{have:=H4.o y e;show y≠_/\y≠_;omega};{have e:y=_:=e;show y≠_/\y≠_;omega};obtain⟨g5,g6,g7,g8⟩:=b5.o;exact⟨(f1.o.trans' K6 (fun y hy e=>kL (H4.o y e))).trans' K7 kJ,⟨_,n+1,d1.set_same (i:=0) _,Kq g4 K7 (fun b hb e=>kL (f3 b hb)),by omega,f3⟩,⟨g5,g6,(g7.keeps K6 (nO _ vO)).keeps K7 vO,g8⟩,(e5.o.keeps K6 (nO _ vO)).keeps K7 vO,(f0.o.keeps K6 (nO _ vO)).keeps K7 vO,Hc.keeps K7 (fun y hy e=>kL (a0.o y hy)) _ (Hc.keeps K6 (fun y hy=>nO y (kL (a0.o y hy))) _ a4.o)⟩};have j4:¬((cn:Int)+1=1):=vO;(have j5:(((cn:Int)+1) == 1)=false:=by simp;omega);(have hm:=b4.o.2 hc0;have c8:=Hd hm;clear hm;gi_wp2_with fail);(have a3:Hb (L.take (k+1))=Hb (L.take k):=by rw[e4.o];unfold Ih;rw[if_pos c8.o]);refine⟨c7.o.mono (fun y _ e=>?_),?_⟩;{have e:y=_:=e;show y≠_/\y≠_;omega};exact⟨f1.o,⟨_,n,e8.o,by rw[a3];exact e9.o,by omega,H4.o⟩,b5.o,e5.o,f0.o,a4.o⟩
 case hdone =>intro W h hd;obtain⟨v,n,h1,h2,h3,h4⟩:=h.var;obtain⟨ad,cp,rfl⟩:=Ir h2;(have q5:W.cell? w1=some (.slice ad n cp):=h1.cell (i:=0) vF;rw[cD,f8.o]at h2;have H2:=Hd h2;have H4:=Hd h4;have HX:=Hd h.ext;have HD:=Hd hd;have g9:Hid (q.pt=T):=d2.o;clear h h1 h2 h4 hd b6;gi_wp2_with fail);refine⟨by simp,.inl ⟨_,_,rfl,run_takeDeferred HD.o,?_⟩⟩;refine⟨_,results_tmp2 rfl _ _ _,?_⟩;have hK:=Ad.onePut W w9 (.deferred none);refine⟨.slice ad n cp,n,rfl,⟨_,_,rfl⟩,by rw[<-g9.o];exact Kq H2.o hK (fun b hb e=>kL (H4.o b hb)),HX.o.putObj (.inr vO) _,fun b hb=>kL (H4.o b hb)⟩
 case hstop=>intro c k W _ _ h;exact h.elim
end
theorem xR(v:vV)(l:vL)(hc:Ha w)(hv:Io w v l)(h:Dv l=0):vR 46 #[v] w (.tuple #[.string (Ds l).text,.int .i64 0]):=by
 have A:=Fr h
 obtain⟨a,c,rfl⟩:=hv.sl;have HV:=Hd hv;have J:=Hd A;have HC:=Hd hc;have H:=Hd h;have K:=Hd A.len;clear hv A hc h;unfold vR vQ;go_in;go_wp2_with fail
 refine vH (GC w _ l HV.o (kL K.o) (fun p O=>kL (J.o.size p O))) fun w1 HE=>?_;rw[H.o];go_wp2_with fail
 refine (rU w1 _ l (HV.o.ext HE.o) (kL K.o) (fun p O=>kL (J.o.size p O))).mono ?_;rintro e w2 ⟨u,rfl,X⟩;have HR:=Hd X.rd;have HX:=Hd (HE.o.trans X.ext);clear X
 obtain⟨a2,c2,hu⟩:=HR.o.sl
 subst hu;go_wp2_with fail
 refine (OJ 12 (Em l) (Ou J.o) (by unfold Em;rw[bU];have:=K.o;omega) w2 _ (HC.o.ext HX.o) HR.o).mono ?_;rintro e w3 ⟨k,rfl,hk,hE⟩
 obtain⟨a0,vk,bk,q,_⟩:=hk.open
 have q0:w3.cell? k=some (.string (An 13 (Em l)).text):=q.cell vF;have Z:=Hd (HX.o.trans hE);clear hk q hE;unfold Fv;go_wp2_with fail
 go_ret2
 exact⟨rfl,Z.o⟩
theorem VL(v:vV)(l:vL)(hc:Ha w)(hv:Io w v l)(h:Dv l=0):vR 12 #[v] w (.tuple #[Ak (Ds l).text,.int .i64 0]):=by
 have A:=xR w v l hc hv h
 obtain⟨a,c,rfl⟩:=hv.sl
 obtain⟨t,J⟩:=vE (Ds l).text
 rw[<-J]at A ⊢;have O:=Hd A;have X:=Hd hc;clear A hc hv J h;unfold vR vQ;go_in;go_wp2_with fail
 refine O.o.mono ?_;rintro e w1 ⟨rfl,q⟩;have K:=Hd q;clear q;go_wp2_with fail
 refine vH (Tb _ _ [t] (by simp) (BA w1 [t] 9) (X.o.ext (K.o.alloc _))) fun Z q=>?_;rw[CA];have H:=Hd ((K.o.alloc _).trans q);go_wp2_with fail
 go_ret2
 exact⟨rfl,H.o⟩
theorem Qm:Xg (Tryz.prog.underlying 49)=true:=vY
theorem De:(Tryz.prog.info? 49).map (·.size)=some 2:=vY
theorem TN{w:vW}{x y:vB}(h1:w.cell? ⟨b,o,none⟩=some (.string x))(h2:w.cell? ⟨b,o+1,none⟩=some (.string y)):(Instr.loadAt 49 (.pointer (some ⟨b,o,none⟩))).run Tryz.prog w=.ok (.agg #[x,y]) w:=by
 obtain⟨A,q⟩:=Yd Qm
 refine Yg (xs:=[x,y]) q De (fun j v e=>?_);rw[Addr.add_lit]
 match j,e with
 | 0,e=>simp at e;subst e;exact h1
 | 1,e=>simp at e;subst e;exact h2
 | j+2,e=>simp at e
theorem K_(r:vM):(Hb (x :: r))[0]?=some x:=by
 unfold Hb;rw[dM];have h:∀ (r e:vM),e[0]?=some x->(r.foldl Ih e)[0]?=some x:=by intro r;induction r with| nil=>intro e h;exact h| cons y r ih =>intro e h;rw[dM];refine ih _ ?_;unfold Ih;split;{exact h};rw[cN (bI.1 h).1];exact h
 exact h r _ (by simp[Ih,Ji])
theorem aA(T:PT):(Hb (Bz T))[0]?=some T.text:=by
 obtain⟨t,ks⟩:=T
 unfold Bz;exact K_ t _
theorem UH:(x.toList == y.toList)=decide (x=y):=by
 by_cases h:x=y
 ·simp[h]
 ·have e:¬ x.toList=y.toList:=fun q=>h (SM q);simp only[h,decide_false];exact beq_eq_false_iff_ne.2 e
theorem Zj{t:vB}:∀ {ks:List PT},t∈Ej ks↔∃ T∈ks,t∈Bz T
 | []=>by simp[Ej]
 | T :: ks=>by
  unfold Ej;rw[bR,Zj (ks:=ks)];constructor
  ·rintro (h |⟨A,e,q⟩)
   ·exact⟨T,bO,h⟩
   ·exact⟨A,bM _ e,q⟩
  ·rintro⟨A,e,q⟩
   rcases bT.1 e with rfl | e
   ·exact .inl q
   ·exact .inr ⟨A,e,q⟩
theorem yQ{f:FuncId}{w:vW}
  (h:Calls P f args w fun | .returned v,w'=>R v w' | _,_=>False) (h':Calls P f args w fun | .returned v,w'=>R' v w' | _,_=>False) (hi:P.inits.idxOf? f=none) :
  ∃ v w',R v w'/\R' v w':=by
 obtain⟨n,v,w1,e,q⟩:=h.done hi
 obtain⟨m,J,K,A,H⟩:=h'.done hi
 have a:=runN_ended e m;have b:=runN_ended A n;rw[iZ,a]at b;injection b with ho hw;injection ho with hv;subst hv hw
 exact⟨_,_,q,H⟩
theorem jup{f:FuncId}{w:vW}{a b:vV}{R R':vW->Prop}
  (h:Calls P f args w fun e w'=>e=.returned a/\R w') (h':Calls P f args w fun e w'=>e=.returned b/\R' w') (hi:P.inits.idxOf? f=none):a=b:=by
 obtain⟨v,w',A,H⟩:=yQ (R:=fun v _=>v=a) (R':=fun v _=>v=b) (h.mono fun e w' q=>by obtain⟨rfl,_⟩:=q;rfl) (h'.mono fun e w' q=>by obtain⟨rfl,_⟩:=q;rfl) hi
 exact A.symm.trans H
theorem jtd{m:Ai}(h:n.V=m.V):n=m:=by
 obtain⟨k,p,v,A⟩:=n
 obtain⟨H,Z,v',e⟩:=m
 unfold Ai.V Ai.cells at h;injection h with h;have h:=congrArg Array.toList h;simp only[List.toList_toArray,List.cons.injEq,Value.int.injEq,Value.string.injEq]at h
 obtain⟨⟨_,q⟩,J,K,O⟩:=h
 have X:A=e:=by(have:∀ a b:vM,a.map Value.string=b.map Value.string->a=b:=fun a=>by induction a with| nil=>(intro b hb;cases b with | nil=>rfl | cons x y=>cases hb)| cons x r ih =>intro b hb;cases b with| nil=>cases hb| cons y t =>simp only[bN,List.cons.injEq,Value.string.injEq]at hb;rw[hb.1,ih t hb.2]);exact this _ _ O
 have q:k=H:=vO
 subst q J K X;rfl
theorem kQ(w:vW){m:Ai}(hn:Gi (Bs f) n)(hm:Gi (Bs g) m)(h:Cr n=Cr m):n=m:=by
 have e:=Zt (Br f) w n hn;have q:=Zt (Br g) w m hm;rw[h]at e
 have:=jup e q vY
 injection this with this
 have:=congrArg Array.toList this
 simp only[List.toList_toArray,List.cons.injEq]at this;exact jtd this.1
theorem nZ{T:PT}(h:¬ T.text.size < 32):Ba T.text=Ay (Ak T.text):=by unfold Ba;rw[if_neg h]
theorem jqa{T:PT}(h:Ym f T n)(hs:T.text.size < 32):Bz T=[T.text]:=by
 have e:=h.small hs
 obtain⟨x,ks⟩:=T
 have e:ks=[]:=e;subst e;unfold Bz Ej;rfl
theorem mG{T:PT}(h:¬ T.text.size < 32):Ej (Hx T)=Bz T:=by
 unfold Hx;rw[if_neg h];simp[Ej]
theorem NY(T:PT):T.text∈Bz T:=by cases T;unfold Bz;exact bO
theorem Wi{l:vL}(h:Eu 0 l):l.length<=1:=by
 rcases fA l.length 2 with h2 | h2
 ·omega
 ·obtain⟨a,q⟩:∃ a,l[0]?=some a:=⟨_,bB vO⟩;obtain⟨b,hb⟩:∃ b,l[1]?=some b:=⟨_,bB vO⟩;have e:=Xh h.rise vO q hb;have:=(h.size b (bD hb)).1;rw[show b.l=[]from bH (by show b.1.size=0;omega)]at e;exact absurd e (not_lt_nil _)
theorem Rg{a b:vB}(h:a.data.toList=b.data.toList):a=b:=by
 obtain⟨⟨a⟩⟩:=a
 obtain⟨⟨b⟩⟩:=b
 simp only at h;subst h;rfl
def Kv(r:vB):Option vB:=(Dq r).bind (Vg r)
def Gc(n:Ai):vM:=n.refs.filterMap Kv
theorem FI:Kv ⟨#[]⟩=none:=by
 unfold Kv Dq;rw[dif_neg vI];rfl
theorem IX(hs:h.size=32):Kv (Ay h)=some h:=by
 obtain⟨r,e,q⟩:=JO h hs
 unfold Kv;rw[e];exact q
theorem DL{I:vB->Ai->Prop}(HI:Vp I){r:vB}{m:Ai}(h:I r m):Kv r=none:=by
 obtain⟨q,e,A⟩:=HI.nohash r m h
 unfold Kv;rw[e];exact A
theorem jO{T:PT}(h:Ym f T n):(Kv (Ba T.text)).toList=(Hx T).map fun k=>Ak k.text:=by
 by_cases hs:T.text.size < 32
 ·rw[DL (Br (f+1)) (h.may.2 hs)];unfold Hx;rw[if_pos hs];rfl
 ·rw[nZ hs,IX (Uj _)];unfold Hx;rw[if_neg hs];rfl
theorem FJ:(Cv k).filterMap Kv=[]:=by
 unfold Cv;rw[iQ];intro r e;rw[fP e,FI]
theorem YN{α:Type}(g:α->vB)(k:α->List PT):∀ L:List α,(∀ i∈L,(Kv (g i)).toList=(k i).map fun k=>Ak k.text)->(L.map g).filterMap Kv=(L.flatMap k).map fun k=>Ak k.text
 | [],_=>rfl
 | x :: L,h=>by
  rw[bN,dN,bW, <-YN g k L fun i e=>h i (bM _ e), <-h x bO,fQ];cases Kv (g x) <;> rfl
theorem RN(f:Nat)(l:vL)(h:Eu f l):Gc (Bm (An f) l)=(Cu (An f) l).map fun k=>Ak k.text:=by
 unfold Gc
 by_cases h0:l.length=0
 ·(have H:Bm (An f) l=Db:=by unfold Bm;rw[if_pos h0]);(have J:Cu (An f) l=[]:=by unfold Cu;rw[if_pos vO]);rw[H,J];exact FJ 16
 by_cases h1:l.length=1
 ·(have H:Bm (An f) l=⟨1,(l.getD 0 pd).1,(l.getD 0 pd).2,Cv 16⟩:=by unfold Bm;rw[if_neg h0,if_pos h1]);(have J:Cu (An f) l=[]:=by unfold Cu;rw[if_pos vO]);rw[H,J];exact FJ 16
 have h2:2<=l.length:=vO
 cases f with
 | zero=>have:=Wi h;omega
 | succ f =>by_cases hk:0 < Aj l;{have A:=Rh h h2;(have K:Eu f (Az (Aj l) l):=(Yh (Aj l) h (fun p O q hq=>(A p O).1.trans (A q hq).1.symm) (fun p O=>(A p O).2)).mono vO;have X:Az (Aj l) l≠[]:=fun e=>by have:=Jn (Aj l) l;rw[e]at this;simp at this;omega);(have Z:=(good f _ K).2.1 X;have H:Bm (An (f+1)) l=⟨2,(l.getD 0 pd).1.extract 0 (Aj l),⟨#[]⟩,Ba (An (f+1) (Az (Aj l) l)).text :: Cv 15⟩:=by unfold Bm;rw[if_neg h0,if_neg h1,if_pos hk]);(have J:Cu (An (f+1)) l=Hx (An (f+1) (Az (Aj l) l)):=by unfold Cu;rw[if_neg vO,if_pos hk]);rw[H,J, <-jO Z];show (Ba (An (f+1) (Az (Aj l) l)).text :: Cv 15).filterMap Kv=_;rw[fQ,FJ];cases Kv (Ba (An (f+1) (Az (Aj l) l)).text) <;> rfl};(have H:(Bm (An (f+1)) l).refs=(List.range 16).map fun i=>if (Ah i l).length=0 then ⟨#[]⟩else Ba (An (f+1) (Az 1 (Ah i l))).text:=by unfold Bm;rw[if_neg h0,if_neg h1,if_neg hk]);(have J:Cu (An (f+1)) l=(List.range 16).flatMap fun i=>if (Ah i l).length=0 then []else Hx (An (f+1) (Az 1 (Ah i l))):=by unfold Cu;rw[if_neg vO,if_neg hk]);rw[H,J];refine YN _ _ _ fun i hi=>?_;by_cases hc:(Ah i l).length=0;{rw[if_pos hc,if_pos hc,FI];rfl};rw[if_neg hc,if_neg hc];exact jO ((good f _ (Yn i h)).2.1 (fun e=>by have:=Jn 1 (Ah i l);rw[e]at this;simp at this;omega))
theorem jR{l:vL}(h:Eu f l){K:PT}(A:K∈Cu (An f) l):∃ g m,f=g+1/\K=An (g+1) m/\Eu g m/\32<=K.text.size:=by
 have J:∀ {T:PT},K∈Hx T->K=T/\32<=K.text.size:=fun {T} h=>by unfold Hx at h;split at h;{cases h};rw[bL]at h;subst h;exact⟨rfl,by omega⟩
 unfold Cu at A
 by_cases h1:l.length<=1
 ·rw[if_pos h1]at A;cases A
 rw[if_neg h1]at A;cases f with
 | zero=>have:=Wi h;omega
 | succ f =>by_cases hk:0 < Aj l;{rw[if_pos hk]at A;have H:=Rh h vO;have O:Eu f (Az (Aj l) l):=(Yh (Aj l) h (fun p X q hq=>(H p X).1.trans (H q hq).1.symm) (fun p X=>(H p X).2)).mono vO;obtain⟨e,Z⟩:=J A;exact⟨f,_,rfl,e,O,Z⟩};rw[if_neg hk]at A;obtain⟨i,_,A⟩:=dL.1 A;split at A;{cases A};obtain⟨e,Z⟩:=J A;exact⟨f,_,rfl,e,Yn i h,Z⟩
def Ht(t:vB)(n:Ai):Prop:=t=Cr n/\∃ g,Gi (Bs g) n
structure oX(L B:vM):Prop where
 node:∀ t∈L,∃ n,Ht t n/\∀ h∈Gc n,∃ t'∈L,h=Ak t'
 told:∀ t∈B,32<=t.size/\∃ t'∈L,∃ n,Ht t' n/\Ak t∈Gc n
theorem jz2:∀ (f:Nat) (l:vL),Eu f l->oX (Bz (An (f+1) l)) (Ej (Cu (An f) l)):=by
 intro f;induction f with
 | zero =>(intro l h;have e2:Cu (An 0) l=[]:=by have:=Wi h;unfold Cu;rw[if_pos vO]);(have eT:Bz (An (0+1) l)=[Cr (Bm (An 0) l)]:=by show Bz (.mk (Cr (Bm (An 0) l)) (Cu (An 0) l))=_;rw[Bz,e2];simp[Ej]);have hh:=RN 0 l h;rw[e2]at hh;rw[eT,e2];refine⟨fun t q=>?_,fun t q=>by simp[Ej]at q⟩;rw[bL]at q;exact⟨_,⟨q,0,(good 0 l h).1⟩,fun x X=>by rw[hh]at X;cases X⟩
 | succ f ih =>(intro l h;have eT:Bz (An (f+1+1) l)=Cr (Bm (An (f+1)) l) :: Ej (Cu (An (f+1)) l):=by show Bz (.mk (Cr (Bm (An (f+1)) l)) (Cu (An (f+1)) l))=_;rw[Bz]);(have hh:=RN (f+1) l h;have H:Ht (Cr (Bm (An (f+1)) l)) (Bm (An (f+1)) l):=⟨rfl,f+1,(good (f+1) l h).1⟩;have J:∀ {K:PT},K∈Cu (An (f+1)) l->∀ t∈Bz K,t∈Bz (An (f+1+1) l):=fun {K} A t q=>by rw[eT];exact bM _ (Zj.2 ⟨K,A,q⟩));(have O:∀ {K:PT},K∈Cu (An (f+1)) l->∃ m,K=An (f+1) m/\Eu f m/\32<=K.text.size:=fun {K} A=>by obtain⟨g,m,e,h1,h2,h3⟩:=jR h A;obtain rfl:f=g:=vO;exact⟨m,h1,h2,h3⟩);constructor;{intro t q;rw[eT]at q;rcases bT.1 q with rfl | q;{refine⟨_,H,fun x X=>?_⟩;rw[hh]at X;obtain⟨K,A,rfl⟩:=bC.1 X;exact⟨_,J A _ (NY K),rfl⟩};obtain⟨K,A,q⟩:=Zj.1 q;obtain⟨m,rfl,hm,_⟩:=O A;obtain⟨n,h1,h2⟩:=(ih m hm).node t q;exact⟨n,h1,fun x X=>by obtain⟨t',Z,e⟩:=h2 x X;exact⟨t',J A _ Z,e⟩⟩};intro t q;obtain⟨K,A,q⟩:=Zj.1 q;obtain⟨m,rfl,hm,a0⟩:=O A;(have eK:Bz (An (f+1) m)=Cr (Bm (An f) m) :: Ej (Cu (An f) m):=by show Bz (.mk (Cr (Bm (An f) m)) (Cu (An f) m))=_;rw[Bz]);rw[eK]at q;rcases bT.1 q with rfl | q;{refine⟨a0,_,?_,_,H,?_⟩;{rw[eT];exact bO};rw[hh];exact bC.2 ⟨_,A,rfl⟩};obtain⟨h1,t',Z,n,h2,h3⟩:=(ih m hm).told t q;exact⟨h1,t',J A _ Z,n,h2,h3⟩
theorem YE(l:vM):(Hb l).Nodup:=by
 unfold Hb
 have:∀ (l q:vM),q.Nodup->(l.foldl Ih q).Nodup:=fun l=>by induction l with| nil=>exact fun _ h=>h| cons x r ih =>intro q h;rw[dM];refine ih _ ?_;unfold Ih;split;{exact h};rename_i hn;have A:x ∉ q:=fun H=>hn ((FV q x).2 H);rw[dS];exact⟨h,by simp,fun a J b hb e=>by simp at hb;subst hb;subst e;exact A J⟩
 exact this l [] (by simp)
structure jzP(L:vM)(top:vB):Prop where
 head:L[0]?=some top
 nodup:L.Nodup
 node:∀ t∈L,∃ n,Ht t n/\∀ h∈Gc n,∃ t'∈L,h=Ak t'
 told:∀ (i:Nat) t,L[i+1]?=some t->32<=t.size/\∃ t'∈L,∃ n,Ht t' n/\Ak t∈Gc n
theorem XC{l:vL}(h:Dv l=0):jzP (Hb (Bz (Ds l))) (Ds l).text:=by
 have K:=jz2 12 (Em l) (Ou (Fr h));have eT:Bz (Ds l)=(Ds l).text :: Ej (Cu (An 12) (Em l)):=by show Bz (.mk (Cr (Bm (An 12) (Em l))) (Cu (An 12) (Em l)))=_;rw[Bz];rfl
 have K:oX (Bz (Ds l)) (Ej (Cu (An 12) (Em l))):=K;have A:=YE (Bz (Ds l))
 refine⟨aA _,A,fun t O=>?_,fun i t O=>?_⟩
 ·obtain⟨n,H,J⟩:=K.node t ((Rb _ _).1 O);exact⟨n,H,fun x hx=>by obtain⟨Z,q,e⟩:=J x hx;exact⟨Z,(Rb _ _).2 q,e⟩⟩
 ·have X:=(Rb _ _).1 (bD O);(have a0:t≠(Ds l).text:=fun e=>by have h0:=aA (Ds l);obtain⟨H,e1⟩:=bI.1 O;obtain⟨J,e2⟩:=bI.1 h0;exact fV.1 A 0 (i+1) J H vO (e2.trans (e.symm.trans e1.symm)));rw[eT]at X;rcases bT.1 X with e | X;{exact absurd e a0};obtain⟨H,Z,q,n,J⟩:=K.told t X;exact⟨H,Z,(Rb _ _).2 q,n,J⟩
theorem BW(w:vW){m:Ai}(h:Ht t n)(k:Ht t m):n=m:=by
 obtain⟨e,f,q⟩:=h
 obtain⟨A,g,H⟩:=k
 exact kQ w q H (e.symm.trans A)
def jzT(P:Program)(l:Nat)(args:Array vV)(W:vW)(r:Nat)(Ct:vW->Prop):Prop:=
 YieldAt Fence.wide 0 P l args W fun e W'=>e=.returned true/\Ad (fun b=>b≠r) W W'/\Ct W'
def tD(P:Program)(gf:FuncId)(lb:Array vV){σ:Type}(s0:σ)(Step:σ->Array vV->σ->Prop)(Done:σ->Prop)(S:vW->Prop):Prop:=
 ∀ (l:Nat) (C:σ->vW->Prop) (W:vW),(∀ s W1 W2,C s W1->Ad (fun b=>b=W.heap.size) W1 W2->C s W2)->(∀ s W1,C s W1->S W1) ->
  (∀ s v s' W1,Step s v s'->C s W1->W.heap.size < W1.heap.size->jzT P l v W1 W (C s'))->C s0 W ->
   CallsIn Fence.wide 0 P gf (#[.func (.yield l) #[] #[]]++lb) W (fun e W'=>(∃ v,e=.returned v)/\∃ s,Done s/\C s W')
def jzK(g:Nat)(W:vW)(Ct:vW->Prop):Exit->Act->vW->Prop
 | .normal,_,W'=>Ad (fun b=>b≠g/\b≠g+1/\b≠g+2) W W'/\Ct W'
 | _,_,_=>False
theorem jua{g:Operand}{ps:Array Tmp}{w:vW}
  {gf:Nat}  (hg:a.eval g=.func (.func gf) #[] lb) (eg:∀ args w,(callFunc gf args).run P w=.ok (.enter gf args) w)
  {σ:Type} {s0:σ} {Step:σ->Array vV->σ->Prop} {Done:σ->Prop} {S:vW->Prop} (IS:tD P gf lb s0 Step Done S)
  (hps:∀ s v q,Step s v q->v.size=ps.size)
  (C:σ->vW->Prop) (hC:∀ s W W',C s W->Ad (fun b=>b=w.heap.size\/b=w.heap.size+1\/b=w.heap.size+2) W W'->C s W') (hS:∀ s W,C s W->S W)
  (h0:C s0 w) (a₁:Array vV->Act)
  (hassign:∀ (l:Nat) (v:Array vV) (s q:σ) (W:vW) (K:Act->vW->Prop),Step s v q->K (a₁ v) W ->
   assign.wpIn (Fence.wide.inRound l) 0 P (Exit.then K (fun _ _ _=>False)) { tmps:=(ps.zip v).foldl (fun t (p,v)=>t.setIfInBounds p v) a.tmps,defers:=[] } W)
  (hbody:∀ (l:Nat) (v:Array vV) (s q:σ) (W:vW),Step s v q->C s W->w.heap.size+2 < W.heap.size->body.wpIn (Fence.wide.inRound l) 0 P (jzK w W (C q)) (a₁ v) W)
  (hdone:∀ (s:σ) (W:vW),Done s->C s W->Ae W w (.deferred (some []))->Q .normal { a with defers:={ target:=.collected w,args:=#[] } :: a.defers } W) :
  (Code.rangeFunc g ps assign body).wpIn Fence.wide 0 P Q a w:=by
 refine SI hg eg fun O W1 X a1 A a2=>?_;refine CallsIn.mono (IS (w.heap.size+1) (fun s W=>C s W/\Lv O w .ready none W) W1 (fun s Wa Wb ⟨Z,J⟩ e=>⟨hC s _ _ Z (e.mono (fun b _ h=>by rw[A]at h;exact .inr (.inr h))),J.keeps e (by rw[A];omega) (by rw[A];omega)⟩) (fun s W h=>hS s W h.1) ?_ ⟨hC s0 _ _ h0 (a1.mono kZ),a2⟩) ?_
 ·rintro s v q W H ⟨Z,J⟩ a0;rw[A]at a0;have kb:=fun o=>Ad.onePut W (w.heap.size+1) o;refine SJ X J (hps s v q H) (hassign _ v s q W _ H ⟨J,Code.wpIn_mono ?_ (hbody _ v s q _ H (hC s _ _ Z ((kb _).mono (fun b _ h=>.inr (.inl h)))) (by rw[World.putObj_size];exact a0))⟩);intro e a' W' hq;cases e with| normal =>have k1:=(kb (.loop (O .busy none))).mono (G:=fun b=>b≠W1.heap.size) (fun b _ h=>by have h:b=w.heap.size+1:=h;omega);refine⟨none,rfl,hq.1.mono fun b _ h=>⟨h.1,h.2.1⟩,fun hb=>⟨rfl,(k1.trans (hq.1.mono (fun b _ h=>by rw[A];exact h.2.2))).trans ((Ad.onePut _ _ _).mono (fun b _ h=>by have h:b=w.heap.size+1:=h;omega)),hC q _ _ hq.2 ((Ad.onePut _ _ _).mono (fun b _ h=>.inr (.inl h))),hb⟩⟩| _=>exact hq.elim
 ·rintro e W' ⟨hv,s,hd,Z,J⟩;exact⟨hv,.inl ⟨J,fun o hb=>hdone s _ hd (hC s _ _ Z ((Ad.onePut _ _ _).mono (fun b _ h=>.inr (.inl h)))) hb⟩⟩
section
attribute [local go_sem] Oper.semAt_some
abbrev Ea:=Ce (vN)
theorem Et:Tryz.prog.underlying 101=some (.map 9 49):=vY
def Uq(s:List Ea):Array Nat:=(s.map (·.2.2)).toArray
def tE(es:List Ea)(s:List Ea)(v:Array vV)(s':List Ea):Prop:=∃ x∈Fl es (Uq s),v=#[LL x.1]/\s'=s++[x]
def GR(es:List Ea)(s:List Ea):Prop:=Fl es (Uq s)=[]
def WO(w:vW)(r:Nat):Array Nat:=match w.heap[r]? with | some (.mapIter _ _ s _)=>s | _=>#[]
theorem aO{w:vW}{m:Option Nat}{a:Nat}{s:Array Nat}(h:Ae w r (.mapIter m a s b)):WO w r=s:=by
 unfold WO;rw[show w.heap[r]?=_ from h]
theorem jyf{es:List Ea}{s:List Ea}{x:Ea}(hx:x∈Fl es (Uq s)):(Fl es (Uq (s++[x]))).length < (Fl es (Uq s)).length:=by
 have e:Fl es (Uq (s++[x]))=(Fl es (Uq s)).filter (fun y => !(y.2.2 == x.2.2)):=by unfold Fl Uq;rw[List.filter_filter];refine iU (fun y _=>?_);simp only[List.contains_toArray,bW,bN,fX,List.contains_append];by_cases h1:y.2.2=x.2.2 <;> simp[h1]
 rw[e,jC]
 exact⟨x,hx,by simp⟩
def LP(bx bm ck:Nat)(es:List Ea)(W:vW):Prop:=Ae W bx (.cells #[.map (some bm)] 101)/\Ae W bm (.map (Al.arr es) ck)
def yE(r bm ck:Nat)(es:List Ea)(C:List Ea->vW->Prop)(wr:vW):Prop:=∃ s,C s wr/\Ae wr r (.mapIter (some bm) ck (Uq s) ck)
theorem jyb(bx bm ck:Nat)(es:List Ea)(hnd:(es.map (·.2.2)).Nodup)(hlt:∀ x∈es,x.2.2 < ck):tD Tryz.prog 88 #[bx] ([]:List Ea) (tE es) (GR es) (LP bx bm ck es):=by
 intro l C W hC hS hY h0
 obtain⟨O,A⟩:=hS _ _ h0
 have c1:=O.cell (i:=0) (v:=.map (some bm)) vF;have X:=TU Al Et A;have H:=Hd (show C [] (W.alloc (.mapIter (some bm) ck #[] ck))from hC [] _ _ h0 (((Aa W).alloc _).mono kZ));have HC:=Hd hC;have HS:=Hd hS;have HY:=Hd hY;have J:=Hd hnd;have K:=Hd hlt;clear hC hS hY h0 O A hnd hlt;refine callsIn_of_wp Tryz.func88 rfl trivial ?_ rfl;simp only[Tryz.ntmps88,cQ,bS,cY,Nat.reduceAdd,Nat.reduceSub,cT,cS,dC,cW,cL,cR];gi_wp2_with fail
 obtain⟨r,hr⟩:=vE W.heap.size
 have HR:=Hd hr;rw[<-hr];clear hr;gi_loopw [] (fun wr=>yE r bm ck es C wr) (fun wr=>(Fl es (WO wr r)).length)
 case atStart=>exact⟨[],H.o,by rw[HR.o];exact Ae.new W _⟩
 case round =>obtain⟨s,q,Z⟩:=hrel;obtain⟨O,A⟩:=HS.o _ _ q;rcases UW Al A Z K.o 0 with⟨hl0,hnx⟩ |⟨x,hxl,w2,hnx,hr2,hk2⟩;{have b0:Hid (GR es s):=hl0;(have b1:=Hd q;clear hl0 q O A Z HC HS HY J K H c1 X;gi_wp2_with fail);refine bodyPost_end (results_none rfl _ _ _) rfl ?_;exact⟨⟨_,rfl⟩,s,b0.o,b1.o⟩};(have a1:r≠bm:=fun e=>by have:=A.uniq (e ▸ Z);cases this);have a2:=A.keeps hk2 (fun e=>a1 e.symm);have a3:x∈es:=(cG.1 hxl).1;have b2:=TH Al a2 a3 hr2 J.o;have a4:C s w2:=HC.o s _ _ q (hk2.mono (fun b _ e=>by rw[<-HR.o];exact e));obtain⟨fn,tm,b3,bd,a5,a7⟩:=HY.o s #[LL x.1] (s++[x]) w2 ⟨x,hxl,rfl,rfl⟩ a4 (by rw[<-HR.o];exact hr2.lt);(have a0:(Instr.yield l #[Al.κ x.1]).run Tryz.prog w2=.ok (.round l fn tm b3 bd) w2:=a5;have b4:=Hd hxl;have b5:=Hd (aO Z);have a8:(Uq s).push x.2.2=Uq (s++[x]):=by unfold Uq;simp);(rw[a8]at hr2;have b6:=Hd hr2;have b7:=Hd a7;clear a5 a4 q O A Z HC HS J K H c1 X a2 hk2 hxl a3 hr2 a7 a8 a1;gi_wp2_with fail);refine⟨rfl,b7.o.mono ?_⟩;(rintro e w5 ⟨rfl,k5,C5⟩;have a9:=Hd (b6.o.keeps k5 (fun h=>h HR.o));have b8:=Hd C5;clear C5 k5 hnx b2 a0;gi_wp2_with fail);go_roundw;(case rel=>exact⟨_,b8.o,a9.o⟩);case measure =>rw[aO a9.o,b5.o];exact jyf b4.o
end
