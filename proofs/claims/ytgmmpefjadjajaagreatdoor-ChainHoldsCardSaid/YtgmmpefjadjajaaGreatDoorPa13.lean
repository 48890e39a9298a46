/- Lemmas. -/
import Derived.Test.YtgmmpefjadjajaaGreatDoorPa0
import Derived.Test.YtgmmpefjadjajaaGreatDoorPa12
import Derived.Laws.Cover1
namespace Go.Proofs.YtgmmpefjadjajaaGreatDoor
open Go.Proofs.Tryz
set_option linter.unusedSimpArgs false
set_option linter.unusedVariables false
set_option maxRecDepth 100000
set_option maxHeartbeats 16000000
open Go Go.RowKit
variable (acc:vM)(w:vW)(x y:vB)(gi i k:Nat){a:Act}{args vs lb:Array vV}{assign body:Code}{Q:Exit->Act->vW->Prop}{bs:List Nat}{b f r sz m p g bx o:Nat}{A A':Nat->Prop}{P:Program}{n:Ai}{t h s:vB}{L:vM}{v u u':vV}{R R':vV->vW->Prop}{W w' w0 W' w1 w2:vW}
abbrev Ay:=vB × vB
abbrev vL:=List Ay
def Vv(k:vB):Bool:=decide (0<k.size/\k.size<=6)
def Xt(k:vB):Bool:=decide (0<k.size/\k.size<=80)
theorem Ov(h:s.size=0):s=⟨#[]⟩:=by
 obtain⟨⟨l⟩⟩:=s
 cases l with
 |nil=>rfl
 |cons x y=>exact absurd h (iM _)
theorem IA(k:vB)(hs:k.size<=9223372036854775807):vQ 66 #[k] w λe w'=>e=.returned (Vv k)/\w'=w:=by
 by_cases h0:k.size=0
 ·have:=Ov h0;(subst this;unfold vQ;go_in;go_wp2);go_ret;exact⟨rfl,rfl⟩
 ·have q:=Sf (s:=k) vO;by_cases h6:k.size<=6;{have c:(k.size:Int)<=6:=vO;(have e:Vv k=true:=by unfold Vv;simp;omega);(have E:=J e;clear e;unfold vQ;go_in;go_wp2);go_ret;exact⟨by rw[E.o];rfl,rfl⟩};have c:¬(k.size:Int)<=6:=vO;(have e:Vv k=false:=by unfold Vv;simp;omega);(have E:=J e;clear e;unfold vQ;go_in;go_wp2);go_ret;exact⟨by rw[E.o];rfl,rfl⟩
theorem KQ(k:vB)(hs:k.size<=9223372036854775807):vQ 67 #[k] w λe w'=>e=.returned (Xt k)/\w'=w:=by
 by_cases h0:k.size=0
 ·have:=Ov h0;(subst this;unfold vQ;go_in;go_wp2);go_ret;exact⟨rfl,rfl⟩
 ·have q:=Sf (s:=k) vO;by_cases h6:k.size<=80;{have c:(k.size:Int)<=80:=vO;(have e:Xt k=true:=by unfold Xt;simp;omega);(have E:=J e;clear e;unfold vQ;go_in;go_wp2);go_ret;exact⟨by rw[E.o];rfl,rfl⟩};have c:¬(k.size:Int)<=80:=vO;(have e:Xt k=false:=by unfold Xt;simp;omega);(have E:=J e;clear e;unfold vQ;go_in;go_wp2);go_ret;exact⟨by rw[E.o];rfl,rfl⟩
def Jv(w:vW)(v:vV)(xs:vL):Prop:=
 (∃ a c,v=.slice a 0 c/\xs=[])\/∃ b o c,v=.slice (some ⟨b,o,none⟩) xs.length c/\b<(w:Nat)/\xs.length<=c/\∀ (j:Nat) x,xs[j]?=some x->w.cell? ⟨b,o+j*2,none⟩=some (.string x.1)/\w.cell? ⟨b,o+j*2+1,none⟩=some (.string x.2)
theorem Jv.ext{w:vW}{xs:vL}(h:Jv w v xs)(k:Af w w'):Jv w' v xs:=by
 rcases h with h|⟨b,o,c,h1,h2,h3,h4⟩
 ·exact .inl h
 ·exact .inr ⟨b,o,c,h1,bE h2 k.size,h3,λj x e=>⟨Am (h4 j x e).1 k,Am (h4 j x e).2 k⟩⟩
theorem Jv.sl{w:vW}{xs:vL}(h:Jv w v xs):∃ a c,v=.slice a xs.length c:=by
 rcases h with⟨a,c,h1,h2⟩|⟨b,o,c,h1,_⟩
 ·exact⟨a,c,by rw[h1,h2];rfl⟩
 ·exact⟨_,c,h1⟩
def Ay.V(p:Ay):vV:=.agg #[p.1,p.2]
def Kz(l:vL)(i:Nat):Bool := !Vv (l.getD i (⟨#[]⟩,⟨#[]⟩)).1 || !Xt (l.getD i (⟨#[]⟩,⟨#[]⟩)).2 ||(decide (0<i)&&!Qf (l.getD (i-1) (⟨#[]⟩,⟨#[]⟩)).1 (l.getD i (⟨#[]⟩,⟨#[]⟩)).1)
def Em(l:vL):Int:=if (List.range l.length).any (Kz l)then 1 else if 40<l.length then 12 else 0
def jzG(w:vW)(l:vL)(i:vV)(wr:vW):Prop:=∃ k:Nat,k<=l.length/\i=.int .i64 k/\Af w wr/\(List.range k).any (Kz l)=false
theorem GZ(v:vV)(l:vL)(hv:Jv w v l)(hn:l.length<=9223372036854775807)(hs:∀ p∈l,p.1.size<=9223372036854775807/\p.2.size<=9223372036854775807):vR 65 #[v] w (.int .i64 (Em l)):=by
 obtain⟨a,c,b5⟩:=hv.sl
 have HV:=J hv;have HS:=J hs;subst b5;clear hv hs;unfold vR vQ;go_in;go_wp2
 go_loopw [7] (λi wr=>jzG w l i wr) (λi _=>l.length-(intOf i).toNat)
 case atStart=>exact⟨0,by omega,rfl,Aa w,rfl⟩
 case round =>obtain⟨k,hk,rfl,hE,a9⟩:=hrel;have HE:=J hE;have a3:=J a9;clear hE a9;by_cases hlt:k<l.length;{rcases HV.o with⟨_,_,_,h0⟩|⟨b,o,c',hh,hb,hc,hcell⟩;{rw[h0]at hlt;cases hlt};cases hh;obtain⟨p,hp⟩:∃ p,l[k]?=some p:=⟨_,bB hlt⟩;obtain⟨q1,q2⟩:=hcell k p hp;have q1:=Am q1 HE.o;have q2:=Am q2 HE.o;have b1:(k:Int)<(l.length:Int):=vO;obtain⟨x,y⟩:=p;(simp only at q1 q2;have O:l.getD k (⟨#[]⟩,⟨#[]⟩)=(x,y):=by rw[bL,hp];rfl);(have a2:=HS.o (x,y) (bD hp);have a8:=J a2.1;have b0:=J a2.2;have a4:(wr.alloc (.cells #[x,y] 49)).cell? wr=some (.string x):=(Ae.new wr _).cell vF;have a5:(wr.alloc (.cells #[x,y] 49)).cell? ⟨↑wr,1,none⟩=some (.string y):=(Ae.new wr _).cell vF;have Q0:=J a4;have Q1:=J a5;have A:Kz l k=true->Em l=1:=λh=>by unfold Em;rw[if_pos (iN.2 ⟨k,dY.2 hlt,h⟩)]);(have H:Kz l k=false->(List.range (k+1)).any (Kz l)=false:=λh=>by rw[gM,List.any_append,a3.o];simp[h]);cases hk1:Vv x with| false =>(have a0:=J (A (by unfold Kz;rw[O,hk1];rfl));have HK:=J hk1;clear hk1 O a2 a4 a5 A H hcell hp;go_wp2_with fail);refine Hs (List.range 25) Af Aa Ap vY vY vY ?_;simp only[List.range,List.range.loop];refine vK ?_;(refine Db wr _ rfl (λX q=>Bv Ag rfl (Am (by exact Q0.o) q)) (vS ?_);refine Ma _ 66 #[x] false rfl (λw1=>Fb (vX 66) vY) (λw1 K=>(IA w1 x (kL a8.o)).mono λe X ⟨K,q⟩=>⟨by rw[K,HK.o],q ▸ Aa w1⟩) (vS ?_);iterate 2 refine vK ?_);(iterate 4 (refine Xh _ rfl (vS ?_)));(iterate 2 refine vK ?_);(iterate 3 (refine Xh _ rfl (vS ?_)));(iterate 9 (refine Xh _ rfl (vS ?_)));(refine Xh _ rfl (vS ?_));refine vK ?_;(refine Hi (λw3 he=>?_);have Z:=J (((HE.o.alloc _).trans (Ao _)).trans he);clear he;go_wp2);go_ret;exact⟨by rw[a0.o];rfl,Z.o⟩| true =>cases hv1:Xt y with| false =>(have a0:=J (A (by unfold Kz;rw[O,hk1,hv1];rfl));have HK:=J hk1;have a7:=J hv1;clear hk1 hv1 O a2 a4 a5 A H hcell hp;go_wp2_with fail);refine Hs (List.range 25) Af Aa Ap vY vY vY ?_;simp only[List.range,List.range.loop];refine vK ?_;(refine Db wr _ rfl (λX q=>Bv Ag rfl (Am (by exact Q0.o) q)) (vS ?_);refine Ma _ 66 #[x] true rfl (λw1=>Fb (vX 66) vY) (λw1 K=>(IA w1 x (kL a8.o)).mono λe X ⟨K,q⟩=>⟨by rw[K,HK.o],q ▸ Aa w1⟩) (vS ?_);iterate 3 refine vK ?_);(refine Db ⟨↑wr,1,none⟩ _ rfl (λX q=>Bv Ag rfl (Am (by exact Q1.o) q)) (vS ?_);refine Ma _ 67 #[y] false rfl (λw1=>Fb (vX 67) vY) (λw1 K=>(KQ w1 y (kL b0.o)).mono λe X ⟨K,q⟩=>⟨by rw[K,a7.o],q ▸ Aa w1⟩) (vS ?_);iterate 3 refine vK ?_);(iterate 3 (refine Xh _ rfl (vS ?_)));(iterate 9 (refine Xh _ rfl (vS ?_)));(refine Xh _ rfl (vS ?_));refine vK ?_;(refine Hi (λw3 he=>?_);have Z:=J (((HE.o.alloc _).trans (Ao _)).trans he);clear he;go_wp2);go_ret;exact⟨by rw[a0.o];rfl,Z.o⟩| true =>by_cases hk0:k=0;{have a1:=J (H (by unfold Kz;rw[O,hk1,hv1,hk0];rfl));(subst hk0;rw[iS,gJ]at q1 q2;have HK:=J hk1;have a7:=J hv1;clear hk1 hv1 O a2 a4 a5 A H hcell hp;go_wp2_with fail);refine Hs (List.range 25) Af Aa Ap vY vY vY ?_;simp only[List.range,List.range.loop];refine vK ?_;(refine Db wr _ rfl (λX q=>Bv Ag rfl (Am (by exact Q0.o) q)) (vS ?_);refine Ma _ 66 #[x] true rfl (λw1=>Fb (vX 66) vY) (λw1 K=>(IA w1 x (kL a8.o)).mono λe X ⟨K,q⟩=>⟨by rw[K,HK.o],q ▸ Aa w1⟩) (vS ?_);iterate 3 refine vK ?_);(refine Db ⟨↑wr,1,none⟩ _ rfl (λX q=>Bv Ag rfl (Am (by exact Q1.o) q)) (vS ?_);refine Ma _ 67 #[y] true rfl (λw1=>Fb (vX 67) vY) (λw1 K=>(KQ w1 y (kL b0.o)).mono λe X ⟨K,q⟩=>⟨by rw[K,a7.o],q ▸ Aa w1⟩) (vS ?_);iterate 6 refine vK ?_);(iterate 9 (refine Xh _ rfl (vS ?_)));(iterate 2 refine vK ?_);(refine Hi (λw3 he=>?_);have Z:=J (((HE.o.alloc _).trans (Ao _)).trans he);clear he;go_wp2);go_roundw;(case rel=>exact⟨0+1,by omega,by go_num,Z.o,a1.o⟩);case measure=>exact vJ};obtain⟨pp,b2⟩:∃ p,l[k-1]?=some p:=⟨_,bB vO⟩;obtain⟨z,zy⟩:=pp;(have b4:=Am (Am (hcell (k-1) (z,zy) b2).1 HE.o) ((Aa wr).alloc (.cells #[x,y] 49));have QP:=J b4;have b3:l.getD (k-1) (⟨#[]⟩,⟨#[]⟩)=(z,zy):=by rw[bL,b2];rfl);have c0:(0:Int)<(k:Int):=vO;have d0:0<k:=vO;have c3:((k:Int)-1).toNat=k-1:=vO;have HK:=J hk1;have a7:=J hv1;cases hls:Op.bytesLess z.toList x.toList with| false =>(have a0:=J (A (by unfold Kz Qf;rw[O,hk1,hv1,b3];simp only;rw[hls];simp;omega));clear hk1 hv1 O a2 a4 a5 A H hcell hp hk0 b2 b4 b3;go_wp2_with fail);refine Hs (List.range 25) Af Aa Ap vY vY vY ?_;simp only[List.range,List.range.loop];refine vK ?_;(refine Db wr _ rfl (λX q=>Bv Ag rfl (Am (by exact Q0.o) q)) (vS ?_);refine Ma _ 66 #[x] true rfl (λw1=>Fb (vX 66) vY) (λw1 K=>(IA w1 x (kL a8.o)).mono λe X ⟨K,q⟩=>⟨by rw[K,HK.o],q ▸ Aa w1⟩) (vS ?_);iterate 3 refine vK ?_);(refine Db ⟨↑wr,1,none⟩ _ rfl (λX q=>Bv Ag rfl (Am (by exact Q1.o) q)) (vS ?_);refine Ma _ 67 #[y] true rfl (λw1=>Fb (vX 67) vY) (λw1 K=>(KQ w1 y (kL b0.o)).mono λe X ⟨K,q⟩=>⟨by rw[K,a7.o],q ▸ Aa w1⟩) (vS ?_);iterate 11 refine vK ?_);refine Db ⟨b,o+(k-1)*2,none⟩ _ rfl (λX q=>Bv Ag rfl (Am (by exact QP.o) q)) (vS ?_);refine vK ?_;(refine Db wr _ rfl (λX q=>Bv Ag rfl (Am (by exact Q0.o) q)) (vS ?_);iterate 3 refine vK ?_);(refine Hi (λw3 he=>?_);have Z:=J (((HE.o.alloc _).trans (Ao _)).trans he);clear he;go_wp2);go_ret;exact⟨by rw[a0.o];rfl,Z.o⟩| true =>(have a1:=J (H (by unfold Kz Qf;rw[O,hk1,hv1,b3];simp only;rw[hls];simp));clear hk1 hv1 O a2 a4 a5 A H hcell hp hk0 b2 b4 b3;go_wp2_with fail);refine Hs (List.range 25) Af Aa Ap vY vY vY ?_;simp only[List.range,List.range.loop];refine vK ?_;(refine Db wr _ rfl (λX q=>Bv Ag rfl (Am (by exact Q0.o) q)) (vS ?_);refine Ma _ 66 #[x] true rfl (λw1=>Fb (vX 66) vY) (λw1 K=>(IA w1 x (kL a8.o)).mono λe X ⟨K,q⟩=>⟨by rw[K,HK.o],q ▸ Aa w1⟩) (vS ?_);iterate 3 refine vK ?_);(refine Db ⟨↑wr,1,none⟩ _ rfl (λX q=>Bv Ag rfl (Am (by exact Q1.o) q)) (vS ?_);refine Ma _ 67 #[y] true rfl (λw1=>Fb (vX 67) vY) (λw1 K=>(KQ w1 y (kL b0.o)).mono λe X ⟨K,q⟩=>⟨by rw[K,a7.o],q ▸ Aa w1⟩) (vS ?_);iterate 11 refine vK ?_);refine Db ⟨b,o+(k-1)*2,none⟩ _ rfl (λX q=>Bv Ag rfl (Am (by exact QP.o) q)) (vS ?_);refine vK ?_;(refine Db wr _ rfl (λX q=>Bv Ag rfl (Am (by exact Q0.o) q)) (vS ?_);iterate 3 refine vK ?_);(refine Hi (λw3 he=>?_);have Z:=J (((HE.o.alloc _).trans (Ao _)).trans he);clear he;go_wp2);go_roundw;(case rel=>exact⟨k+1,by omega,by go_num,Z.o,a1.o⟩);case measure=>exact vJ};have b6:k=l.length:=vO;subst b6;by_cases h40:40<l.length;{have c4:(40:Int)<(l.length:Int):=vO;(have e:Em l=12:=by unfold Em;rw[if_neg (by rw[a3.o];simp),if_pos h40]);(have E:=J e;clear e;go_wp2);go_ret;exact⟨by rw[E.o];rfl,HE.o⟩};have c4:¬(40:Int)<(l.length:Int):=vO;(have e:Em l=0:=by unfold Em;rw[if_neg (by rw[a3.o];simp),if_neg h40]);(have E:=J e;clear e;go_wp2);go_ret;exact⟨by rw[E.o];rfl,HE.o⟩
section
section mixd
variable {P:Program} {l:List Oper} {E D:vW->vW->Prop}
def Sg(P:Program)(ops:Array Oper)(E D:vW->vW->Prop)(w:vW)(o:Oper)(v:vV)(a:Act):Prop:=
 (Region.wanted o (yielded ops a.tmps)=true/\∀ w1,D w w1->FD P E w1 v ((execOp a.eval o).run P w1))\/(Region.wanted o (yielded ops a.tmps)=false/\v=undef)
theorem Sg.of_same{ops:Array Oper}{w:vW}{o:Oper}{v:vV}{a a':Act}(hy:Sg P ops E D w o v a)(he:execOp a'.eval o=execOp a.eval o)
  (hw:Region.wanted o (yielded ops a'.tmps)=Region.wanted o (yielded ops a.tmps)):Sg P ops E D w o v a':=by
 unfold Sg at *;rw[he,hw];exact hy
theorem Sg.st(hT:∀ x y z,D x y->D y z->D x z){ops:Array Oper}{w w1:vW}{o:Oper}{v:vV}{a:Act}(hy:Sg P ops E D w o v a)(h:D w w1):Sg P ops E D w1 o v a:=
 hy.imp (λ⟨e,q⟩=>⟨e,λA H=>q A (hT _ _ _ h H)⟩) id
theorem Sg.wpOp{ops:Array Oper}{i:Nat}{o:Oper}{v:vV}{a:Act}{w:vW}(hi:ops[i]?=some o)(hy:Sg P ops E D w o v a){K:Act->vW->Prop}{w1:vW}(H:D w w1)(hE:∀ w,E w w)
  (h:∀ w',E w1 w'->K (a.put o.dst v) w'):wpOp P ops Mv i K a w1:=by
 unfold Go.wpOp;simp only[hi];rcases hy with⟨hw,hv⟩|⟨hw,rfl⟩
 ·simp only[hw,if_true];refine .inl ?_;have q:=hv w1 H;unfold Oper.wp;generalize (execOp a.eval o).run P w1=r at *;cases r with| ok n w' =>(cases n<;>simp only[FD]at q<;>simp only[Oper.upon]);(case value u=>obtain⟨A,O⟩:=q;rw[A,O];exact h _ (hE w1));(case skip=>obtain⟨A,O⟩:=q;rw[A, <-O];exact h _ (hE w1));case enter f args =>obtain⟨A,X⟩:=q;rw[A];exact X.mono λe Z ⟨he,H⟩=>by subst he;exact h _ H| halt x w'=>simp only[FD]at q
 ·simp only[hw,cH,if_false];exact h _ (hE w1)
def Tg(P:Program)(ops:Array Oper)(hd:List Nat)(E D:vW->vW->Prop)(Q:Act->vW->Prop):Nat->Array Bool->Act->vW->Prop
 |0,listed,a,w=>∀ w1,E w w1->Region.ready .any ops listed=[]/\Q a w1
 |fuel+1,listed,a,w=>∀ w1,E w w1 ->
  (Region.ready .any ops listed=[]->Q a w1) /\
  ∀ i∈Region.ready .any ops listed,wpOp P ops Mv i (λa' w'=>D w1 w'/\(i ∉ hd->E w1 w')/\Tg P ops hd E D Q fuel (listed.setIfInBounds i true) a' w') a w1
theorem pU(hT:∀ x y z,E x y->E y z->E x z){ops:Array Oper}{hd:List Nat}{Q:Act->vW->Prop}:∀ (fuel:Nat) (listed:Array Bool) (a:Act) (w w1:vW),Tg P ops hd E D Q fuel listed a w->E w w1->Tg P ops hd E D Q fuel listed a w1
 |0,_,_,_,_,h,he=>λe q=>h e (hT _ _ _ he q)
 |_+1,_,_,_,_,h,he=>λe q=>h e (hT _ _ _ he q)
theorem SN(hE:∀ w,E w w){ops:Array Oper}{hd:List Nat}{Q:Act->vW->Prop}{Q':Exit->Act->vW->Prop}(hQ:∀ a w,Q a w->Q' .normal a w):∀ (fuel:Nat) (listed:Array Bool) (a:Act) (w:vW),Tg P ops hd E D Q fuel listed a w->wpAny P .any ops Q' fuel listed a w
 |0,_,_,w,h=>let ⟨h1,h2⟩:=h w (hE w);⟨h1,hQ _ _ h2⟩
 |fuel+1,_,_,w,h=>let ⟨h1,h2⟩:=h w (hE w)
  ⟨λe=>hQ _ _ (h1 e),λi q=>OS (λA w' ⟨_,_,H⟩=>SN hE hQ fuel _ A w' H) (h2 i q)⟩
theorem eR(hE:∀ w,E w w)(hT:∀ x y z,E x y->E y z->E x z)(hD:∀ x y z,D x y->D y z->D x z)(hED:∀ x y,E x y->D x y){ops:Array Oper}{hd:List Nat}{Q:Act->vW->Prop}{i:Nat}{oi:Oper}{v:vV}(hi:ops[i]?=some oi)(hsel:∀ (j:Nat) (o:Oper) cs b,ops[j]?=some o->o.op≠.select cs b):∀ (A:Nat) (q:Array Bool) (a:Act) (w:vW),
   (∀ j oj,ops[j]?=some oj->j≠i->q.getD j true=false->(∀ e∈oj.after,Region.binds .any e=true->e.on≠i)->oi.apart ops oj=true) ->
   i∈Region.ready .any ops q->Sg P ops E D w oi v a ->
   Tg P ops hd E D Q A (q.setIfInBounds i true) (a.put oi.dst v) w->Tg P ops hd E D Q (A+1) q a w:=by
 intro A;induction A with
 |zero =>intro q a w _ hr hy H w1 X;refine⟨λh=>(by rw[h]at hr;cases hr),λj hj=>?_⟩;by_cases hji:j=i;{subst hji;exact hy.wpOp hi (hED _ _ X) hE (λw' K=>⟨hED _ _ K,λ_=>K,pU hT _ _ _ _ _ H (hT _ _ _ X K)⟩)};have:=ready_mono hj hji;rw[(H w1 X).1]at this;cases this
 |succ A ih =>intro q a w O hr hy H w1 X;refine⟨λh=>(by rw[h]at hr;cases hr),λj hj=>?_⟩;by_cases hji:j=i;{subst hji;exact hy.wpOp hi (hED _ _ X) hE (λw' K=>⟨hED _ _ K,λ_=>K,pU hT _ _ _ _ _ H (hT _ _ _ X K)⟩)};have K:=(H w1 X).2 j (ready_mono hj hji);obtain⟨a0,oj,a3,a4⟩:=mem_ready.1 hj;(have a5:∀ e∈oj.after,Region.binds .any e=true->e.on≠i:=λe X hb a8=>by have K:=a4 e X hb;have h0:=(mem_ready.1 hr).1;rw[a8]at K;rcases fH i q.size with h'|h';{simp[h']at h0 K;rw[h0]at K;cases K};simp[gL h']at K);have h2:=KB (v:=v) (Y:=λa'=>execOp a'.eval oi=execOp a.eval oi/\Region.wanted oi (yielded ops a'.tmps)=Region.wanted oi (yielded ops a.tmps)) a3 (O j oj a3 hji a0 a5) (λcs b=>hsel i oi cs b hi) (λcs b=>hsel j oj cs b a3) (λa1 a2 h e1 e2=>⟨e1.trans h.1,e2.trans h.2⟩) ⟨rfl,rfl⟩ K;(have Z:∀ k ok,ops[k]?=some ok->k≠i->(q.setIfInBounds j true).getD k true=false ->(∀ e∈ok.after,Region.binds .any e=true->e.on≠i)->oi.apart ops ok=true:=λk ok hk a9 a7 b0=>by refine O k ok hk a9 ?_ b0;by_cases hjk:j=k;{subst hjk;exact a0};rw[getD_set_ne true hjk]at a7;exact a7);refine wpOp_mono (λa' w' h3=>⟨h3.2.1,h3.2.2.1,?_⟩) h2;obtain⟨⟨e1,e2⟩,h4,_,h5⟩:=h3;have b1:Sg P ops E D w' oi v a':=(hy.of_same e1 e2).st hD (hD _ _ _ (hED _ _ X) h4);refine ih (q.setIfInBounds j true) a' w' Z (ready_mono hr (Ne.symm hji)) b1 ?_;rw[iA _ _ hji];exact h5
def Gv(P:Program)(l:List Oper)(hd:List Nat)(E D:vW->vW->Prop)(Q:Act->vW->Prop):List Nat->List Nat->Act->vW->Prop
 |[],done,a,w=>∀ w1,E w w1->Region.ready .any l.toArray (Ec l done)=[]/\Q a w1
 |k::ord,done,a,w =>
  (k∈Region.ready .any l.toArray (Ec l done)/\Region.free .any l.toArray (Ec l done) k=true/\∃ o v,l[k]?=some o/\Sg P l.toArray E D w o v a/\Gv P l hd E D Q ord (k::done) (a.put o.dst v) w) \/
  (Region.ready .any l.toArray (Ec l done)=[k]/\k∈hd/\∀ w1,E w w1->wpOp P l.toArray Mv k (λa' w'=>D w1 w'/\Gv P l hd E D Q ord (k::done) a' w') a w1)
theorem SR(hE:∀ w,E w w)(hT:∀ x y z,E x y->E y z->E x z)(hD:∀ x y z,D x y->D y z->D x z)(hED:∀ x y,E x y->D x y)(hs:Region.noSelect l.toArray=true){hd:List Nat}{Q:Act->vW->Prop}:∀ (ord:List Nat) (done:List Nat) (a:Act) (w:vW),
  Gv P l hd E D Q ord done a w->Tg P l.toArray hd E D Q ord.length (Ec l done) a w
 |[],_,_,_,h=>h
 |k::ord,done,a,w,h=>by
  rcases h with⟨hr,hf,o,v,ho,hy,h⟩|⟨hr,hk,h⟩
  ·have e:l.toArray[k]?=some o:=by simpa using ho
   exact eR hE hT hD hED e (gQ hs) ord.length (Ec l done) a w (iL e hf) hr hy (SR hE hT hD hED hs ord _ _ _ h)
  ·intro w1 K
   refine⟨λq=>(by rw[hr]at q;cases q),λi A=>?_⟩
   rw[hr]at A;obtain rfl:i=k:=by simpa using A
   exact wpOp_mono (λX w' H=>⟨H.1,λO=>absurd hk O,SR hE hT hD hED hs ord _ _ _ H.2⟩) (h w1 K)
theorem Na(ord hd:List Nat)(E D:vW->vW->Prop)(hE:∀ w,E w w)(hT:∀ x y z,E x y->E y z->E x z)(hD:∀ x y z,D x y->D y z->D x z)(hED:∀ x y,E x y->D x y){id:Nat}{Q:Exit->Act->vW->Prop}{a:Act}{w:vW}
  (hm:P.follows .mixedOrders=true) (hs:Region.noSelect l.toArray=true) (hl:ord.length=l.toArray.size)
  (h:Gv P l hd E D (λa w=>Q .normal a w) ord [] a w.drew):(Code.region id l.toArray true).wp P Q a w:=by
 refine wp_region_any hm ?_;rw[<-hl]
 have:=SR hE hT hD hED hs ord _ _ _ h
 unfold Ec at this;rw[hl]at this ⊢;exact SN hE (λ_ _ h=>h) _ _ _ _ this
variable {Q:Act->vW->Prop} {ord done hd:List Nat} {a:Act} {w:vW} {k:Nat} {o:Oper}
def headD(l:List Oper)(done:List Nat)(k:Nat):Bool:=(Region.ready .any l.toArray (Ec l done)).contains k&&Region.free .any l.toArray (Ec l done) k
def LQ(l:List Oper)(hd done:List Nat)(k:Nat):Bool:=Region.ready .any l.toArray (Ec l done) == [k]&&hd.contains k
theorem p8(o:Oper)(ho:l[k]?=some o)(hk:headD l done k=true)(hw:Region.wanted o (yielded l.toArray a.tmps)=true)(hq:EV o.op=true)
  (h:∀ K:Act->Prop,(∀ a',Gv P l hd E D Q ord (k::done) a' w->K a')->o.quiet P a (λ_=>True) K):Gv P l hd E D Q (k::ord) done a w:=by
 simp only[headD,cI,cM]at hk
 obtain⟨v,A,H⟩:=h _ (λ_ h=>h)
 have q:Sg P l.toArray E D w o v a:=by refine .inl ⟨hw,λw1 _=>?_⟩;have e:=A w1 trivial;unfold Oper.quietAt at e;have O:=λf args w'=>LC (ρ:=a.eval) hq P w1 w' f args;generalize (execOp a.eval o).run P w1=r at *;cases r with| ok n w'=>(cases n<;>simp only[Oper.quietUpon]at e<;>first|exact e|exact absurd rfl (O _ _ _))| halt x w'=>simp only[Oper.quietUpon]at e
 exact .inl ⟨hk.1,hk.2,o,v,ho,q,H⟩
theorem nR(o:Oper)(v:vV)(ho:l[k]?=some o)(hk:headD l done k=true)(hw:Region.wanted o (yielded l.toArray a.tmps)=true)
  (hv:∀ w1,D w w1->(execOp a.eval o).run P w1=.ok (.value v) w1) (h:Gv P l hd E D Q ord (k::done) (a.put o.dst v) w):Gv P l hd E D Q (k::ord) done a w:=by
 simp only[headD,cI,cM]at hk;exact .inl ⟨hk.1,hk.2,o,v,ho,.inl ⟨hw,λw1 e=>by rw[hv w1 e];exact⟨rfl,rfl⟩⟩,h⟩
theorem Lx(o:Oper)(v:vV)(ho:l[k]?=some o)(hv:∀ w1,D w w1->(execOp a.eval o).run P w1=.ok (.value v) w1)(h:Gv P l hd E D Q ord (k::done) (a.put o.dst v) w)(hk:headD l done k=true:=by kernel_rfl)(hw:Region.wanted o (yielded l.toArray a.tmps)=true:=by rfl):Gv P l hd E D Q (k::ord) done a w:=nR o v ho hk hw hv h
theorem p7(p:Addr)(v:vV){t:TypeId}{x:Operand}{d:Option Tmp}{ty:TypeId}{pos:String}{af:Array Edge}{g:Option (Nat × Bool)}(ho:l[k]?=some ⟨d,.load t x,ty,pos,af,g⟩)(hk:headD l done k=true)
  (hw:Region.wanted ⟨d,.load t x,ty,pos,af,g⟩ (yielded l.toArray a.tmps)=true) (hx:a.eval x=.pointer (some p))
  (hv:∀ w1,D w w1->(Instr.loadAt t p).run P w1=.ok v w1) (h:Gv P l hd E D Q ord (k::done) (a.put d v) w):Gv P l hd E D Q (k::ord) done a w:=by
 refine nR _ v ho hk hw (λw1 e=>?_) h
 have:=hv w1 e
 simp only[execOp,hx,bS,this,Result.andThen,cT]
theorem Fa{t:TypeId}{x:Operand}{d:Option Tmp}{ty:TypeId}{pos:String}{af:Array Edge}{g:Option (Nat × Bool)}(p:Addr)(v:vV)(ho:l[k]?=some ⟨d,.load t x,ty,pos,af,g⟩)(hv:∀ w1,D w w1->(Instr.loadAt t p).run P w1=.ok v w1)(h:Gv P l hd E D Q ord (k::done) (a.put d v) w)(hk:headD l done k=true:=by kernel_rfl)(hw:Region.wanted ⟨d,.load t x,ty,pos,af,g⟩ (yielded l.toArray a.tmps)=true:=by rfl)(hx:a.eval x=.pointer (some p):=by rfl):Gv P l hd E D Q (k::ord) done a w:=p7 p v ho hk hw hx hv h
theorem GA(o:Oper)(f:FuncId)(args:Array vV)(v:vV)(ho:l[k]?=some o)(hk:headD l done k=true)(hw:Region.wanted o (yielded l.toArray a.tmps)=true)
  (hv:∀ w1,(execOp a.eval o).run P w1=.ok (.enter f args) w1) (hc:∀ w1,D w w1->Calls P f args w1 λe A=>e=.returned v/\E w1 A)
  (h:Gv P l hd E D Q ord (k::done) (a.put o.dst v) w):Gv P l hd E D Q (k::ord) done a w:=by
 simp only[headD,cI,cM]at hk;exact .inl ⟨hk.1,hk.2,o,v,ho,.inl ⟨hw,λw1 q=>by rw[hv w1];exact⟨rfl,hc w1 q⟩⟩,h⟩
theorem p6(o:Oper)(ho:l[k]?=some o)(hk:LQ l hd done k=true)(hw:Region.wanted o (yielded l.toArray a.tmps)=true)
  (h:∀ w1,E w w1->∀ K:Act->vW->Prop,(∀ a' w',D w1 w'->Gv P l hd E D Q ord (k::done) a' w'->K a' w')->o.wp P a w1 K Mv):Gv P l hd E D Q (k::ord) done a w:=by
 simp only[LQ,cI,beq_iff_eq,cM]at hk;refine .inr ⟨hk.1,hk.2,λw1 q=>?_⟩;unfold wpOp;have e:l.toArray[k]?=some o:=by simpa using ho
 simp only[e,hw,if_true];exact .inl (h w1 q _ λ_ _ A H=>⟨A,H⟩)
theorem Hh(o:Oper)(ho:l[k]?=some o)(h:∀ w1,E w w1->∀ K:Act->vW->Prop,(∀ a' w',D w1 w'->Gv P l hd E D Q ord (k::done) a' w'->K a' w')->o.wp P a w1 K Mv)(hk:LQ l hd done k=true:=by kernel_rfl)(hw:Region.wanted o (yielded l.toArray a.tmps)=true:=by rfl):Gv P l hd E D Q (k::ord) done a w:=p6 o ho hk hw h
theorem F1(hk:(Region.ready .any l.toArray (Ec l done)).isEmpty=true)(h:∀ w1,E w w1->Q a w1):Gv P l hd E D Q [] done a w:=
 λw1 e=>⟨by simpa using hk,h w1 e⟩
theorem Mt(h:∀ w1,E w w1->Q a w1)(hk:(Region.ready .any l.toArray (Ec l done)).isEmpty=true:=by kernel_rfl):Gv P l hd E D Q [] done a w:=F1 hk h
end mixd
end
def Qp(xs:vL):List vV:=xs.flatMap λp=>[p.1,p.2]
theorem NG(xs:vL):(Qp xs).length=xs.length*2:=by
 induction xs with
 |nil=>rfl
 |cons x r ih=>unfold Qp at *;rw[dJ,bK,ih];simp;omega
theorem FT(xs ys:vL):Qp (xs++ys)=Qp xs++Qp ys:=by simp[Qp]
theorem NE:∀ (xs:vL) (j:Nat) (p:Ay),xs[j]?=some p->(Qp xs)[j*2]?=some (.string p.1)/\(Qp xs)[j*2+1]?=some (.string p.2)
 |[],j,p,h=>by simp at h
 |x::r,0,p,h=>by simp at h;subst h;exact⟨rfl,rfl⟩
 |x::r,j+1,p,h=>by
  have:=NE r j p (by simpa using h)
  rw[show (j+1)*2=j*2+1+1 by omega];exact this
theorem Kx:prog.underlying 147=some (.slice 220):=vY
theorem Ig:(prog.info? 220).map (λi=>(i.zero,i.size,i.bytes))=some (some (.agg #[(),()]),2,32):=vY
theorem Ku:Mn prog 147 220 2 32:=Mn.mk' Kx Ig rfl vI
abbrev Ln(w0 w:vW)(v:vV)(n:Nat)(xs:vL):Prop:=Ar 220 2 w0 w v n (Qp xs)
theorem Ln.rd{w:vW}{n:Nat}{xs:vL}(h:Ln w0 w v n xs):Jv w v xs:=by
 have A:xs.length=n:=by have:=h.len;rw[NG]at this;omega
 obtain⟨_,⟨rfl,h2⟩|⟨g,e,H,rfl,h3,K,O,h6,h7⟩⟩:=h.own
 ·exact .inl ⟨none,0,rfl,bF vO⟩
 ·subst A;refine .inr ⟨g,0,e,rfl,(dD.1 K).1,O,λj x q=>?_⟩;have hj:=(bI.1 q).1;obtain⟨X,Z⟩:=NE xs j x q;exact⟨by rw[bX,h.own.cellAt (j*2) vO,X],by rw[bX,h.own.cellAt (j*2+1) vO,Z]⟩
def Cq(l:vL):vL:=l.map λp=>(Bw p.1,p.2)
def Q9(w:vW)(l:vL)(v i:vV)(wr:vW):Prop:=∃ k:Nat,k<=l.length/\i=.int .i64 k/\Ln w wr v k ((Cq l).take k)
theorem YC{w:vW}{T:TypeId}{n:Nat}{xs:List vV}(h:Ar T sz w0 w v n xs):¬ v.ownBlock=some (w:Nat):=λe=>kL (h.lt _ e)
theorem tF(v:vV)(l:vL)(hv:Jv w v l)(hn:l.length<=1000000)(hs:∀ p∈l,p.1.size<=1000000):vQ 71 #[v] w λe w'=>∃ u,e=.returned u/\Ln w w' u l.length (Cq l):=by
 obtain⟨a,c,a0⟩:=hv.sl
 have HV:=J hv;have HS:=J hs;subst a0
 obtain⟨i0,hi,a1,a3,a5⟩:=info_parts Ig
 obtain⟨w1,b7,H,a7⟩:=run_make_own (P:=prog) (w:=w) w 147 220 i0 _ 2 Kx hi a1 a3 .i64 .i64 l.length (by rw[a5];omega) zi (bO _)
 have HO:=J H;have HG:=J a7;unfold vQ;go_in;go_wp2
 go_loopw [3,11] (λv i wr=>Q9 w l v i wr) (λ_ i _=>l.length-(intOf i).toNat)
 case atStart=>exact⟨0,cD _,rfl,Ar.made w HO.o HG.o⟩
 case round =>obtain⟨k,hk,rfl,hR⟩:=hrel;obtain⟨a2,c2,rfl⟩:=hR.sl;have O:=J hR;by_cases hlt:k<l.length;{rcases HV.o with⟨_,_,_,h0⟩|⟨b,o,c',hh,hb,hc,hcell⟩;{rw[h0]at hlt;cases hlt};cases hh;obtain⟨p,hp⟩:∃ p,l[k]?=some p:=⟨_,bB hlt⟩;obtain⟨q1,q2⟩:=hcell k p hp;have q1:=Am q1 O.o.ext;have q2:=Am q2 O.o.ext;have X:=HS.o p (bD hp);obtain⟨x,y⟩:=p;simp only at q1 q2 X;have b1:(k:Int)<(l.length:Int):=vO;(have a8:(Cq l).take (k+1)=(Cq l).take k++[(Bw x,y)]:=by rw[cB];unfold Cq;rw[bY,hp];rfl);(have a9:=J a8;have b0:=J X;have Q0:=J (show (wr.alloc (.cells #[x,y] 49)).cell? wr=some (.string x)from(Ae.new wr _).cell vF);have Q1:=J (show (wr.alloc (.cells #[x,y] 49)).cell? ⟨↑wr,1,none⟩=some (.string y)from(Ae.new wr _).cell vF);have NB:=J (YC O.o);go_wp2_with fail);(refine Na [0,1,2,3,4,5,6,7,8,9] [7,8] Af (Ad λb=>(Value.slice a2 k c2).ownBlock=some b) Aa Ap (λx y z h k=>Ad.trans h k) (λx y h=>h.mono kZ) vY vY vY ?_;iterate 2 refine vD ?_);refine Fa wr _ rfl (λq h2=>Bv Ag rfl (Ed (by exact Q0.o) h2 NB.o)) (vS ?_);refine GA _ 126 #[x] (Bw x) rfl vY rfl (λw1=>Fb (vX 126) vY) (λw1 h1=>Zc w1 x b0.o) (vS ?_);refine vD ?_;refine Fa ⟨↑wr,1,none⟩ _ rfl (λq h2=>Bv Ag rfl (Ed (by exact Q1.o) h2 NB.o)) (vS ?_);refine vD ?_;(refine Hh _ rfl (λq A K hK=>?_);have b2:=J (O.o.mono ((((Aa wr).alloc _).trans (Ao _)).trans A));go_simp;refine hK _ _ ((Ad.refl _ q).alloc _) ?_;refine Hh _ rfl (λw3 A K hK=>?_);have b3:=J (b2.o.mono (((Aa q).alloc _).trans A));have hB:∀ j u,([Bw x,y]:List vV)[j]?=some u->w3.cell? ((q:Addr).add j)=some u:=λj u hj=>Am (Jx (Ae.new q (.cells [Value.string (Bw x),.string y].toArray 220)) j u hj) A;refine DE Ku b3.o (.tmp 15) (.tmp 22) rfl rfl hB (by intro u hu;simp at hu;rcases hu with rfl|rfl<;>rfl) rfl rfl zi vO (λv' w4 r1 r2 r3=>hK _ _ r2 ?_);have b4:Ln w w4 v' (k+1) ((Cq l).take (k+1)):=by unfold Ln;rw[a9.o,FT];exact r1);have Z:=J b4;obtain⟨a4,c4,rfl⟩:=Z.o.sl;refine vS ?_;refine vD ?_;(refine Mt (λw5 A=>?_);have b5:=J (Z.o.mono A);go_wp2);go_roundw;(case rel=>exact⟨k+1,by omega,by go_num,b5.o⟩);case measure=>exact vJ};have b6:k=l.length:=vO;subst b6;go_wp2;go_ret;have h:=O.o;rw[cG (by simp[Cq])]at h;exact⟨_,rfl,h⟩
def Ba(d:Nat)(l:vL):vL:=l.map λp=>(p.1.extract d p.1.size,p.2)
def S6(w:vW)(d:Nat)(l:vL)(v i:vV)(wr:vW):Prop:=∃ k:Nat,k<=l.length/\i=.int .i64 k/\Ln w wr v k ((Ba d l).take k)
theorem lG(v:vV)(d:Nat)(l:vL)(hv:Jv w v l)(hn:l.length<=1000000)(hs:∀ p∈l,d<=p.1.size/\p.1.size<=1000000):vQ 122 #[v,.int .i64 d] w λe w'=>∃ u,e=.returned u/\Ln w w' u l.length (Ba d l):=by
 obtain⟨a,c,Z⟩:=hv.sl
 have HV:=J hv;have HS:=J hs;subst Z
 obtain⟨i0,hi,a0,a1,a3⟩:=info_parts Ig
 obtain⟨w1,b7,H,a5⟩:=run_make_own (P:=prog) (w:=w) w 147 220 i0 _ 2 Kx hi a0 a1 .i64 .i64 l.length (by rw[a3];omega) zi (bO _)
 have HO:=J H;have HG:=J a5;unfold vQ;go_in;go_wp2
 go_loopw [5,13] (λv i wr=>S6 w d l v i wr) (λ_ i _=>l.length-(intOf i).toNat)
 case atStart=>exact⟨0,cD _,rfl,Ar.made w HO.o HG.o⟩
 case round =>obtain⟨k,hk,rfl,hR⟩:=hrel;obtain⟨a2,c2,rfl⟩:=hR.sl;have O:=J hR;by_cases hlt:k<l.length;{rcases HV.o with⟨_,_,_,h0⟩|⟨b,o,c',hh,hb,hc,hcell⟩;{rw[h0]at hlt;cases hlt};cases hh;obtain⟨p,hp⟩:∃ p,l[k]?=some p:=⟨_,bB hlt⟩;obtain⟨q1,q2⟩:=hcell k p hp;have q1:=Am q1 O.o.ext;have q2:=Am q2 O.o.ext;have a7:=HS.o p (bD hp);obtain⟨x,y⟩:=p;simp only at q1 q2 a7;have b1:(k:Int)<(l.length:Int):=vO;have b2:(d:Int)<=(x.size:Int):=vO;(have a8:(Ba d l).take (k+1)=(Ba d l).take k++[(x.extract d x.size,y)]:=by rw[cB];unfold Ba;rw[bY,hp];rfl);(have a9:=J a8;have Q0:=J (show (wr.alloc (.cells #[x,y] 220)).cell? wr=some (.string x)from(Ae.new wr _).cell vF);have Q1:=J (show (wr.alloc (.cells #[x,y] 220)).cell? ⟨↑wr,1,none⟩=some (.string y)from(Ae.new wr _).cell vF);have NB:=J (YC O.o);go_wp2_with fail);(refine Na [0,1,2,3,4,5,6,7,8,9,10] [8,9] Af (Ad λb=>(Value.slice a2 k c2).ownBlock=some b) Aa Ap (λx y z h k=>Ad.trans h k) (λx y h=>h.mono kZ) vY vY vY ?_;iterate 2 refine vD ?_);(refine Fa wr _ rfl (λq h2=>Bv Ag rfl (Ed (by exact Q0.o) h2 NB.o)) (vS ?_);iterate 3 refine vD ?_);refine Fa ⟨↑wr,1,none⟩ _ rfl (λq h2=>Bv Ag rfl (Ed (by exact Q1.o) h2 NB.o)) (vS ?_);refine vD ?_;(refine Hh _ rfl (λq A K hK=>?_);have b0:=J (O.o.mono ((((Aa wr).alloc _).trans (Ao _)).trans A));go_simp;refine hK _ _ ((Ad.refl _ q).alloc _) ?_;refine Hh _ rfl (λw3 A K hK=>?_);have b3:=J (b0.o.mono (((Aa q).alloc _).trans A));have hB:∀ j u,([x.extract d x.size,y]:List vV)[j]?=some u->w3.cell? ((q:Addr).add j)=some u:=λj u hj=>Am (Jx (Ae.new q (.cells [Value.string (x.extract d x.size),.string y].toArray 220)) j u hj) A;refine DE Ku b3.o (.tmp 17) (.tmp 25) rfl rfl hB (by intro u hu;simp at hu;rcases hu with rfl|rfl<;>rfl) rfl rfl zi vO (λv' w4 r1 r2 r3=>hK _ _ r2 ?_);have b4:Ln w w4 v' (k+1) ((Ba d l).take (k+1)):=by unfold Ln;rw[a9.o,FT];exact r1);have X:=J b4;obtain⟨a4,c4,rfl⟩:=X.o.sl;refine vS ?_;refine vD ?_;(refine Mt (λw5 A=>?_);have b5:=J (X.o.mono A);go_wp2);go_roundw;(case rel=>exact⟨k+1,by omega,by go_num,b5.o⟩);case measure=>exact vJ};have b6:k=l.length:=vO;subst b6;go_wp2;go_ret;have h:=O.o;rw[cG (by simp[Ba])]at h;exact⟨_,rfl,h⟩
def Ve(i:Nat)(p:Ay):Bool:=match p.1.data.toList with | []=>false|a::_=>a.toNat == i
theorem O2{x y:vB}(h:0<x.size):Ve i (x,y)=(x[0].toNat == i):=by
 obtain⟨⟨l⟩⟩:=x
 cases l with
 |nil=>exact absurd h (Nat.lt_irrefl 0)
 |cons a r=>rfl
theorem C2(a b:Nat):((a:Int) ==(b:Int))=(a == b):=by
 by_cases h:a=b
 ·subst h;simp
 ·have e:¬(a:Int)=(b:Int):=vO;rw[beq_eq_false_iff_ne.2 h,beq_eq_false_iff_ne.2 e]
theorem yX(hs:x.size<=1000000)(hi:i<256)(hc:w.cell? gi=some (.int .i64 (i:Int))):vR 124 #[.agg #[x,y],gi] w (Ve i (x,y)):=by
 have O:=J (show (w.alloc (.cells #[x,y] 220)).cell? w=some (.string x)from(Ae.new w _).cell vF);have QI:=J (Am hc ((Aa w).alloc (.cells #[x,y] 220)));clear hc
 by_cases h0:x.size=0
 ·have:=Ov h0;(subst this;have E:Hid (Ve i (⟨#[]⟩,y)=false):=rfl;unfold vR vQ;go_in;go_wp2_with fail);refine Hs [0,1,2,3,4,5,6,7,8,9,10,11] Af Aa Ap vY vY vY ?_;refine vK ?_;(refine Db w _ rfl (λX q=>Bv Ag rfl (Am (by exact O.o) q)) (vS ?_);iterate 2 refine vK ?_);(iterate 6 (refine Xh _ rfl (vS ?_)));(iterate 2 refine vK ?_);(refine Hi (λw3 H=>?_);have Z:=J ((((Aa w).alloc (.cells #[(),y] 220)).trans (Ao _)).trans H);clear H;go_wp2);go_ret;exact⟨by rw[E.o];rfl,Z.o⟩
 ·have e:0<x.size:=vO;have a3:=Sf (s:=x) e;have c0:(0:Int)<(x.size:Int):=vO;(have c1:=x[0].toNat_lt;have E:=J (O2 (y:=y) i e);have K:((x[0].toNat:Int) ==(i:Int))=(x[0].toNat == i):=C2 _ _;have a0:=J K;clear K;unfold vR vQ;go_in;go_wp2_with fail);refine Hs [0,1,2,3,4,5,6,7,8,9,10,11] Af Aa Ap vY vY vY ?_;refine vK ?_;(refine Db w _ rfl (λX q=>Bv Ag rfl (Am (by exact O.o) q)) (vS ?_);iterate 3 refine vK ?_);(refine Db w _ rfl (λX q=>Bv Ag rfl (Am (by exact O.o) q)) (vS ?_);iterate 2 refine vK ?_);(refine Db gi _ rfl (λX q=>Bv Fl rfl (Am (by exact QI.o) q)) (vS ?_);iterate 3 refine vK ?_);refine Hi (λw3 H=>?_);have a1:=J ((((Aa w).alloc (.cells #[x,y] 220)).trans (Ao _)).trans H);clear H;rw[a0.o, <-E.o];obtain⟨bb,A⟩:=vE (Ve i (x,y));(rw[<-A];have a2:=J A;clear A;go_wp2);go_ret;exact⟨by rw[<-a2.o];rfl,a1.o⟩
def Ah(i:Nat)(l:vL):vL:=l.filter (Ve i)
theorem I1(l:vL){k:Nat}{p:Ay}(h:l[k]?=some p):Ah i (l.take (k+1))=Ah i (l.take k)++(if Ve i p then [p]else []):=by
 unfold Ah;rw[cB,h,List.filter_append,Option.toList_some,jB];simp
def jzH(w:vW)(i:Nat)(l:vL)(v j:vV)(wr:vW):Prop:=∃ k n:Nat,k<=l.length/\n<=k/\j=.int .i64 k/\Ln w wr v n (Ah i (l.take k))
theorem wX(v:vV)(gi i:Nat)(l:vL)(hv:Jv w v l)(hn:l.length<=1000000)(hs:∀ p∈l,p.1.size<=1000000)(hi:i<256)(hc:w.cell? gi=some (.int .i64 (i:Int))):vQ 123 #[v,.func (.func 124) #[] #[gi]] w λe w'=>∃ u n,e=.returned u/\Ln w w' u n (Ah i l):=by
 obtain⟨a,c,Z⟩:=hv.sl
 have HV:=J hv;have HS:=J hs;have HC:=J hc;subst Z;unfold vQ;go_in;go_wp2
 go_loopw [5,10] (λv j wr=>jzH w i l v j wr) (λ_ j _=>l.length-(intOf j).toNat)
 case atStart=>exact⟨0,0,cD _,cD _,rfl,Ar.nil _ _ (Aa w)⟩
 case round =>obtain⟨k,n,hk,a4,rfl,hR⟩:=hrel;obtain⟨a2,c2,rfl⟩:=hR.sl;have A:=J hR;by_cases hlt:k<l.length;{rcases HV.o with⟨_,_,_,h0⟩|⟨b,o,c',hh,hb,hc,hcell⟩;{rw[h0]at hlt;cases hlt};cases hh;obtain⟨p,hp⟩:∃ p,l[k]?=some p:=⟨_,bB hlt⟩;obtain⟨q1,q2⟩:=hcell k p hp;have q1:=Am q1 A.o.ext;have q2:=Am q2 A.o.ext;have H:=HS.o p (bD hp);have a0:=I1 i l hp;obtain⟨x,y⟩:=p;simp only at q1 q2 H;have b1:(k:Int)<(l.length:Int):=vO;(have q:=J a0;go_wp2_with fail);refine vC (yX _ x y gi i H hi (Am HC.o (A.o.ext.trans ((Aa wr).alloc _)))) λw3 hE=>?_;have hX:=((Aa wr).alloc (.cells #[x,y] 220)).trans hE;have K:=J (A.o.mono hX);have O:=(Ae.new wr (.cells #[x,y] 220)).Z hE kI;have p0:=O.cell (i:=0) (v:=.string x) vF;have p1:=O.cell (i:=1) (v:=.string y) vF;cases hpk:Ve i (x,y)with| true =>(rw[hpk,if_pos rfl]at q;go_wp2_with (at_builtin;refine Qm Ku (K.o.mono ((Aa w3).alloc _)) (.tmp 17) (.tmp 19) rfl rfl rfl (Jx (Ae.new w3 _)) (news:=[x,y]) (by intro u hu;simp at hu;rcases hu with rfl|rfl<;>rfl) rfl rfl ?c1 ?c2 λv' w' r1 r2 r3=>?_));(case c1=>unfold maxLen;omega);(case c2=>omega);(have X:Ln w w' v' (n+1) (Ah i (l.take (k+1))):=by unfold Ln;rw[q.o,FT];exact r1);obtain⟨a5,c5,rfl⟩:=X.sl;(have a1:=J X;go_wp2);go_roundw;(case rel=>exact⟨k+1,n+1,by omega,by omega,by go_num,a1.o⟩);case measure=>exact vJ| false =>(rw[hpk,if_neg (by simp),cC]at q;go_wp2);go_roundw;(case rel=>exact⟨k+1,n,by omega,by omega,by go_num,by rw[q.o];exact K.o⟩);case measure=>exact vJ};have a3:k=l.length:=vO;subst a3;go_wp2;go_ret;have h:=A.o;rw[cF]at h;exact⟨_,_,rfl,h⟩
theorem JP{t e ty:TypeId}{i:TypeInfo}(ht:P.underlying t=some (.slice e))(hi:P.info? e=some i)(base:Option Addr)(n c:Nat)(hle:n<=c)(c2:Nat)(w:vW):(Builtin.append_ #[t,t] ty #[.slice base n c,.slice none 0 c2]).run P w=.ok (.slice base n c) w:=by
 have q:(sizeOf e).run P w=.ok i.size w:=by simp[sizeOf,typeInfo,hi]
 have A:∀ w,(Builtin.lenOf (.slice none 0 c2)).run P w=.ok 0 w:=λw=>rfl;cases base<;>simp[Builtin.append_,bS,Result.andThen,run_underlying ht,q,A,cT,Builtin.firstCells,hle,storeCells]
inductive PT where
 |mk (text:vB) (below:List PT)
def PT.text:PT->vB | .mk t _=>t
def PT.kids:PT->List PT | .mk _ ks=>ks
def Fx(b:Nat):vV:=.pointer (some b)
def Xl(A:Nat->Prop)(W:vW)(v:vV)(bs:List Nat):Prop:=
 (v=.slice none 0 0/\bs=[])\/∃ g c,v=.slice (some ⟨g,0,none⟩) bs.length c/\bs≠[]/\A g/\g<(W:Nat)/\bs.length<=c/\∀ (j:Nat) b,bs[j]?=some b->W.cell? ⟨g,j,none⟩=some (Fx b)
mutual
def Lv(A:Nat->Prop):PT->Nat->vW->Prop
 |.mk t ks,b,W=>A b/\∃ v bs,Ae W b (.cells #[t,v] 176)/\Xl A W v bs/\Hm A ks bs W
def Hm(A:Nat->Prop):List PT->List Nat->vW->Prop
 |[],bs,_=>bs=[]
 |k::ks,bs,W=>∃ b r,bs=b::r/\Lv A k b W/\Hm A ks r W
end
theorem Xl.Z{F:Bd}(h:Xl A W v bs)(k:Ad F W W')(hF:∀ x,A x->¬ F x):Xl A W' v bs:=by
 rcases h with h|⟨g,c,h1,h2,h3,h4,h5,h6⟩
 ·exact .inl h
 ·exact .inr ⟨g,c,h1,h2,h3,bE h4 k.size,h5,λj b hb=>Ed (h6 j b hb) k (hF g h3)⟩
theorem Xl.mono(h:Xl A W v bs)(hA:∀ x,A x->x<(W:Nat)->A' x):Xl A' W v bs:=by
 rcases h with h|⟨g,c,h1,h2,h3,h4,h5,h6⟩
 ·exact .inl h
 ·exact .inr ⟨g,c,h1,h2,hA g h3 h4,h4,h5,h6⟩
mutual
theorem Lv.Z{A:Nat->Prop}{F:Bd}{W W':vW}(k:Ad F W W')(hF:∀ x,A x->¬ F x):∀ (T:PT) (b:Nat),Lv A T b W->Lv A T b W'
 |.mk t ks,b,h=>by
  unfold Lv at *
  obtain⟨e,v,q,H,K,O⟩:=h
  exact⟨e,v,q,H.Z k (hF b e),K.Z k hF,Hm.Z k hF ks q O⟩
theorem Hm.Z{A:Nat->Prop}{F:Bd}{W W':vW}(k:Ad F W W')(hF:∀ x,A x->¬ F x):∀ (ks:List PT) (bs:List Nat),Hm A ks bs W->Hm A ks bs W'
 |[],bs,h=>by unfold Hm at *;exact h
 |x::ks,bs,h=>by
  unfold Hm at *
  obtain⟨b,r,e,q,H⟩:=h
  exact⟨b,r,e,Lv.Z k hF x b q,Hm.Z k hF ks r H⟩
end
mutual
theorem Lv.mono{A A':Nat->Prop}{W:vW}(hA:∀ x,A x->x<(W:Nat)->A' x):∀ (T:PT) (b:Nat),Lv A T b W->Lv A' T b W
 |.mk t ks,b,h=>by
  unfold Lv at *
  obtain⟨H,v,e,q,K,O⟩:=h
  exact⟨hA b H q.lt,v,e,q,K.mono hA,Hm.mono hA ks e O⟩
theorem Hm.mono{A A':Nat->Prop}{W:vW}(hA:∀ x,A x->x<(W:Nat)->A' x):∀ (ks:List PT) (bs:List Nat),Hm A ks bs W->Hm A' ks bs W
 |[],bs,h=>by unfold Hm at *;exact h
 |x::ks,bs,h=>by
  unfold Hm at *
  obtain⟨b,r,e,q,H⟩:=h
  exact⟨b,r,e,Lv.mono hA x b q,Hm.mono hA ks r H⟩
end
theorem Hm.append{A:Nat->Prop}{W:vW}:∀ (ks:List PT) (bs:List Nat) (ks':List PT) (bs':List Nat),Hm A ks bs W->Hm A ks' bs' W->Hm A (ks++ks') (bs++bs') W
 |[],bs,ks',bs',h,h'=>by unfold Hm at h;subst h;exact h'
 |x::ks,bs,ks',bs',h,h'=>by
  unfold Hm at h
  obtain⟨b,r,rfl,e,q⟩:=h
  show Hm A (x ::(ks++ks')) (b ::(r++bs')) W;unfold Hm
  exact⟨b,r++bs',rfl,e,Hm.append ks r ks' bs' q h'⟩
theorem Hf:prog.underlying 174=some (.slice 145):=vY
theorem Ra:(prog.info? 145).map (λi=>(i.zero,i.size,i.bytes))=some (some (.pointer none),1,8):=vY
theorem My:Mn prog 174 145 1 8:=Mn.mk' Hf Ra rfl vI
abbrev AX(w0 w:vW)(v:vV)(bs:List Nat):Prop:=Ar 145 1 w0 w v bs.length (bs.map Fx)
structure Oy(w0 W:World)(b m:Nat)(t:vB)(ks:List PT)(u:Value)(bs:List Nat):Prop where
 blk:Ae W b (.cells #[t,u] 176)
 new:(w0:Nat)<=b
 row:AX w0 W u bs
 nil:bs=[]->u=.slice none 0 0
 nb:¬ u.ownBlock=some b
 bm:m≠b
 mb:¬ u.ownBlock=some m
 mn:(w0:Nat)<=m
 ml:m<(W:Nat)
 ks:Hm (λx=>(w0:Nat)<=x/\x≠b/\x≠m/\¬ u.ownBlock=some x) ks bs W
theorem Oy.ext{ks:List PT}(h:Oy w0 W b m t ks u bs)(e:Af W W'):Oy w0 W' b m t ks u bs:=
 ⟨h.blk.Z e kI,h.new,h.row.mono e,h.nil,h.nb,h.bm,h.mb,h.mn,bE h.ml e.size,Hm.Z e (λ_ _ h=>h) _ _ h.ks⟩
theorem Oy.other{ks:List PT}(h:Oy w0 W b m t ks u bs)(e:Ad (λx=>x=m) W W'):Oy w0 W' b m t ks u bs:=
 ⟨h.blk.Z e λe=>h.bm e.symm,h.new,h.row.Z e (λx q e=>h.mb (by have e:x=m:=e;rw[<-e];exact q)) λx q e=>by have e:x=m:=e;have:=h.mn;omega,h.nil,h.nb,h.bm,h.mb,h.mn,bE h.ml e.size,
  Hm.Z e (λx q e=>q.2.2.1 e) _ _ h.ks⟩
theorem Oy.setText{ks:List PT}(h:Oy w0 W b m t ks u bs)(t':vB):Oy w0 (W.setCell b t') b m t' ks u bs:=
 have K:=Ad.z4 W b t'
 ⟨h.blk.z2 (i:=0) t',h.new,h.row.Z K (λx q e=>h.nb (by have e:x=b:=e;rw[<-e];exact q)) λx q e=>by have e:x=b:=e;have:=h.new;omega,h.nil,h.nb,h.bm,h.mb,h.mn,bE h.ml K.size,Hm.Z K (λx q e=>q.2.1 e) _ _ h.ks⟩
theorem Oy.part{ks:List PT}(h:Oy w0 W b m t ks u bs):Lv (λx=>(w0:Nat)<=x) (.mk t ks) b W:=by
 unfold Lv
 refine⟨h.new,u,bs,h.blk,?_,Hm.mono (λx q _=>q.1) _ _ h.ks⟩
 by_cases h0:bs=[]
 ·exact .inl ⟨h.nil h0,h0⟩
 ·obtain⟨_,⟨rfl,O⟩|⟨g,e,A,rfl,X,H,K,Z,h7⟩⟩:=h.row.own;{exact absurd (bF vO) h0};refine .inr ⟨g,e,rfl,h0,h.row.new g rfl,(dD.1 H).1,K,λj b hb=>?_⟩;have hj:=(bI.1 hb).1;rw[h.row.own.cellAt j vO,bY,hb];rfl
def Ia(T:PT):List PT:=if T.text.size<32 then []else [T]
structure XX(T:PT):Prop where
 size:T.text.size<=100000
 small:T.text.size<32->T.kids=[]
 nohash:T.text.size<32->∃ q,Dx T.text=some q/\Vx T.text q=none
theorem G9(W:vW)(b:Nat)(a:Option Addr)(c:Nat):vQ 121 #[Fx b,.slice a 0 c] W λe w'=>e=.returned ()/\w'=W:=by
 unfold Fx;unfold vQ;go_in;go_wp2
 go_ret
 exact⟨rfl,rfl⟩
theorem JQ{w:vW}{d:Option Tmp}{args:Array Operand}{ats:Array TypeId}{ty:TypeId}{pos:String}{af:Array Edge}{g:Option (Nat × Bool)}(h:(Builtin.append_ ats ty vs).run P w=.ok v w')(hv:args.map a.eval=vs):(execOp a.eval ⟨d,.call { callee:=.builtin .append,args:=args,argTypes:=ats },ty,pos,af,g⟩).run P w=.ok (.value v) w':=by
 subst hv;simp[execOp,resolve,invoke,Go.builtin,Act.eval,bS,Result.andThen,cT,h]
theorem Oy.add{ks:List PT}{k:Nat}{T:PT}(h:Oy w0 W b m t ks u bs)(hk:Lv (λx=>(w1:Nat)<=x) T k W)(h1:b<(w1:Nat))(h1m:m<(w1:Nat))(h2:∀ x,u.ownBlock=some x->x<(w1:Nat))(h3:(w0:Nat)<=↑w1)
  (r1:AX w0 w2 u' (bs++[k])) (r2:Ad (λx=>u.ownBlock=some x) W w2) (r3:u'.ownBlock=u.ownBlock\/∀ x,u'.ownBlock=some x->(W:Nat)<=x) :
  Oy w0 (w2.setCell ⟨b,1,none⟩ u') b m t (ks++[T]) u' (bs++[k]):=by
 have K:Ad (λx=>x=b\/u.ownBlock=some x) W (w2.setCell ⟨b,1,none⟩ u'):=(r2.mono λx _ q=>.inr q).setCell (.inl (.inl rfl)) _;have A:=h.blk.lt;have O:¬ u'.ownBlock=some b:=λe=>by rcases r3 with r3|r3;{exact h.nb (r3 ▸ e)};have:=r3 b e;omega
 have H:∀ x,x<(W:Nat)->¬ u.ownBlock=some x->¬ u'.ownBlock=some x:=λx q Z e=>by rcases r3 with r3|r3;{exact Z (r3 ▸ e)};have:=r3 x e;omega
 refine⟨?_,h.new,r1.Z (Ad.z4 w2 ⟨b,1,none⟩ u') (λx q e=>O (by have e:x=b:=e;rw[<-e];exact q)) λx q e=>by have e:x=b:=e;have:=h.new;omega,λe=>absurd e (by simp),O,h.bm,H m h.ml h.mb,h.mn,bE h.ml K.size,?_⟩
 ·have:=(h.blk.Z r2 h.nb).z2 (i:=1) u';exact this
 ·refine Hm.append _ _ _ _ ?_ ?_;{refine Hm.Z K (λx q e=>?_) _ _ (Hm.mono (A':=λx=>(w0:Nat)<=x/\x≠b/\¬ u.ownBlock=some x/\x≠m/\¬ u'.ownBlock=some x) (λx q A=>⟨q.1,q.2.1,q.2.2.2,q.2.2.1,H x A q.2.2.2⟩) _ _ h.ks) |> Hm.mono (λx q _=>⟨q.1,q.2.1,q.2.2.2.1,q.2.2.2.2⟩) _ _;rcases e with e|e;{exact q.2.1 e};exact q.2.2.1 e};unfold Hm;refine⟨k,[],rfl,?_,by unfold Hm;rfl⟩;have X:Lv (λx=>(w0:Nat)<=x/\x≠b/\¬ u.ownBlock=some x/\x≠m/\¬ u'.ownBlock=some x) T k W:=Lv.mono (λx q A=>⟨by omega,by omega,λe=>kL (h2 x e),by omega,H x A λe=>kL (h2 x e)⟩) _ _ hk;refine Lv.mono (λx q _=>⟨q.1,q.2.1,q.2.2.2.1,q.2.2.2.2⟩) _ _ (Lv.Z K (λx q e=>?_) _ _ X);rcases e with e|e;{exact q.2.1 e};exact q.2.2.1 e
theorem Oy.same{ks:List PT}(h:Oy w0 W b m t ks u bs):Oy w0 (W.setCell ⟨b,1,none⟩ u) b m t ks u bs:=
 have K:=Ad.z4 W ⟨b,1,none⟩ u
 ⟨h.blk.z2 (i:=1) u,h.new,h.row.Z K (λx q e=>h.nb (by have e:x=b:=e;rw[<-e];exact q)) λx q e=>by have e:x=b:=e;have:=h.new;omega,h.nil,h.nb,h.bm,h.mb,h.mn,bE h.ml K.size,Hm.Z K (λx q e=>q.2.1 e) _ _ h.ks⟩
theorem Lv.open{T:PT}(h:Lv A T b W):A b/\∃ v bs,Ae W b (.cells #[T.text,v] 176)/\Xl A W v bs/\Hm A T.kids bs W:=by
 cases T with
 |mk t ks=>unfold Lv at h;exact h
theorem Xl.sl(h:Xl A W v bs):∃ a c,v=.slice a bs.length c:=by
 rcases h with⟨h1,h2⟩|⟨g,c,h1,_⟩
 ·exact⟨none,0,by rw[h1,h2];rfl⟩
 ·exact⟨_,c,h1⟩
theorem sY(hc:Ha W){ks:List PT}(h:Oy w0 W b m t ks u bs)(hbs:bs.length<=100)(v:vV)(l:vL)(hv:Jv W v l)(hl:l≠[])(hln:l.length<=1000000)(T:PT)(hT:XX T)
  (hb:vQ 70 #[v] W λe w'=>∃ k,e=.returned (Fx k)/\Lv (λx=>(W:Nat)<=x) T k w'/\Af W w') :
  vQ 121 #[Fx b,v] W λe w'=>∃ u' bs',e=.returned (Ax T.text)/\Oy w0 w' b m t (ks++Ia T) u' bs'/\bs'.length<=bs.length+1/\Af w0 w'/\Ad (λx=>x=b\/u.ownBlock=some x) W w':=by
 obtain⟨av,cv,rfl⟩:=hv.sl
 have c7:l.length≠0:=λe=>hl (bF e);have c0:((l.length:Int) == 0)=false:=by simp;exact hl
 have c1:¬(l.length:Int)=0:=vO
 have HB:=J hb;have H:=J h;have HC:=J hc;have HT:=J hT
 obtain⟨s,hs⟩:=vE T.text
 have b5:Ax T.text=Ax s:=by rw[hs]
 rw[b5];have HS:=J hs;clear hb h hc hT hv hl c7 hs b5;unfold Fx;unfold vQ;go_in;go_wp2_with fail
 refine HB.o.mono ?_;rintro e w1 ⟨k,rfl,hk,O⟩;have HK:=J hk
 obtain⟨e5,vk,bk,a8,b6,b7⟩:=hk.open
 have q0:w1.cell? ⟨k,0,none⟩=some (.string s):=by rw[HS.o];exact a8.cell vF
 have H1:=J (H.o.ext O);have HE:=J O;have c8:=J (HC.o.ext O);have c9:=J a8;have d0:=J b6;have d1:=J b7;clear O hk a8 b6 b7;unfold Fx;go_wp2_with fail
 refine vC (YB w1 s c8.o) λw2 O=>?_;have b8:=J O;have H2:=J (H1.o.ext O)
 by_cases hsm:s.size<32
 ·(have a3:T.text.size<32:=by rw[<-HS.o];exact hsm);obtain⟨q,X,Z⟩:=HT.o.nohash a3;(rw[<-HS.o]at X Z;have hr:Ax s=s:=by unfold Ax;rw[if_pos hsm]);(rw[hr];have a4:=HT.o.small a3;have a7:=d1.o;rw[a4]at a7;unfold Hm at a7;have a9:=d0.o;rw[a7]at a9;have b9:vk=.slice none 0 0:=by rcases a9 with⟨h1,_⟩|⟨g,c,_,h2,_⟩;{exact h1};exact absurd rfl h2);(have A:ks++Ia T=ks:=by unfold Ia;rw[if_pos a3,cC]);(have a0:=J A;have a1:=J hr;have b0:=J X;have b1:=J Z;have a2:=c9.o.Z O kI;rw[b9]at a2;have QK:=J (a2.cell (i:=1) (v:=.slice none 0 0) vF);clear O X Z hr a4 a7 a9 b9 a2 A;go_wp2_with fail);refine vC (Xc w2 s q vO b0.o) λw3 O=>?_;rw[b1.o];have H3:=J (H2.o.ext O);have d2:=J (Am QK.o O);have b2:=J ((HE.o.trans b8.o).trans O);clear O;obtain⟨au,cu,hu⟩:=H3.o.row.sl;(subst hu;unfold Cw;simp only;go_wp2_with fail);(have d3:bs.length<=cu:=by obtain⟨_,⟨hx,h2⟩|⟨g,e6,e7,hx,h3,h4,h5,h6,h7⟩⟩:=H3.o.row.own;{have:=dF hx;omega};have:=dF hx;omega);(refine Lc [0,1,2,3,4,5,6,7,8,9,10,11,12] [12] Af Aa Ap vY vY vY ?_;iterate 2 refine vP ?_);refine qA _ b rfl zf (vS ?_);refine vP ?_;refine qL ⟨b,1,none⟩ _ rfl (λw1 h1=>Bv Hf rfl (Am (by exact H3.o.blk.cell (i:=1) (v:=.slice au bs.length cu) vF) h1)) (vS ?_);refine vP ?_;refine qA _ (.pointer (some ⟨k,0,none⟩)) rfl zf (vS ?_);refine vP ?_;refine qL ⟨k,1,none⟩ _ rfl (λw1 h1=>Bv Hf rfl (Am (by exact d2.o) h1)) (vS ?_);obtain⟨i0,z0,d4,_⟩:=My.hi;refine qA _ (.slice au bs.length cu) rfl (λw1=>JQ (JP Hf d4 au bs.length cu d3 0 w1) vY) (vS ?_);refine qA _ b rfl zf (vS ?_);refine vP ?_;(refine qH _ rfl (λw4 he K hK=>?_);have h4:=H3.o.ext ((Ao w3).trans he);have q1:w4.cell? ⟨b,1,none⟩=some (.slice au bs.length cu):=h4.blk.cell (i:=1) vF;have f1:w4.frozen? ⟨b,1,none⟩=false:=h4.blk.frozen;have H4:=J h4;have d5:=J (b2.o.trans ((Ao w3).trans he));clear he h4;go_simp;refine hK _ _ ?_;clear hK K q1 f1;have H5:=J H4.o.same;refine qE (λw5 he=>?_);have H6:=J (H5.o.ext he);have d6:=J ((((d5.o.mono (G:=λx=>x=b\/(Value.slice au bs.length cu).ownBlock=some x) kZ).setCell (p:=⟨b,1,none⟩) (.inl (.inl rfl)) (.slice au bs.length cu)).trans (he.mono kZ)));clear he H5 H4;go_wp2);go_ret;exact⟨_,bs,by rw[a1.o];rfl,by rw[a0.o];exact H6.o,by omega,H6.o.row.ext,d6.o⟩
 ·(have a3:¬ T.text.size<32:=by rw[<-HS.o];exact hsm);obtain⟨r,hr⟩:=vE (Ax s);(have b3:r=Av (Aj s):=by rw[hr];unfold Ax;rw[if_neg hsm]);obtain⟨q,X,Z⟩:=GI (Aj s) (Rp s);(rw[<-b3]at X Z;have d7:r.size<=1000000000:=by have:=Mk (Aj s);have:=Rp s;rw[b3];omega);(have A:ks++Ia T=ks++[T]:=by unfold Ia;rw[if_neg a3]);(rw[<-hr];have a0:=J A;have a1:=J hr;have b0:=J X;have b1:=J Z;have d8:=J (Lv.Z O (λ_ _ h=>h) _ _ HK.o);clear O X Z hr b3 A a3;go_wp2_with fail);refine vC (Xc w2 r q d7 b0.o) λw3 O=>?_;rw[b1.o];have h3:=H2.o.ext O;have b4:=J (Lv.Z O (λ_ _ h=>h) _ _ d8.o);have c2:=(HE.o.trans b8.o).trans O;obtain⟨au,cu,hu⟩:=h3.row.sl;(subst hu;have q1:w3.cell? ⟨b,1,none⟩=some (.slice au bs.length cu):=h3.blk.cell (i:=1) vF;have H3:=J h3;have d9:=H.o.blk.lt;have c3:=H.o.row.lt;have e0:=J c3;have e2:=H.o.row.ext.size;have b2:=J c2;clear O h3 c2 c3;unfold Cw;simp only;go_wp2_with (at_builtin;refine Qm My (H3.o.row.mono ((Aa w3).alloc _)) (.tmp 29) (.tmp 31) rfl rfl rfl (Jx (Ae.new w3 _)) (news:=[Fx k]) (by intro u hu;simp at hu;rw[hu];rfl) rfl rfl zi vO (λv' w4 r1 r2 r3=>?_);obtain⟨a5,c5,e3⟩:=r1.sl;subst e3;have c4:=(H3.o.blk.alloc _).Z r2 H3.o.nb;have qb:w4.cell? ⟨b,1,none⟩=some (.slice au bs.length cu):=c4.cell (i:=1) vF;have fb:w4.frozen? ⟨b,1,none⟩=false:=c4.frozen));(have e1:AX w0 w4 (.slice a5 (bs.length+1) c5) (bs++[k]):=by unfold AX;rw[bK,bW];exact r1);have h5:=Oy.add (w1:=W) (H3.o.ext ((Aa w3).alloc _)) (Lv.Z ((Aa w3).alloc _) (λ_ _ h=>h) _ _ b4.o) d9 H.o.ml e0.o e2 e1 r2 r3;have e4:Ad (λx=>x=b\/(Value.slice au bs.length cu).ownBlock=some x) W (w4.setCell ⟨b,1,none⟩ (.slice a5 (bs.length+1) c5)):=((((b2.o.alloc _).mono (G:=λx=>x=b\/(Value.slice au bs.length cu).ownBlock=some x) kZ).trans (r2.mono λ_ _ h=>.inr h))).setCell (.inl (.inl rfl)) _;go_ret;exact⟨_,bs++[k],by rw[<-a1.o];rfl,by rw[a0.o];exact h5,by simp,h5.row.ext,e4⟩
abbrev Lt(a b:vN):Prop:=Op.bytesLess a b=true
theorem Nm{a b:vU}{x y:vN}:Lt (a::x) (b::y)↔a<b\/(a=b/\Lt x y):=by
 unfold Lt;rw[Op.bytesLess];simp
theorem not_lt_nil(a:vN):¬ Lt a []:=by
 unfold Lt;cases a<;>simp[Op.bytesLess]
theorem PO{b:vU}{y:vN}:Lt [] (b::y):=rfl
theorem lt_irrefl:∀ a:vN,¬ Lt a a
 |[],h=>not_lt_nil _ h
 |a::x,h=>by
  rcases Nm.1 h with h|h
  ·exact iP a h
  ·exact lt_irrefl x h.2
theorem BE:∀ (a b:vN),a.take (Hz a b)=b.take (Hz a b)/\Hz a b<=a.length/\Hz a b<=b.length
 |[],b=>by simp[Hz]
 |x::r,[]=>by simp[Hz]
 |x::r,y::t=>by
  unfold Hz;split
  ·rename_i h
   obtain⟨e,q,A⟩:=BE r t
   subst h;simp only[fM,bQ,e]
   exact⟨trivial,by omega,by omega⟩
  ·simp
theorem ZY(a b:vN):Hz (a.drop (Hz a b)) (b.drop (Hz a b))=0:=by
 obtain⟨e,q,A⟩:=BE a b
 have:=MU a b (Hz a b) e q A
 omega
theorem qC:∀ (k:Nat) (a m b:vN),Lt a m->Lt m b->a.take k=b.take k->k<=a.length->k<=b.length->m.take k=a.take k/\k<=m.length
 |0,a,m,b,_,_,_,_,_=>by simp
 |k+1,[],m,b,_,_,_,h,_=>by simp at h
 |k+1,x::a,m,[],_,_,_,_,h=>by simp at h
 |k+1,x::a,[],y::b,h,_,_,_,_=>absurd h (not_lt_nil _)
 |k+1,x::a,z::m,y::b,h1,h2,e,h4,h5=>by
  simp only[fM,List.cons.injEq]at e
  obtain⟨rfl,e⟩:=e
  have q:x=z:=by
   rcases Nm.1 h1 with h|h
   ·rcases Nm.1 h2 with h'|h'
    ·exact absurd (UInt8.lt_trans h h') (iP x)
    ·rw[h'.1]at h;exact absurd h (iP x)
   ·exact h.1
  subst q;have A:Lt a m:=by
   rcases Nm.1 h1 with h|h
   ·exact absurd h (iP x)
   ·exact h.2
  have H:Lt m b:=by
   rcases Nm.1 h2 with h|h
   ·exact absurd h (iP x)
   ·exact h.2
  obtain⟨K,O⟩:=qC k a m b A H e (by simpa using h4) (by simpa using h5)
  simp only[fM,K,bQ]
  exact⟨trivial,by omega⟩
theorem qI:∀ (k:Nat) (a b:vN),Lt a b->a.take k=b.take k->k<=a.length->k<=b.length->Lt (a.drop k) (b.drop k)
 |0,a,b,h,_,_,_=>h
 |k+1,[],b,_,_,h,_=>by simp at h
 |k+1,x::a,[],h,_,_,_=>absurd h (not_lt_nil _)
 |k+1,x::a,y::b,h,h1,h2,h3=>by
  simp only[fM,List.cons.injEq]at h1;rcases Nm.1 h with h|h
  ·rw[h1.1]at h;exact absurd h (iP y)
  ·exact qI k a b h.2 h1.2 (by simpa using h2) (by simpa using h3)
abbrev Ay.l(p:Ay):vN:=p.1.data.toList
structure Ep(f:Nat)(l:vL):Prop where
 size:∀ p∈l,p.1.size<=f/\p.1.size<=12/\Dy p.1=true/\0<p.2.size/\p.2.size<=80
 rise:l.Pairwise λp q=>Lt p.l q.l
theorem EG(b:vB)(k n:Nat)(h:b.size<=n):(b.extract k n).data.toList=b.data.toList.drop k:=by
 rw[fA,fV,fB,cG];rw[gW];have:b.data.toList.length=b.size:=rfl;omega
theorem Jw(b:vB)(k:Nat):(b.extract k b.size).size=b.size-k:=by rw[dI];omega
theorem Qo{b:vB}(h:Dy b=true)(k n:Nat):Dy (b.extract k n)=true:=by
 unfold Dy at *;rw[fJ]at *;intro x e;refine h x ?_;rw[fA,fV,fB]at e;exact List.mem_of_mem_drop (gE e)
def pd:Ay:=(⟨#[]⟩,⟨#[]⟩)
def Ak(l:vL):Nat:=Dg (l.getD 0 pd).1 (l.getD (l.length-1) pd).1
theorem Xr{l:vL}{R:Ay->Ay->Prop}(h:l.Pairwise R){i j:Nat}{p q:Ay}(hij:i<j)(hi:l[i]?=some p)(hj:l[j]?=some q):R p q:=by
 obtain⟨e,rfl⟩:=bI.1 hi
 obtain⟨A,rfl⟩:=bI.1 hj
 exact gD.1 h i j e A hij
theorem Rn{l:vL}(h:Ep f l)(h2:2<=l.length):∀ p∈l,p.l.take (Ak l)=(l.getD 0 pd).l.take (Ak l)/\Ak l<=p.1.size:=by
 intro p X
 obtain⟨i,e⟩:=dP X
 have Z:=(bI.1 e).1
 obtain⟨a,q⟩:∃ a,l[0]?=some a:=⟨_,bB vO⟩
 obtain⟨b,hb⟩:∃ b,l[l.length-1]?=some b:=⟨_,bB vO⟩
 have A:l.getD 0 pd=a:=by rw[bL,q];rfl
 have gb:l.getD (l.length-1) pd=b:=by rw[bL,hb];rfl
 have hk:Ak l=Hz a.l b.l:=by unfold Ak Dg;rw[A,gb]
 obtain⟨H,K,O⟩:=BE a.l b.l
 rw[hk,A]
 by_cases h0:i=0
 ·subst h0;rw[q]at e;obtain rfl:=bV e;exact⟨rfl,K⟩
 ·by_cases hn:i=l.length-1;{subst hn;rw[hb]at e;obtain rfl:=bV e;exact⟨H.symm,O⟩};exact qC _ a.l p.l b.l (Xr h.rise vO q e) (Xr h.rise vO e hb) H K O
theorem Ys{l:vL}(h:Ep f l)(hk:∀ p∈l,∀ q∈l,p.l.take k=q.l.take k)(hs:∀ p∈l,k<=p.1.size):Ep (f-k) (Ba k l):=by
 refine⟨λp e=>?_,?_⟩
 ·obtain⟨q,A,rfl⟩:=bC.1 e;obtain⟨Z,h2,K,O,X⟩:=h.size q A;refine⟨?_,?_,Qo K _ _,O,X⟩;{show (q.1.extract k q.1.size).size<=_;rw[Jw];omega};show (q.1.extract k q.1.size).size<=_;rw[Jw];omega
 ·unfold Ba;rw[gO];refine List.Pairwise.imp_of_mem (λ{p q} e A H=>?_) h.rise;show Lt (p.1.extract k p.1.size).data.toList (q.1.extract k q.1.size).data.toList;rw[EG _ _ _ (bO _),EG _ _ _ (bO _)];exact qI k _ _ H (hk p e q A) (hs p e) (hs q A)
theorem Uv{i:Nat}{l:vL}{p:Ay}(h:p∈Ah i l):p∈l/\∃ a r,p.l=a::r/\a.toNat=i:=by
 obtain⟨q,e⟩:=cE.1 h
 refine⟨q,?_⟩
 unfold Ve at e;cases hp:p.1.data.toList with
 |nil=>rw[hp]at e;cases e
 |cons a r=>rw[hp]at e;exact⟨a,r,hp,by simpa using e⟩
theorem pN{l:vL}(h:Ep f l):Ep f (Ah i l):=
 ⟨λp e=>h.size p (Uv e).1,List.Pairwise.filter _ h.rise⟩
theorem Yy{l:vL}(h:Ep f l):Ep (f-1) (Ba 1 (Ah i l)):=by
 refine Ys 1 (pN i h) (λp e q K=>?_) (λp e=>?_)
 ·obtain⟨_,a,r,A,H⟩:=Uv e;obtain⟨_,b,t,O,X⟩:=Uv K;rw[A,O,dO.1 (H.trans X.symm)];rfl
 ·obtain⟨_,a,r,A,H⟩:=Uv e;show 1<=p.1.data.toList.length;rw[show p.1.data.toList=a::r from A];simp
def Bj(B:vL->PT)(l:vL):Ai:=
 if l.length=0 then Cv
 else if l.length=1 then ⟨1,(l.getD 0 pd).1,(l.getD 0 pd).2,Dd 16⟩
 else if 0<Ak l then ⟨2,(l.getD 0 pd).1.extract 0 (Ak l),⟨#[]⟩,Ax (B (Ba (Ak l) l)).text::Dd 15⟩
 else ⟨3,⟨#[]⟩,if (l.getD 0 pd).1.size=0 then (l.getD 0 pd).2 else ⟨#[]⟩,(List.range 16).map λi=>if (Ah i l).length=0 then ⟨#[]⟩else Ax (B (Ba 1 (Ah i l))).text⟩
def Dc(B:vL->PT)(l:vL):List PT:=
 if l.length<=1 then []
 else if 0<Ak l then Ia (B (Ba (Ak l) l))
 else (List.range 16).flatMap λi=>if (Ah i l).length=0 then []else Ia (B (Ba 1 (Ah i l)))
def An:Nat->vL->PT
 |0,_=>.mk () []
 |f+1,l=>.mk (Cu (Bj (An f) l)) (Dc (An f) l)
theorem Ep.mono{l:vL}(h:Ep f l)(hg:f<=g):Ep g l:=⟨λp e=>by obtain⟨A,q⟩:=h.size p e;exact⟨by omega,q⟩,h.rise⟩
theorem ZP:∀ (l:vM) (i j:Nat) (r:vB),l[j]?=some r->r.size≠0->(i+j,r)∈Gy i l
 |[],i,j,r,h,_=>by simp at h
 |x::l,i,0,r,h,h0=>by
  simp at h;subst h;unfold Gy;rw[if_neg h0];exact bN ..
 |x::l,i,j+1,r,h,h0=>by
  have:=ZP l (i+1) j r (by simpa using h) h0
  rw[show i+(j+1)=i+1+j by omega];unfold Gy;split
  ·exact this
  ·exact bM _ this
theorem zO{α:Type}{a b:α}{l:List α}(ha:a∈l)(hb:b∈l)(h:a≠b):2<=l.length:=by
 match l,ha,hb with
 |[x],ha,hb =>rw[bG]at ha hb;exact absurd (ha.trans hb.symm) h
 |x::y::r,_,_=>simp
theorem uS{α:Type}{a:α}{l:List α}(ha:a∈l):1<=l.length:=by cases l<;>simp at ha ⊢
structure Yz(f:Nat)(T:PT)(n:Ai):Prop where
 text:T.text=Cu n
 good:Gn (Bx f) n
 kind:n.kind≠0
 small:T.text.size<32->T.kids=[]
theorem Yz.may{T:PT}(h:Yz f T n):Gj (Bx (f+1)) (Ax T.text)/\(T.text.size<32->Bx (f+1) (Ax T.text) n):=by
 by_cases hs:T.text.size<32
 ·(have e:Ax T.text=Cu n:=by unfold Ax;rw[if_pos hs,h.text]);(have q:Bx (f+1) (Ax T.text) n:=by rw[e];exact⟨h.good,rfl,by rw[<-h.text];exact hs,h.kind⟩);exact⟨.inr ⟨n,q⟩,λ_=>q⟩
 ·exact⟨.inl ⟨Aj T.text,Rp _,by unfold Ax;rw[if_neg hs]⟩,λh=>absurd h hs⟩
theorem Gj.pos{r:vB}(h:Gj (Bx f) r):r.size≠0:=by
 rcases h with h|⟨m,h⟩
 ·rw[h.size];omega
 ·exact (Bm f).pos r m h
theorem Yz.kid{T:PT}(h:Yz f T n):XX T:=by
 have e:=h.good.one (Bm f)
 refine⟨by have:=j8 n e;rw[h.text];omega,h.small,λH=>?_⟩
 obtain⟨xs,q,A⟩:=eJ n e h.kind
 rw[h.text,q];exact jl2 xs A
theorem YZ{T:PT}(h:¬ T.text.size<32):(Ax T.text).size=33:=by
 have:AG (Ax T.text):=⟨Aj T.text,Rp _,by unfold Ax;rw[if_neg h]⟩
 exact this.size
theorem OL:∀ (l:vM) (x:vB),x∈l->x.size<=(Aw l).size
 |y::l,x,h=>by
  rw[Qn];rcases bU.1 h with rfl|h
  ·omega
  ·have:=OL l x h;omega
theorem ON(xs:vM):(Aw xs).size<=(Fo xs).size:=by unfold Fo;rw[cO];omega
theorem aW{k:Nat}{l:vL}{i:Nat}(h:i<l.length):(Ba k l).getD i pd=((l.getD i pd).1.extract k (l.getD i pd).1.size,(l.getD i pd).2):=by
 unfold Ba;rw[bL,bY,bL,bB h];rfl
theorem Jy(l:vL):(Ba k l).length=l.length:=by simp[Ba]
theorem NR{l:vL}(h:0<l.length):Ak (Ba (Ak l) l)=0:=by
 have e:Ak (Ba (Ak l) l)=Hz (((l.getD 0 pd).l).drop (Ak l)) (((l.getD (l.length-1) pd).l).drop (Ak l)):=by(conv=>lhs;unfold Ak);rw[Jy,aW h,aW vO];unfold Dg;simp only;rw[EG _ _ _ (bO _),EG _ _ _ (bO _)];rfl
 rw[e];exact ZY _ _
theorem Rr{p:Ay}(h:Dy p.1=true){a:vU}{r:vN}(hp:p.l=a::r):a.toNat<16:=by
 have:a<=15:=of_decide_eq_true (fJ.1 h a (by rw[show p.1.data.toList=a::r from hp];exact bN ..))
 have:=fS.1 this
 have e:(15:vU).toNat=15:=rfl;omega
theorem good:∀ (f:Nat) (l:vL),Ep f l->Gn (Bx f) (Bj (An f) l)/\(l≠[]->Yz f (An (f+1) l) (Bj (An f) l))/\(2<=l.length->Ak l=0->(Bj (An f) l).kind=3):=by
 intro f;induction f with
 |zero =>(intro l h;have hl:l.length<=1:=by rcases fH l.length 2 with h2|h2;{omega};obtain⟨a,ha⟩:∃ a,l[0]?=some a:=⟨_,bB vO⟩;obtain⟨b,hb⟩:∃ b,l[1]?=some b:=⟨_,bB vO⟩;have A:=Xr h.rise vO ha hb;have:=(h.size b (bD hb)).1;rw[show b.l=[]from bF (by show b.1.size=0;omega)]at A;exact absurd A (not_lt_nil _));by_cases X:l.length=0;{(have e:Bj (An 0) l=Cv:=by unfold Bj;rw[if_pos X]);rw[e];exact⟨.none,λhn=>absurd (bF X) hn,λh2=>by omega⟩};have h1:l.length=1:=vO;obtain⟨p,K⟩:=vE (l.getD 0 pd);(have e:Bj (An 0) l=⟨1,p.1,p.2,Dd 16⟩:=by unfold Bj;rw[if_neg X,if_pos h1,K]);(have a7:p∈l:=by rw[K,bL,bB vO];exact dR _);obtain⟨s1,s2,s3,s4,s5⟩:=h.size p a7;have Z:Gn (Bx 0) ⟨1,p.1,p.2,Dd 16⟩:=.leaf p.1 p.2 (by simp[Ai.y2,s2,s3]) s4 s5;rw[e];exact⟨Z,λ_=>⟨by unfold An;rw[e];rfl,Z,by simp,λ_=>by unfold An Dc;rw[if_pos vO];rfl⟩,λh2=>by omega⟩
 |succ f ih =>intro l h;by_cases X:l.length=0;{(have e:Bj (An (f+1)) l=Cv:=by unfold Bj;rw[if_pos X]);rw[e];exact⟨.none,λhn=>absurd (bF X) hn,λh2=>by omega⟩};by_cases h1:l.length=1;{obtain⟨p,K⟩:=vE (l.getD 0 pd);(have e:Bj (An (f+1)) l=⟨1,p.1,p.2,Dd 16⟩:=by unfold Bj;rw[if_neg X,if_pos h1,K]);(have a7:p∈l:=by rw[K,bL,bB vO];exact dR _);obtain⟨s1,s2,s3,s4,s5⟩:=h.size p a7;have Z:Gn (Bx (f+1)) ⟨1,p.1,p.2,Dd 16⟩:=.leaf p.1 p.2 (by simp[Ai.y2,s2,s3]) s4 s5;rw[e];exact⟨Z,λ_=>⟨by unfold An;rw[e];rfl,Z,by simp,λ_=>by unfold An Dc;rw[if_pos vO];rfl⟩,λh2=>by omega⟩};have h2:2<=l.length:=vO;have H:=Rn h h2;obtain⟨a,ha⟩:∃ a,l[0]?=some a:=⟨_,bB vO⟩;obtain⟨b,hb⟩:∃ b,l[l.length-1]?=some b:=⟨_,bB vO⟩;(have ga:l.getD 0 pd=a:=by rw[bL,ha];rfl);(have gb:l.getD (l.length-1) pd=b:=by rw[bL,hb];rfl);have A:=Xr h.rise vO ha hb;obtain⟨c9,d0,b8,d1,b9⟩:=h.size a (bD ha);obtain⟨d2,d3,d4,d5,d6⟩:=h.size b (bD hb);by_cases hk:0<Ak l;{have c0:Ep f (Ba (Ak l) l):=(Ys (Ak l) h (λp K q hq=>(H p K).1.trans (H q hq).1.symm) λp K=>(H p K).2).mono vO;obtain⟨_,i2,i3⟩:=ih _ c0;(have b3:=i2 (λe=>by have:=Jy (Ak l) l;rw[e]at this;simp at this;omega);have c1:=i3 (by rw[Jy];omega) (NR vO);have e:Bj (An (f+1)) l=⟨2,a.1.extract 0 (Ak l),⟨#[]⟩,Ax (An (f+1) (Ba (Ak l) l)).text::Dd 15⟩:=by unfold Bj;rw[if_neg X,if_neg h1,if_pos hk,ga]);(have d7:=(H a (bD ha)).2;have c2:(a.1.extract 0 (Ak l)).size=Ak l:=by rw[dI];omega);(have Z:Gn (Bx (f+1)) (Bj (An (f+1)) l):=by rw[e];refine .ext _ _ ?_ b3.may.1.pos ?_;{simp[Ai.y2,c2,Qo b8];omega};by_cases hs:(An (f+1) (Ba (Ak l) l)).text.size<32;{exact .inr ⟨_,b3.may.2 hs,c1⟩};exact .inl ⟨_,Rp _,by unfold Ax;rw[if_neg hs]⟩);refine⟨Z,λ_=>⟨rfl,Z,by rw[e];simp,λa2=>?_⟩,λ_ a8=>by omega⟩;(have a0:(An (f+1+1) l).kids=Ia (An (f+1) (Ba (Ak l) l)):=by show Dc (An (f+1)) l=_;unfold Dc;rw[if_neg vO,if_pos hk]);rw[a0];unfold Ia;rw[if_pos];rcases fH (An (f+1) (Ba (Ak l) l)).text.size 32 with hx|hx;{exact hx};have c3:=YZ (T:=An (f+1) (Ba (Ak l) l)) vO;(have ht:(An (f+1+1) l).text=Py (Bj (An (f+1)) l):=by show Cu (Bj (An (f+1)) l)=_;rw[e];rfl);rw[ht,e]at a2;have:=ON [Av (Cl (a.1.extract 0 (Ak l)) false),Ax (An (f+1) (Ba (Ak l) l)).text];have:=OL [Av (Cl (a.1.extract 0 (Ak l)) false),Ax (An (f+1) (Ba (Ak l) l)).text] _ (bM _ (bN ..));have a3:(Fo [Av (Cl (a.1.extract 0 (Ak l)) false),Ax (An (f+1) (Ba (Ak l) l)).text]).size<32:=a2;omega};obtain⟨O,a5⟩:=vE ((List.range 16).map λi=>if (Ah i l).length=0 then (⟨#[]⟩:vB)else Ax (An (f+1) (Ba 1 (Ah i l))).text);(have e:Bj (An (f+1)) l=⟨3,⟨#[]⟩,if a.1.size=0 then a.2 else ⟨#[]⟩,O⟩:=by unfold Bj;rw[if_neg X,if_neg h1,if_neg hk,ga,a5]);have a4:∀ i,(Ah i l).length≠0->Yz f (An (f+1) (Ba 1 (Ah i l))) (Bj (An f) (Ba 1 (Ah i l))):=λi hi =>(ih _ (Yy i h)).2.1 (λe=>by have:=Jy 1 (Ah i l);rw[e]at this;simp at this;omega);(have b4:O.length=16:=by rw[a5];simp);(have b5:∀ i,i<16->O[i]?=some (if (Ah i l).length=0 then (⟨#[]⟩:vB)else Ax (An (f+1) (Ba 1 (Ah i l))).text):=λi hi=>by rw[a5,bY,fD hi];rfl);(have b0:∀ r∈O,r.size≠0->Gj (Bx (f+1)) r:=by intro r hr b6;rw[a5]at hr;obtain⟨i,_,rfl⟩:=bC.1 hr;by_cases hi:(Ah i l).length=0;{rw[if_pos hi]at b6;exact absurd rfl b6};rw[if_neg hi];exact (a4 i hi).may.1);(have a9:∀ (p:Ay) (x:vU) (r:vN),p∈l->p.l=x::r->∃ y,(x.toNat,y)∈Gy 0 O:=by(intro p x r K b7;have hx:=Rr (h.size p K).2.2.1 b7;have hc:(Ah x.toNat l).length≠0:=by intro X;have hm:p∈Ah x.toNat l:=cE.2 ⟨K,by unfold Ve;rw[show p.1.data.toList=x::r from b7];simp⟩;rw[bF X]at hm;cases hm);have h5:=b5 x.toNat hx;rw[if_neg hc]at h5;have:=ZP O 0 x.toNat _ h5 (a4 _ hc).may.1.pos;rw[bX]at this;exact⟨_,this⟩);(have d8:Ak l=Hz a.l b.l:=by unfold Ak Dg;rw[ga,gb]);have a8:Hz a.l b.l=0:=vO;(have a1:2<=min (if a.1.size=0 then a.2 else (⟨#[]⟩:vB)).size 1+(Gy 0 O).length:=by cases hal:a.l with| nil =>((have c4:a.1.size=0:=by show a.1.data.toList.length=0;rw[show a.1.data.toList=[]from hal];rfl);rw[if_pos c4];cases hbl:b.l with| nil=>rw[hbl]at A;exact absurd A (not_lt_nil _)| cons y r =>obtain⟨z,hz⟩:=a9 b y r (bD hb) hbl;have:=uS hz;omega)| cons x r =>cases hbl:b.l with| nil=>rw[hbl]at A;exact absurd A (not_lt_nil _)| cons y t =>obtain⟨z,hz⟩:=a9 a x r (bD ha) hal;obtain⟨z',c5⟩:=a9 b y t (bD hb) hbl;(have c7:x≠y:=by intro e;rw[hal,hbl,e]at a8;simp[Hz]at a8);have:=zO hz c5 (λe=>c7 (dO.1 (Prod.mk.inj e).1));omega);(have Z:Gn (Bx (f+1)) (Bj (An (f+1)) l):=by rw[e];refine .branch _ _ b4 ?_ b0 a1;split;{exact b9};exact cD _);refine⟨Z,λ_=>⟨rfl,Z,by rw[e];simp,λa2=>?_⟩,λ_ _=>by rw[e]⟩;(have a0:(An (f+1+1) l).kids=(List.range 16).flatMap λi=>if (Ah i l).length=0 then []else Ia (An (f+1) (Ba 1 (Ah i l))):=by show Dc (An (f+1)) l=_;unfold Dc;rw[if_neg vO,if_neg hk]);rw[a0,List.flatMap_eq_nil_iff];intro i hi;have b1:=dY.1 hi;by_cases hc:(Ah i l).length=0;{rw[if_pos hc]};rw[if_neg hc];unfold Ia;rw[if_pos];rcases fH (An (f+1) (Ba 1 (Ah i l))).text.size 32 with hx|hx;{exact hx};have c3:=YZ (T:=An (f+1) (Ba 1 (Ah i l))) vO;(have ht:(An (f+1+1) l).text=AF (Bj (An (f+1)) l):=by show Cu (Bj (An (f+1)) l)=_;rw[e];rfl);(rw[ht,e]at a2;have h6:=b5 i b1;rw[if_neg hc]at h6;have c8:Nt ⟨3,⟨#[]⟩,if a.1.size=0 then a.2 else ⟨#[]⟩,O⟩=Pd O (if a.1.size=0 then a.2 else ⟨#[]⟩):=ND _ b4;have b2:Ax (An (f+1) (Ba 1 (Ah i l))).text∈Pd O (if a.1.size=0 then a.2 else ⟨#[]⟩):=by unfold Pd;refine gR _ (bC.2 ⟨_,bD h6,?_⟩);rw[if_neg vO]);have h7:=OL _ _ b2;have h8:=ON (Pd O (if a.1.size=0 then a.2 else ⟨#[]⟩));have a3:(Fo (Nt ⟨3,⟨#[]⟩,if a.1.size=0 then a.2 else ⟨#[]⟩,O⟩)).size<32:=a2;rw[c8]at a3;omega
def EX(l:vL)(T:PT):Prop:=∀ (w:vW) (v:vV),Ha w->Jv w v l->vQ 70 #[v] w λe w'=>∃ k,e=.returned (Fx k)/\Lv (λx=>(w:Nat)<=x) T k w'/\Af w w'
theorem QV(W1 W2:vW)(bn:Nat)(h1:W1=w.alloc (.cells #[(),qe] 176))(h2:Af W1 W2)(h3:bn=(W1:Nat))(h4:bn<(W2:Nat)):Oy w W2 w bn () [] qe []:=by
 have A:(W1:Nat)=↑w+1:=by rw[h1,bJ]
 have q:Af w W2:=(by rw[h1]at h2;exact ((Aa w).alloc _).trans h2)
 refine⟨?_,bO _,Ar.nil _ _ q,λ_=>rfl,λe=>(by cases e),by omega,λe=>(by cases e),by omega,h4,by unfold Hm;rfl⟩
 rw[h1]at h2;exact (Ae.new w _).Z h2 kI
theorem e3(f:Nat)(l:vL)(h0:l.length=0):EX l (An (f+1) l):=by
 intro w v hc hv
 obtain⟨a,c,Z⟩:=hv.sl
 rw[h0]at Z;subst Z;have ht:An (f+1) l=.mk (Cu Cv) []:=by show PT.mk (Cu (Bj _ l)) (Dc _ l)=_;unfold Bj Dc;rw[if_pos h0,if_pos vO]
 rw[ht];clear hv hc h0
 obtain⟨W1,q⟩:=vE (w.alloc (.cells #[(),qe] 176))
 have a1:=J q;go_enter func70,ntmps70;go_wp2_with (first|(refine Di Ac rfl rfl ?_;intro W3 a0 K;refine Bt (vs:=Cv.cells) rfl rfl rfl rfl a0 rfl Ab (Ai.one _) ?_;intro W4 A O;simp only[bJ]at A O)|(refine Gz 215 (.tmp 4) rfl rfl _ _ rfl (Ka _ _ Cv rfl A) ?_))
 have H:Af W1 W4:=by rw[<-q]at K;exact K.O O (λx hx e=>by have e:x=(w:Nat)+1:=e;rw[q,bJ]at hx;omega)
 have HH:=J (QV w W1 W4 ((w:Nat)+1) q H (by rw[q,bJ]) A.lt);have HG:=J (Gn.none (I:=Bx f));clear K O a0 q a1 ht;unfold Ai.V;refine vH (IG (Bm f) _ Cv HG.o) λw9 hE=>?_;have h9:=HH.o.ext hE;have q0:w9.cell? w=some (.string ⟨#[]⟩):=h9.blk.cell (i:=0) vF;have f0:w9.frozen? w=false:=h9.blk.frozen;have H9:=J (h9.setText (Cu Cv))
 obtain⟨tx,X⟩:=vE (Cu Cv)
 rw[<-X]at H9 ⊢;have a2:=J X;clear h9 X A H;go_wp2
 go_ret
 exact⟨↑w,rfl,by rw[<-a2.o];exact H9.o.part,H9.o.row.ext⟩
theorem l0(f:Nat)(l:vL)(H:l.length=1)(hok:Ep f l):EX l (An (f+1) l):=by
 intro w v hc hv
 obtain⟨p,hp⟩:∃ p,l=[p]:=by match l,H with| [p],_=>exact⟨p,rfl⟩
 have hn:Bj (An f) l=⟨1,p.1,p.2,Dd 16⟩:=by unfold Bj;rw[if_neg vO,if_pos H,hp];rfl
 have q:=(good f l hok).1;rw[hn]at q;have ht:An (f+1) l=.mk (Cu ⟨1,p.1,p.2,Dd 16⟩) []:=by show PT.mk (Cu (Bj _ l)) (Dc _ l)=_;rw[hn];unfold Dc;rw[if_pos vO]
 obtain⟨T,hT⟩:=vE (An (f+1) l)
 rw[<-hT]at ht ⊢;have HT:=J ht;rcases hv with⟨_,_,_,h0⟩|⟨b,o,c,rfl,hb,hcl,hcell⟩
 ·rw[h0]at H;cases H
 obtain⟨q1,q2⟩:=hcell 0 p (by rw[hp];rfl)
 rw[iS,gJ]at q1 q2;rw[H]at hcl ⊢
 obtain⟨x,y⟩:=p
 have q:=q;have Q1:=J q1;have Q2:=J q2;have HG:=J q
 obtain⟨W1,A⟩:=vE (w.alloc (.cells #[(),qe] 176))
 clear hc H hok hp hn q ht hT hcell q1 q2;go_enter func70,ntmps70;go_wp2_with (refine Di Ac rfl rfl ?_;intro W3 a3 a0;refine Bt (vs:=Cv.cells) rfl rfl rfl rfl a3 rfl Ab (Ai.one _) ?_;intro W4 O a1;simp only[bJ]at O a1)
 have Z:Af W1 W4:=by rw[<-A]at a0;exact a0.O a1 (λx hx e=>by have e:x=(w:Nat)+1:=e;rw[A,bJ]at hx;omega)
 have hh:=QV w W1 W4 ((w:Nat)+1) A Z (by rw[A,bJ]) O.lt;have X:=J hh;have a4:=J O;clear a0 a1 a3 A O Z hh;refine Lc [0,1,2,3,4,5,6,7,8,9] [9] Af Aa Ap vY vY vY ?_;iterate 3 refine vP ?_
 refine qL ⟨b,o,none⟩ _ rfl (λw1 H=>Bv Ag rfl (Am (Am (by exact Q1.o) (X.o.row.ext.trans (Ao _))) H)) (vS ?_);iterate 3 refine vP ?_
 refine qL ⟨b,o+1,none⟩ _ rfl (λw1 H=>Bv Ag rfl (Am (Am (by exact Q2.o) (X.o.row.ext.trans (Ao _))) H)) (vS ?_)
 refine vP ?_
 refine qH _ rfl (λw5 he K hK=>?_);have hX:=(Ao W4).trans he;refine Yw (vs:=Uy 1 x y ()) rfl rfl rfl (a4.o.Z hX kI) rfl Ab (CS _ _ _ _) ?_;intro W6 a5 a7;have H6:=J ((X.o.ext hX).other a7);have a8:=J (show Ae W6 ((w:Nat)+1) (.cells (Ai.cells ⟨1,x,y,Dd 16⟩).toArray 215)from a5);clear he hX a5 a7 Q1 Q2 a4 X;refine vS ?_;refine hK _ _ ?_;clear hK K;refine qE (λw7 he=>?_);have HH:=J (H6.o.ext he);have a9:=a8.o.Z he kI;clear he a8 H6;go_wp2_with (refine Gz 215 (.tmp 4) rfl rfl _ _ rfl (Ka _ _ ⟨1,x,y,Dd 16⟩ rfl a9) ?_)
 refine vH (IG (Bm _) _ ⟨1,x,y,Dd 16⟩ HG.o) λw9 hE=>?_;have h9:=HH.o.ext hE;have q0:w9.cell? w=some (.string ⟨#[]⟩):=h9.blk.cell (i:=0) vF;have f0:w9.frozen? w=false:=h9.blk.frozen;have H9:=J (h9.setText (Cu ⟨1,x,y,Dd 16⟩))
 obtain⟨tx,a2⟩:=vE (Cu ⟨1,x,y,Dd 16⟩)
 rw[<-a2]at H9 ⊢;have b0:=J a2;clear h9 a2;go_wp2
 go_ret
 exact⟨↑w,rfl,by rw[HT.o, <-b0.o];exact H9.o.part,H9.o.row.ext⟩
theorem o1(f:Nat)(l:vL)(O:2<=l.length)(hln:l.length<=1000)(hok:Ep (f+1) l)(hk:0<Ak l)(HB:EX (Ba (Ak l) l) (An (f+1) (Ba (Ak l) l))):EX l (An (f+1+1) l):=by
 intro w v hc hv
 obtain⟨a,ha⟩:∃ a,l[0]?=some a:=⟨_,bB vO⟩
 obtain⟨z,hz⟩:∃ z,l[l.length-1]?=some z:=⟨_,bB vO⟩
 have ga:l.getD 0 pd=a:=by rw[bL,ha];rfl
 have gz:l.getD (l.length-1) pd=z:=by rw[bL,hz];rfl
 obtain⟨f7,f8,d5,f9,g0⟩:=hok.size a (bD ha)
 obtain⟨g2,g3,d6,g4,g5⟩:=hok.size z (bD hz)
 have H:=(good (f+1) l hok).1;have d8:=hv;rcases hv with⟨_,_,_,h0⟩|⟨b,o,c,rfl,hb,hcl,hcell⟩
 ·rw[h0]at O;simp at O
 obtain⟨q1,b6⟩:=hcell 0 a ha
 rw[iS,gJ]at q1 b6
 obtain⟨q2,_⟩:=hcell (l.length-1) z hz
 obtain⟨A,X⟩:=vE (Ak l)
 have b7:A=Dg a.1 z.1:=by rw[X];unfold Ak;rw[ga,gz]
 obtain⟨x,y⟩:=a
 obtain⟨xb,yb⟩:=z
 simp only at f7 f8 d5 f9 g0 g2 g3 d6 g4 g5 q1 b6 q2 b7;have a0:=Ys (Ak l) hok (λp hp q hq=>((Rn hok O p hp).1).trans (Rn hok O q hq).1.symm) (λp hp=>(Rn hok O p hp).2);have a7:=(Rn hok O (x,y) (bD ha)).2;have d9:∀ p∈l,A<=p.1.size/\p.1.size<=1000000:=λp hp=>⟨by rw[X];exact (Rn hok O p hp).2,kL ((hok.size p hp).2.1)⟩;rw[<-X]at hk a0 a7 HB;have a7:A<=x.size:=a7
 obtain⟨T',a9⟩:∃ T',T'=An (f+1) (Ba A l):=⟨_,rfl⟩
 have b8:=(good f _ (a0.mono vO)).2.1 (λe=>by have:=Jy A l;rw[e]at this;simp at this;omega);rw[<-a9]at HB b8
 obtain⟨r,hr⟩:=vE (Ax T'.text)
 have hn:Bj (An (f+1)) l=⟨2,x.extract 0 A,⟨#[]⟩,r::Dd 15⟩:=by unfold Bj;rw[if_neg vO,if_neg vO, <-X,if_pos hk,ga, <-a9, <-hr]
 rw[hn]at H;have ht:An (f+1+1) l=.mk (Cu ⟨2,x.extract 0 A,⟨#[]⟩,r::Dd 15⟩) (Ia T'):=by show PT.mk (Cu (Bj _ l)) (Dc _ l)=_;rw[hn];unfold Dc;rw[if_neg vO, <-X,if_pos hk, <-a9]
 obtain⟨T,hT⟩:=vE (An (f+1+1) l)
 rw[<-hT]at ht ⊢;have c0:((l.length:Int) == 0)=false:=by simp;exact λe=>by rw[e]at O;simp at O
 have c1:¬(l.length:Int)=0:=vO
 have c2:((l.length:Int) == 1)=false:=by simp;omega
 have c3:¬(l.length:Int)=1:=vO
 have c4:(0:Int)<=(l.length:Int)-1:=vO
 have c5:(l.length:Int)-1<(l.length:Int):=vO
 have c6:((l.length:Int)-1).toNat=l.length-1:=vO
 have c7:(0:Int)<(l.length:Int):=vO
 have d7:0<l.length:=vO
 have d0:0<A:=hk;have e0:(0:Int)<(A:Int):=vO
 have e1:(A:Int)<=(x.size:Int):=vO
 have e2:(x.extract 0 A).size=A:=by rw[dI];omega
 have HT:=J ht;have Q1:=J q1;have Q2:=J q2;have e3:=J b7;have HG:=J H;have g6:=J d8;have g7:=J d9;have d2:=J b8.kid;have HR:=J hr;have g8:=J HB;have HC:=J hc;have HL:=J (show Ba A l≠[]from λe=>by have:=Jy A l;rw[e]at this;simp at this;omega);have g9:=J (show (Ba A l).length<=1000000 by rw[Jy];omega);clear hc ha hz ga gz hok H d8 hcell q1 b6 q2 X b7 a0 a7 d9 a9 b8 hr hn ht hT HB d5 d6 e2
 obtain⟨W1,a1⟩:=vE (w.alloc (.cells #[(),qe] 176))
 go_enter func70,ntmps70;go_wp2_with (refine Di Ac rfl rfl ?_;intro W3 e4 b9;refine Bt (vs:=Cv.cells) rfl rfl rfl rfl e4 rfl Ab (Ai.one _) ?_;intro W4 b0 c9;simp only[bJ]at b0 c9)
 have a2:Af W1 W4:=by rw[<-a1]at b9;exact b9.O c9 (λx hx e=>by have e:x=(w:Nat)+1:=e;rw[a1,bJ]at hx;omega)
 have hh:=QV w W1 W4 ((w:Nat)+1) a1 a2 (by rw[a1,bJ]) b0.lt;have e5:=J hh;have e6:=J b0;have HX:=J hh.row.ext;clear b9 c9 e4 a1 b0 a2 hh;refine Hs [0,1,2,3,4,5,6,7,8,9,10,11,12,13] Af Aa Ap vY vY vY ?_;iterate 3 refine vK ?_
 refine Db ⟨b,o,none⟩ _ rfl (λw1 Z=>Bv Ag rfl (Am (Am (by exact Q1.o) (HX.o.trans (Ao _))) Z)) (vS ?_);iterate 6 refine vK ?_
 refine Db ⟨b,o+(l.length-1)*2,none⟩ _ rfl (λw1 Z=>Bv Ag rfl (Am (Am (by exact Q2.o) (HX.o.trans (Ao _))) Z)) (vS ?_);refine Ma _ 120 #[x,xb] (.int .i64 (A:Nat)) rfl (λw1=>Fb (vX 120) vY) (λw1 Z=>by rw[e3.o];exact (GQ w1 x xb vO vO).mono λe w2 ⟨Z,n,O⟩=>⟨Z,by rw[O];exact (Aa w1).drewN n⟩) ?_;refine vS ?_;iterate 2 refine vK ?_
 refine Hi (λw5 he=>?_);have b1:=(Ao W4).trans he;have e7:=J (e5.o.ext b1);have e8:=J (e6.o.Z b1 kI);have HX:=J (HX.o.trans b1);clear he b1 e5 e6;go_wp2_with fail
 refine Hs [0,1,2,3,4,5,6,7,8,9,10,11,12] Af Aa Ap vY vY vY ?_;iterate 3 refine vK ?_
 refine Db ⟨b,o,none⟩ _ rfl (λw1 Z=>Bv Ag rfl (Am (Am (by exact Q1.o) (HX.o.trans (Ao _))) Z)) (vS ?_);iterate 6 refine vK ?_
 refine Db ⟨b,o+(l.length-1)*2,none⟩ _ rfl (λw1 Z=>Bv Ag rfl (Am (Am (by exact Q2.o) (HX.o.trans (Ao _))) Z)) (vS ?_);refine Ma _ 120 #[x,xb] (.int .i64 (A:Nat)) rfl (λw1=>Fb (vX 120) vY) (λw1 Z=>by rw[e3.o];exact (GQ w1 x xb vO vO).mono λe w2 ⟨Z,n,O⟩=>⟨Z,by rw[O];exact (Aa w1).drewN n⟩) ?_;refine vS ?_
 refine vK ?_
 refine Hi (λw6 he=>?_);have b2:=(Ao w5).trans he;have h3:=J (e7.o.ext b2);have e9:=e8.o.Z b2 kI;have HX:=J (HX.o.trans b2);have q6:=Am Q1.o HX.o;clear he b2 e7 e8;go_wp2_with (refine Bt (vs:=Uy 2 (x.extract 0 A) () ()) rfl rfl rfl rfl e9 rfl Ab (CS _ _ _ _) ?_;intro W7 f1 f2)
 have f4:=J (h3.o.other f2);have h4:=J f1;clear f1 f2 e9 q6;have HX:=J f4.o.row.ext;refine (lG W7 _ A l (g6.o.ext HX.o) vO g7.o).mono ?_;rintro e w8 ⟨v8,rfl,b3⟩;have b4:Af W7 w8:=b3.ext;have h5:=J (f4.o.ext b4);have h6:=J (h4.o.Z b4 kI);have a3:=J b3.rd;have f5:=HC.o.ext (HX.o.trans b4)
 obtain⟨a8,c8,h7⟩:=b3.sl
 subst h7;clear b3 b4;go_wp2_with fail
 refine (sY f5 h5.o (by simp) _ (Ba A l) a3.o HL.o g9.o T' d2.o (g8.o w8 _ f5 a3.o)).mono ?_;rintro e b5 ⟨u,bs,rfl,f6,i0,d3,a4⟩;rw[<-HR.o];have K:=h6.o.Z a4 (by rintro (h|h)<;>first|omega|cases h);have q3:b5.cell? ⟨(w:Nat)+1,3,none⟩=some (.string ⟨#[]⟩):=K.cell (i:=3) vF;have f3:b5.frozen? ⟨(w:Nat)+1,3,none⟩=false:=K.frozen;have a5:=K.z2 (i:=3) r;have d4:Hid (Ae (b5.setCell ⟨(w:Nat)+1,3,none⟩ r) ((w:Nat)+1) (.cells (Ai.cells ⟨2,x.extract 0 A,⟨#[]⟩,r::Dd 15⟩).toArray 215)):=J a5;have HH:=J (f6.other (Ad.z4 b5 ⟨(w:Nat)+1,3,none⟩ r));clear f6 d3 a4 K a5;go_wp2_with (refine Gz 215 (.tmp 4) rfl rfl _ _ rfl (Ka _ _ ⟨2,x.extract 0 A,⟨#[]⟩,r::Dd 15⟩ rfl d4.o) ?_)
 refine vH (IG (Bm _) _ ⟨2,x.extract 0 A,⟨#[]⟩,r::Dd 15⟩ HG.o) λw9 hE=>?_;have h9:=HH.o.ext hE;have q0:w9.cell? w=some (.string ⟨#[]⟩):=h9.blk.cell (i:=0) vF;have f0:w9.frozen? w=false:=h9.blk.frozen;have H9:=J (h9.setText (Cu ⟨2,x.extract 0 A,⟨#[]⟩,r::Dd 15⟩))
 obtain⟨tx,d1⟩:=vE (Cu ⟨2,x.extract 0 A,⟨#[]⟩,r::Dd 15⟩)
 rw[<-d1]at H9 ⊢;have h8:=J d1;clear h9 d1;go_wp2
 go_ret
 exact⟨↑w,rfl,by rw[HT.o, <-h8.o];exact H9.o.part,H9.o.row.ext⟩
def Vg(B:vL->PT)(l:vL)(k:Nat):List PT:=(List.range k).flatMap λi=>if (Ah i l).length=0 then []else Ia (B (Ba 1 (Ah i l)))
theorem OM(B:vL->PT)(l:vL)(k:Nat):Vg B l (k+1)=Vg B l k++(if (Ah k l).length=0 then []else Ia (B (Ba 1 (Ah k l)))):=by
 unfold Vg;rw[gM,dS];simp
def X7(w:vW)(bn:Nat)(B:vL->PT)(l:vL)(rs:vM)(i:vV)(wr:vW):Prop:=∃ k:Nat,k<=16/\i=.int .i64 k/\∃ u bs,Oy w wr w bn () (Vg B l k) u bs/\bs.length<=k/\Ae wr bn (.cells (Rk rs k).cells.toArray 215)
theorem Ou{o:Oper}{w:vW}{K:Act->vW->Prop}{f:FuncId}(hv:(execOp a.eval o).run P w=.ok (.enter f args) w)(h:Calls P f args w λe q=>∃ v,e=.returned v/\K (a.put o.dst v) q):o.wp P a w K Q:=by
 unfold Oper.wp;rw[hv];exact h.mono λe q ⟨v,A,H⟩=>by subst A;exact H
theorem H_(f:Nat)(l:vL)(h2:2<=l.length)(hln:l.length<=1000)(hok:Ep (f+1) l)(hk:¬ 0<Ak l)(HB:∀ i,(Ah i l).length≠0->EX (Ba 1 (Ah i l)) (An (f+1) (Ba 1 (Ah i l)))):EX l (An (f+1+1) l):=by
 intro w v hc hv
 obtain⟨a,ha⟩:∃ a,l[0]?=some a:=⟨_,bB vO⟩
 obtain⟨z,hz⟩:∃ z,l[l.length-1]?=some z:=⟨_,bB vO⟩
 have ga:l.getD 0 pd=a:=by rw[bL,ha];rfl
 have gz:l.getD (l.length-1) pd=z:=by rw[bL,hz];rfl
 obtain⟨i0,i1,f1,i2,i3⟩:=hok.size a (bD ha)
 obtain⟨i4,i5,f3,i6,i7⟩:=hok.size z (bD hz)
 have H:=(good (f+1) l hok).1;have f4:=hv;rcases hv with⟨_,_,_,h0⟩|⟨b,o,c,rfl,hb,hcl,hcell⟩
 ·rw[h0]at h2;simp at h2
 obtain⟨q1,a3⟩:=hcell 0 a ha
 rw[iS,gJ]at q1 a3
 obtain⟨q2,_⟩:=hcell (l.length-1) z hz
 obtain⟨kk,d1⟩:=vE (Ak l)
 have d2:kk=Dg a.1 z.1:=by rw[d1];unfold Ak;rw[ga,gz]
 obtain⟨x,y⟩:=a
 obtain⟨xb,yb⟩:=z
 simp only at i0 i1 f1 i2 i3 i4 i5 f3 i6 i7 q1 a3 q2 d2
 obtain⟨q,b5⟩:=vE ((List.range 16).map λi=>if (Ah i l).length=0 then (⟨#[]⟩:vB)else Ax (An (f+1) (Ba 1 (Ah i l))).text)
 obtain⟨val,a0⟩:=vE (if x.size=0 then y else (⟨#[]⟩:vB))
 have hn:Bj (An (f+1)) l=⟨3,⟨#[]⟩,val,q⟩:=by unfold Bj;rw[if_neg vO,if_neg vO,if_neg hk,ga,b5,a0]
 rw[hn]at H;have ht:An (f+1+1) l=.mk (Cu ⟨3,⟨#[]⟩,val,q⟩) (Vg (An (f+1)) l 16):=by show PT.mk (Cu (Bj _ l)) (Dc _ l)=_;rw[hn];unfold Dc;rw[if_neg vO,if_neg hk];rfl
 obtain⟨T,hT⟩:=vE (An (f+1+1) l)
 rw[<-hT]at ht ⊢;have f5:q.length=16:=by rw[b5];simp
 have f6:∀ i,i<16->q[i]?=some (if (Ah i l).length=0 then (⟨#[]⟩:vB)else Ax (An (f+1) (Ba 1 (Ah i l))).text):=λi hi=>by rw[b5,bY,fD hi];rfl
 have b0:∀ i,(Ah i l).length≠0->XX (An (f+1) (Ba 1 (Ah i l))):=λi hi =>(((good f _ (Yy i hok)).2.1 λe=>by have:=Jy 1 (Ah i l);rw[e]at this;simp at this;omega).kid)
 have d3:∀ p∈l,p.1.size<=1000000:=λp hp=>kL ((hok.size p hp).2.1)
 have f8:∀ i,∀ p∈Ah i l,1<=p.1.size/\p.1.size<=1000000:=λi p hp=>by obtain⟨hm,a',r',e',_⟩:=Uv hp;exact⟨by show 1<=p.1.data.toList.length;rw[show p.1.data.toList=a'::r' from e'];simp,d3 p hm⟩
 have f9:∀ i,(Ah i l).length<=1000:=λi=>bH (fF _ _) hln;have c0:((l.length:Int) == 0)=false:=by simp;exact λe=>by rw[e]at h2;simp at h2
 have c1:¬(l.length:Int)=0:=vO
 have c2:((l.length:Int) == 1)=false:=by simp;omega
 have c3:¬(l.length:Int)=1:=vO
 have c4:(0:Int)<=(l.length:Int)-1:=vO
 have c5:(l.length:Int)-1<(l.length:Int):=vO
 have c6:((l.length:Int)-1).toNat=l.length-1:=vO
 have c7:(0:Int)<(l.length:Int):=vO
 have d7:0<l.length:=vO
 rw[<-d1]at hk;have e0:¬(0:Int)<(kk:Int):=vO
 have HT:=J ht;have Q1:=J q1;have i8:=J a3;have Q2:=J q2;have i9:=J d2;have HG:=J H;have j0:=J f4;have j1:=J d3;have j2:=J f8;have g0:=J f9;have e8:=J b0;have j3:=J f6;have a5:=J f5;have b2:=J a0;have j4:=J HB;have HC:=J hc;clear hc ha hz ga gz hok H f4 hcell q1 a3 q2 d1 d2 d3 f8 f9 b0 f6 f5 a0 b5 hn ht hT HB f1 f3
 obtain⟨W1,a7⟩:=vE (w.alloc (.cells #[(),qe] 176))
 go_enter func70,ntmps70;go_wp2_with (refine Di Ac rfl rfl ?_;intro W3 g2 d4;refine Bt (vs:=Cv.cells) rfl rfl rfl rfl g2 rfl Ab (Ai.one _) ?_;intro W4 b6 d5;simp only[bJ]at b6 d5)
 have b3:Af W1 W4:=by rw[<-a7]at d4;exact d4.O d5 (λx hx e=>by have e:x=(w:Nat)+1:=e;rw[a7,bJ]at hx;omega)
 have hh:=QV w W1 W4 ((w:Nat)+1) a7 b3 (by rw[a7,bJ]) b6.lt;have g3:=J hh;have g4:=J b6;have HX:=J hh.row.ext;clear d4 d5 g2 a7 b6 b3 hh;refine Hs [0,1,2,3,4,5,6,7,8,9,10,11,12,13] Af Aa Ap vY vY vY ?_;iterate 3 refine vK ?_
 refine Db ⟨b,o,none⟩ _ rfl (λw1 h1=>Bv Ag rfl (Am (Am (by exact Q1.o) (HX.o.trans (Ao _))) h1)) (vS ?_);iterate 6 refine vK ?_
 refine Db ⟨b,o+(l.length-1)*2,none⟩ _ rfl (λw1 h1=>Bv Ag rfl (Am (Am (by exact Q2.o) (HX.o.trans (Ao _))) h1)) (vS ?_);refine Ma _ 120 #[x,xb] (.int .i64 (kk:Nat)) rfl (λw1=>Fb (vX 120) vY) (λw1 h1=>by rw[i9.o];exact (GQ w1 x xb vO vO).mono λe w2 ⟨h1,n,h2⟩=>⟨h1,by rw[h2];exact (Aa w1).drewN n⟩) ?_;refine vS ?_;iterate 2 refine vK ?_
 refine Hi (λw5 A=>?_);have b7:=(Ao W4).trans A;have O:=J (g3.o.ext b7);have b8:=J (g4.o.Z b7 kI);have HX:=J (HX.o.trans b7);clear A b7 g3 g4;have q0:=b8.o.cell (i:=0) (v:=.int .i64 0) vF;have f0:w5.frozen? ((w:Nat)+1:)=false:=b8.o.frozen;have K6:=Ad.z4 w5 ((w:Nat)+1:) (.int .i64 3);have b9:=J (O.o.other K6);have c8:Hid (Ae (w5.setCell ((w:Nat)+1:) (.int .i64 3)) ((w:Nat)+1) (.cells (Rk q 0).cells.toArray 215)):=J (b8.o.z2 (i:=0) (.int .i64 3));clear K6 b8 O HX;go_wp2
 go_loopw [11] (λi wr=>X7 w ((w:Nat)+1) (An (f+1)) l q i wr) (λi _=>16-(intOf i).toNat)
 case atStart=>exact⟨0,by omega,rfl,_,[],b9.o,by simp,c8.o⟩
 case round =>obtain⟨k,e9,rfl,u,bs,hH,k4,Z⟩:=hrel;obtain⟨au,cu,hu⟩:=hH.row.sl;subst hu;have HH:=J hH;have HB:=J Z;have HX:=J hH.row.ext;clear hH Z;by_cases hlt:k<16;{have b1:(k:Int)<16:=vO;have k5:=HH.o.ml;have QI:=J (show (wr.alloc (.cells #[(k:Int)] 3)).cell? wr=some (.int .i64 (k:Int))from(Ae.new wr _).cell vF);have g5:=YC HH.o.row;have NF:=J (show ¬((wr:Nat)=↑w\/(wr:Nat)=↑w+1\/(Value.slice au bs.length cu).ownBlock=some (wr:Nat))from λh=>by rcases h with h|h|h;{omega};{omega};exact g5 h);(clear g5;go_wp2_with fail);(refine Na [0,1,2,3,7,4,5,6,8,9] [4,5,6,9] Af (Ad λx=>x=(w:Nat)\/x=(w:Nat)+1\/(Value.slice au bs.length cu).ownBlock=some x) Aa Ap (λx y z h k=>Ad.trans h k) (λx y h=>h.mono kZ) vY vY vY ?_;refine Fa wr _ rfl (λw2 h2=>Bv Fl rfl (Ed (by exact QI.o) h2 (by exact NF.o))) (vS ?_);iterate 4 refine vD ?_);refine Hh _ rfl (λw1 A K hK=>?_);have d6:=(((Aa wr).alloc (.cells #[(k:Int)] 3)).trans (Ao _)).trans A;have g6:=Am (Am QI.o (Ao _)) A;refine Ou (Fb (vX 123) vY) ((wX w1 _ wr k l (j0.o.ext (HX.o.trans d6)) vO j1.o vO g6).mono ?_);rintro e w2 ⟨v2,n2,rfl,a8⟩;have g7:=J a8.rd;have g8:=J (d6.trans a8.ext);refine⟨_,rfl,hK _ _ (a8.ext.mono kZ) ?_⟩;obtain⟨a2,c2,j5⟩:=a8.rd.sl;subst j5;clear hK K A d6 g6 a8;refine vS ?_;refine Hh _ rfl (λw3 A K hK=>?_);refine Ou (Fb (vX 122) vY) ((lG w3 _ 1 (Ah k l) (g7.o.ext A) (kL (g0.o k)) (j2.o k)).mono ?_);rintro e w4 ⟨v4,rfl,a9⟩;have g9:=J a9.rd;have j6:=J ((g8.o.trans A).trans a9.ext);refine⟨_,rfl,hK _ _ (a9.ext.mono kZ) ?_⟩;obtain⟨a4,h3,j7⟩:=a9.rd.sl;subst j7;clear hK K A a9 g7 g8;refine vS ?_;refine Hh _ rfl (λd8 A K hK=>?_);have d9:=J (j6.o.trans A);have e1:=J (g9.o.ext A);have O:=J (HH.o.ext d9.o);have e2:=HC.o.ext (HX.o.trans d9.o);obtain⟨rk,c9⟩:=vE (if (Ah k l).length=0 then (⟨#[]⟩:vB)else Ax (An (f+1) (Ba 1 (Ah k l))).text);refine Ou (f:=121) (args:=#[Fx w,.slice a4 (Ba 1 (Ah k l)).length h3]) (Fb (vX 121) vY) ((show Calls _ _ _ _ (λe w'=>∃ u' bs',e=.returned rk/\Oy w w' w ((w:Nat)+1) () (Vg (An (f+1)) l (k+1)) u' bs'/\bs'.length<=bs.length+1/\Af w w'/\Ad (λx=>x=(w:Nat)\/(Value.slice au bs.length cu).ownBlock=some x) d8 w')from ?hold).mono ?_);(case hold =>rw[OM];by_cases hc0:(Ah k l).length=0;{rw[c9,if_pos hc0,if_pos hc0,cC,Jy,hc0];refine (G9 d8 w a4 h3).mono ?_;rintro e w6 ⟨rfl,rfl⟩;exact⟨_,bs,rfl,O.o,by omega,O.o.row.ext,Ad.refl _ _⟩};rw[c9,if_neg hc0,if_neg hc0];exact sY e2 O.o vO _ (Ba 1 (Ah k l)) e1.o (λe=>hc0 (by have:=Jy 1 (Ah k l);rw[e]at this;simpa using this.symm)) (by rw[Jy];have:=g0.o k;omega) _ (e8.o k hc0) (j4.o k hc0 d8 _ e2 e1.o));rintro e w6 ⟨u6,j8,rfl,h6,k6,j9,e3⟩;refine⟨_,rfl,hK _ _ (e3.mono λx _ h=>h.elim .inl λh=>.inr (.inr h)) ?_⟩;have h4:=(HB.o.Z d9.o kI).Z e3 (λh=>by rcases h with h|h;{omega};exact HH.o.mb h);have c8:=J h4;have b9:=J h6;have k0:=J ((j3.o k hlt).trans (by rw[<-c9]));clear hK K A h6 j9 e3 h4 e2 c9 g9 e1 O;refine vS ?_;refine vD ?_;refine Hh _ rfl (λw7 A K hK=>?_);have d0:=c8.o.Z A kI;obtain⟨old,q7⟩:∃ v,w7.cell? ⟨(w:Nat)+1,3+k,none⟩=some v:=⟨_,d0.z1 (bB (by rw[Ai.z3 _ (qF a5.o e9)];omega))⟩;(have f7:w7.frozen? ⟨(w:Nat)+1,3+k,none⟩=false:=d0.frozen;have e4:=d0.z2 (i:=3+k) rk;rw[show (Rk q k).cells.toArray.setIfInBounds (3+k) rk=((Rk q k).cells.set (3+k) rk).toArray by simp,qG a5.o hlt rk k0.o]at e4;have h5:=J e4;have K8:=Ad.z4 w7 ⟨(w:Nat)+1,3+k,none⟩ rk;have h7:=J ((b9.o.ext A).other K8);have h8:=J (K8.mono (G:=λx=>x=(w:Nat)\/x=(w:Nat)+1\/(Value.slice au bs.length cu).ownBlock=some x) λx _ e=>.inr (.inl e));clear A d0 e4 K8 c8 b9;go_simp;refine hK _ _ h8.o ?_;clear hK K q7 f7;refine Mt (λw9 A=>?_);have k1:=J (h7.o.ext A);have k2:=J (h5.o.Z A kI);clear A h7 h5 h8;go_wp2);go_roundw;(case rel=>exact⟨k+1,by omega,by go_num,u6,j8,k1.o,by omega,k2.o⟩);case measure=>exact vJ};have b4:k=16:=vO;(subst b4;have e5:Rk q 16=⟨3,⟨#[]⟩,⟨#[]⟩,q⟩:=by unfold Rk Dd;rw[cG (kL a5.o)];simp);have Z:=HB.o;rw[e5]at Z;have q1:=Am Q1.o HX.o;by_cases hx0:x.size=0;{have k3:=Ov hx0;(have hv:val=y:=by rw[b2.o,if_pos hx0]);(have a3:=Am i8.o HX.o;subst k3;have q2:wr.cell? ⟨(w:Nat)+1,2,none⟩=some (.string ⟨#[]⟩):=Z.z1 vF;have f2:wr.frozen? ⟨(w:Nat)+1,2,none⟩=false:=Z.frozen;have e6:=Z.z2 (i:=2) y;rw[show (Ai.cells ⟨3,⟨#[]⟩,⟨#[]⟩,q⟩).toArray.setIfInBounds 2 y=(Ai.cells ⟨3,⟨#[]⟩,y,q⟩).toArray by simp[Ai.cells]]at e6;have a1:=J (show Ae (wr.setCell ⟨(w:Nat)+1,2,none⟩ y) ((w:Nat)+1) (.cells (Ai.cells ⟨3,⟨#[]⟩,val,q⟩).toArray 215)from by rw[hv];exact e6);have HH:=J (HH.o.other (Ad.z4 wr ⟨(w:Nat)+1,2,none⟩ y));clear Z e6 e5 hv;go_wp2_with (refine Gz 215 (.tmp 4) rfl rfl _ _ rfl (Ka _ _ ⟨3,⟨#[]⟩,val,q⟩ a5.o a1.o) ?_));refine vH (IG (Bm _) _ ⟨3,⟨#[]⟩,val,q⟩ HG.o) λw9 hE=>?_;have h9:=HH.o.ext hE;have q0:w9.cell? w=some (.string ⟨#[]⟩):=h9.blk.cell (i:=0) vF;have f0:w9.frozen? w=false:=h9.blk.frozen;have H9:=J (h9.setText (Cu ⟨3,⟨#[]⟩,val,q⟩));obtain⟨tx,X⟩:=vE (Cu ⟨3,⟨#[]⟩,val,q⟩);(rw[<-X]at H9 ⊢;have e7:=J X;clear h9 X;go_wp2);go_ret;exact⟨↑w,rfl,by rw[HT.o, <-e7.o];exact H9.o.part,H9.o.row.ext⟩};have k7:=Sf (s:=x) vO;(have hv:val=⟨#[]⟩:=by rw[b2.o,if_neg hx0]);(rw[<-hv]at Z;have a1:=J (show Ae wr ((w:Nat)+1) (.cells (Ai.cells ⟨3,⟨#[]⟩,val,q⟩).toArray 215)from by rw[hv]at Z ⊢;exact Z);clear Z e5 hv;go_wp2_with (refine Gz 215 (.tmp 4) rfl rfl _ _ rfl (Ka _ _ ⟨3,⟨#[]⟩,val,q⟩ a5.o a1.o) ?_));refine vH (IG (Bm _) _ ⟨3,⟨#[]⟩,val,q⟩ HG.o) λw9 hE=>?_;have h9:=HH.o.ext hE;have q0:w9.cell? w=some (.string ⟨#[]⟩):=h9.blk.cell (i:=0) vF;have f0:w9.frozen? w=false:=h9.blk.frozen;have H9:=J (h9.setText (Cu ⟨3,⟨#[]⟩,val,q⟩));obtain⟨tx,X⟩:=vE (Cu ⟨3,⟨#[]⟩,val,q⟩);(rw[<-X]at H9 ⊢;have e7:=J X;clear h9 X;go_wp2);go_ret;exact⟨↑w,rfl,by rw[HT.o, <-e7.o];exact H9.o.part,H9.o.row.ext⟩
theorem PC:∀ (f:Nat) (l:vL),Ep f l->l.length<=1000->EX l (An (f+1) l)
 |f,l,hok,hln=>by
  by_cases h0:l.length=0
  ·exact e3 f l h0
  by_cases h1:l.length=1
  ·exact l0 f l h1 hok
  have e:2<=l.length:=vO
  cases f with
  |zero =>
   exfalso
   obtain⟨a,K⟩:∃ a,l[0]?=some a:=⟨_,bB vO⟩
   obtain⟨b,hb⟩:∃ b,l[1]?=some b:=⟨_,bB vO⟩
   have A:=Xr hok.rise vO K hb
   have:=(hok.size b (bD hb)).1
   rw[show b.l=[]from bF (by show b.1.size=0;omega)]at A;exact not_lt_nil _ A
  |succ f =>
   by_cases hk:0<Ak l
   ·exact o1 f l e hln hok hk (PC f _ ((Ys (Ak l) hok (λp H q O=>((Rn hok e p H).1).trans (Rn hok e q O).1.symm) λp H=>(Rn hok e p H).2).mono vO) (by rw[Jy];exact hln))
   ·exact H_ f l e hln hok hk (λi _=>PC f _ (Yy i hok) (by rw[Jy];exact bH (fF _ _) hln))
theorem LS(b:vU):(b >>> 4).toNat=b.toNat / 16:=by
 have:∀ c:Fin 256,(UInt8.ofNat c.1 >>> 4).toNat=c.1 / 16:=by decide
 have h:=this ⟨b.toNat,b.toNat_lt⟩;simpa using h
theorem LT(b:vU):(b &&& 15).toNat=b.toNat % 16:=by
 have:∀ c:Fin 256,(UInt8.ofNat c.1 &&& 15).toNat=c.1 % 16:=by decide
 have h:=this ⟨b.toNat,b.toNat_lt⟩;simpa using h
theorem qK:∀ (a b:vN),Lt a b->Lt (Mp a) (Mp b)
 |a,[],h=>absurd h (not_lt_nil _)
 |[],y::b,_=>rfl
 |x::a,y::b,h=>by
  show Lt ((x >>> 4) ::(x &&& 15)::Mp a) ((y >>> 4) ::(y &&& 15)::Mp b);have e:=LS x;have q:=LS y;have A:=LT x;have H:=LT y;rcases Nm.1 h with h|⟨he,h2⟩
  ·have h:=dU.1 h
   by_cases hh:x.toNat / 16<y.toNat / 16
   ·exact Nm.2 (.inl (dU.2 vO))
   ·refine Nm.2 (.inr ⟨dO.1 vO,Nm.2 (.inl (dU.2 vO))⟩)
  ·subst he;exact Nm.2 (.inr ⟨rfl,Nm.2 (.inr ⟨rfl,qK a b h2⟩)⟩)
theorem BO(s:vB):Dy (Bw s)=true:=by
 unfold Dy Bw;rw[fJ];intro x e;have e:x∈Mp s.data.toList:=e;unfold Mp at e
 obtain⟨b,_,hb⟩:=dE.1 e
 have A:=LS b;have H:=LT b;have K:=b.toNat_lt;have q:(15:vU).toNat=15:=rfl;refine decide_eq_true (fS.2 ?_);rcases bU.1 hb with rfl|hb
 ·omega
 ·rw[bG.1 hb];omega
theorem GB(s:vB):(Bw s).size=2*s.size:=by
 show (Mp s.data.toList).length=2*s.data.toList.length;unfold Mp;induction s.data.toList with
 |nil=>rfl
 |cons x r ih=>rw[dJ,bK,ih,bQ,bQ,bQ,cZ];omega
structure QS(l:vL):Prop where
 size:∀ p∈l,0<p.1.size/\p.1.size<=6/\0<p.2.size/\p.2.size<=80
 rise:l.Pairwise λp q=>Lt p.l q.l
 len:l.length<=40
theorem KM:∀ (a b c:vN),Lt a b->Lt b c->Lt a c
 |a,b,[],_,h=>absurd h (not_lt_nil _)
 |a,[],z::c,h,_=>absurd h (not_lt_nil _)
 |[],y::b,z::c,_,_=>rfl
 |x::a,y::b,z::c,h1,h2=>by
  rcases Nm.1 h1 with h|⟨rfl,h⟩
  ·rcases Nm.1 h2 with h'|⟨rfl,h'⟩
   ·exact Nm.2 (.inl (UInt8.lt_trans h h'))
   ·exact Nm.2 (.inl h)
  ·rcases Nm.1 h2 with h'|⟨rfl,h'⟩
   ·exact Nm.2 (.inl h')
   ·exact Nm.2 (.inr ⟨rfl,KM a b c h h'⟩)
theorem Ge{l:vL}(h:Em l=0):QS l:=by
 unfold Em at h;split at h
 ·cases h
 rename_i hb
 split at h
 ·cases h
 rename_i hl
 have K:∀ i,i<l.length->Kz l i=false:=λi q=>by cases hbi:Kz l i with| false=>rfl| true=>exact absurd (iN.2 ⟨i,dY.2 q,hbi⟩) hb
 refine⟨λp hp=>?_,?_,by omega⟩
 ·obtain⟨i,q⟩:=dP hp;(have A:=K i (bI.1 q).1;have hg:l.getD i (⟨#[]⟩,⟨#[]⟩)=p:=by rw[bL,q];rfl);unfold Kz at A;rw[hg]at A;simp only[gT,Bool.not_eq_false']at A;have H:=A.1.1;have X:=A.1.2;unfold Vv at H;unfold Xt at X;simp only[decide_eq_true_eq]at H X;exact⟨H.1,H.2,X.1,X.2⟩
 ·(have O:∀ i,i+1<l.length->Lt (l.getD i pd).l (l.getD (i+1) pd).l:=λi q=>by have A:=K (i+1) q;unfold Kz at A;simp only[gT,Bool.and_eq_false_iff,Bool.not_eq_false']at A;rcases A.2 with H|H;{simp at H};rw[Nat.add_sub_cancel]at H;have:Op.bytesLess (l.getD i pd).1.toList (l.getD (i+1) pd).1.toList=true:=H;rw[cA,cA]at this;exact this);(rw[gD];intro i j q hj a0;have e:∀ k (hk:k<l.length),l.getD k pd=l[k]:=λk hk=>by rw[bL,bB hk];rfl);(have Z:∀ d,∀ i,i+d+1<l.length->Lt (l.getD i pd).l (l.getD (i+d+1) pd).l:=by intro d;induction d with| zero=>exact λi q=>O i q| succ d ih=>exact λi q=>KM _ _ _ (ih i vO) (O (i+d+1) q));have:=Z (j-i-1) i vO;rw[show i+(j-i-1)+1=j by omega,e i q,e j hj]at this;exact this
theorem Nn{l:vL}(h:QS l):Ep 12 (Cq l):=by
 refine⟨λp e=>?_,?_⟩
 ·obtain⟨q,A,rfl⟩:=bC.1 e;obtain⟨O,X,H,K⟩:=h.size q A;have Z:=GB q.1;exact⟨by show (Bw q.1).size<=_;omega,by show (Bw q.1).size<=_;omega,BO _,H,K⟩
 ·unfold Cq;rw[gO];exact h.rise.imp λ{p q} h=>qK _ _ h
def Cr(l:vL):PT:=An 13 (Cq l)
section
attribute [local go_sem] Oper.semAt_some
inductive AT where
 |mk (b:Nat) (text:vB) (v:vV) (kids:List AT)
def AT.root:AT->Nat | .mk b _ _ _=>b
mutual
def Hj(A:Nat->Prop):AT->vW->Prop
 |.mk b t v ks,W=>A b/\Ae W b (.cells #[t,v] 176)/\Xl A W v (ks.map AT.root)/\Rw A ks W
def Rw(A:Nat->Prop):List AT->vW->Prop
 |[],_=>True
 |k::ks,W=>Hj A k W/\Rw A ks W
end
mutual
def AT.pt:AT->PT
 |.mk _ t _ ks=>.mk t (AT.pts ks)
def AT.pts:List AT->List PT
 |[]=>[]
 |k::ks=>AT.pt k::AT.pts ks
end
mutual
def Bz:PT->vM
 |.mk t ks=>t::En ks
def En:List PT->vM
 |[]=>[]
 |k::ks=>Bz k++En ks
end
mutual
theorem YU{A:Nat->Prop}{W:vW}:∀ (T:PT) (b:Nat),Lv A T b W->∃ a:AT,a.root=b/\a.pt=T/\Hj A a W
 |.mk t ks,b,h=>by
  unfold Lv at h
  obtain⟨e,v,q,H,K,O⟩:=h
  obtain⟨X,Z,e2,e3⟩:=sL ks q O
  exact⟨.mk b t v X,rfl,by unfold AT.pt;rw[e2],by unfold Hj;exact⟨e,H,by rw[Z];exact K,e3⟩⟩
theorem sL{A:Nat->Prop}{W:vW}:∀ (ks:List PT) (bs:List Nat),Hm A ks bs W->∃ e:List AT,e.map AT.root=bs/\AT.pts e=ks/\Rw A e W
 |[],bs,h=>by
  unfold Hm at h;subst h
  exact⟨[],rfl,by unfold AT.pts;rfl,by unfold Rw;trivial⟩
 |x::ks,bs,h=>by
  unfold Hm at h
  obtain⟨b,r,rfl,q,H⟩:=h
  obtain⟨a,K,O,X⟩:=YU x b q
  obtain⟨e,Z,e5,e6⟩:=sL ks r H
  exact⟨a::e,by rw[bP,K,Z],by unfold AT.pts;rw[O,e5],by unfold Rw;exact⟨X,e6⟩⟩
end
mutual
theorem Hj.Z{A:Nat->Prop}{F:Bd}{W W':vW}(k:Ad F W W')(hF:∀ x,A x->¬ F x):∀ (a:AT),Hj A a W->Hj A a W'
 |.mk b t v ks,h=>by
  unfold Hj at *
  obtain⟨e,q,H,K⟩:=h
  exact⟨e,q.Z k (hF b e),H.Z k hF,Rw.Z k hF ks K⟩
theorem Rw.Z{A:Nat->Prop}{F:Bd}{W W':vW}(k:Ad F W W')(hF:∀ x,A x->¬ F x):∀ (ks:List AT),Rw A ks W->Rw A ks W'
 |[],_=>by unfold Rw;trivial
 |x::ks,h=>by
  unfold Rw at *
  exact⟨Hj.Z k hF x h.1,Rw.Z k hF ks h.2⟩
end
theorem Rw.get{A:Nat->Prop}{W:vW}:∀ (ks:List AT) (j:Nat) (a:AT),Rw A ks W->ks[j]?=some a->Hj A a W
 |[],j,a,_,h=>by simp at h
 |x::ks,0,a,h,hj=>by simp at hj;subst hj;unfold Rw at h;exact h.1
 |x::ks,j+1,a,h,hj=>by unfold Rw at h;exact Rw.get ks j a h.2 (by simpa using hj)
theorem jlV:∀ (ks:List AT) (j:Nat) (a:AT),ks[j]?=some a->En (AT.pts (ks.take (j+1)))=En (AT.pts (ks.take j))++Bz a.pt
 |[],j,a,h=>by simp at h
 |x::ks,0,a,h=>by
  simp at h;subst h;simp[AT.pts,En]
 |x::ks,j+1,a,h=>by
  have:=jlV ks j a (by simpa using h)
  simp only[fM,AT.pts,En,this,bZ]
theorem oI:∀ (ks:List AT) (j:Nat),∃ r,En (AT.pts ks)=En (AT.pts (ks.take j))++r
 |ks,0=>⟨En (AT.pts ks),by simp[AT.pts,En]⟩
 |[],j+1=>⟨[],by simp[AT.pts,En]⟩
 |x::ks,j+1=>by
  obtain⟨r,h⟩:=oI ks j
  exact⟨r,by simp only[fM,AT.pts,En,h,bZ]⟩
def Xb(L m:vM)(p:Nat):Prop:=∀ j x,m[j]?=some x->L[p+j]?=some x
theorem Xb.left{m n:vM}(h:Xb L (m++n) p):Xb L m p:=λj x e=>h j x (by rw[cJ (bI.1 e).1];exact e)
theorem Xb.right{m n:vM}(h:Xb L (m++n) p):Xb L n (p+m.length):=λj x e=>by
 have:=h (m.length+j) x (by rw[cN vO,Nat.add_sub_cancel_left];exact e)
 rw[Nat.add_assoc];exact this
theorem Xb.le{m:vM}(h:Xb L m p)(hm:m≠[]):p+m.length<=L.length:=by
 have e:0<m.length:=gG.2 hm
 have:=h (m.length-1) _ (bB vO)
 have:=(bI.1 this).1
 omega
theorem F9(T:PT):1<=(Bz T).length:=by cases T;unfold Bz;simp
theorem oH:∀ (ks:List AT),ks.length<=(En (AT.pts ks)).length
 |[]=>by simp
 |x::ks=>by
  have:=oH ks
  have:=F9 x.pt
  simp only[AT.pts,En,bK,bQ];omega
def VG(C Cx:Nat->vW->Prop)(n N:Nat)(e:Ending)(W':vW):Prop:=(e=.returned true/\C n W')\/(e=.returned false/\∃ q,0<q/\q<=N/\Cx q W')
def R1(C:Nat->vW->Prop)(p:Nat)(ks:List AT)(v:vV)(wr:vW):Prop:=∃ j:Nat,j<=ks.length/\v=.int .i64 j/\C (p+1+(En (AT.pts (ks.take j))).length) wr
theorem D4(A:Nat->Prop)(l:Nat)(C Cx:Nat->vW->Prop)(hC:∀ k,St (C k))(L:vM)(hLn:L.length<=1000000)
  (hY:∀ j q,j<L.length->C j q->XB prog l #[L.getD j ⟨#[]⟩] q (C (j+1)) (Cx (j+1)))
  (b:Nat) (t:vB) (v:vV) (ks:List AT)
  (IHk:∀ a∈ks,∀ (p:Nat) (W:vW),Xb L (Bz a.pt) p->(∀ j q,C j q->Hj A a q)->C p W ->
   CallsIn Fence.wide 0 prog 128 #[Fx a.root,.func (.yield l) #[] #[]] W (VG C Cx (p+(Bz a.pt).length) L.length))
  (p:Nat) (W:vW) (hL:Xb L (Bz (AT.mk b t v ks).pt) p) (hS:∀ j q,C j q->Hj A (.mk b t v ks) q) (h0:C p W) :
   CallsIn Fence.wide 0 prog 128 #[Fx b,.func (.yield l) #[] #[]] W (VG C Cx (p+(Bz (AT.mk b t v ks).pt).length) L.length):=by
 have e1:Bz (AT.pt (.mk b t v ks))=t::En (AT.pts ks):=by unfold AT.pt Bz;rfl
 rw[e1]at hL ⊢;have hp:p<L.length:=by have:=hL 0 t rfl;exact (bI.1 this).1
 have hg:L.getD p ()=t:=by rw[bL];have:=hL 0 t rfl;rw[gJ]at this;rw[this];rfl
 have O:∀ j q,C j q->Ae q b (.cells #[t,v] 176)/\Xl A q v (ks.map AT.root)/\Rw A ks q:=λj q h=>by have:=hS j q h;unfold Hj at this;exact this.2
 obtain⟨fn,tm,b9,bd,a2,a8⟩:=hY p W hp h0
 rw[hg]at a2;have q0:=(O p W h0).1.cell (i:=0) (v:=.string t) vF
 obtain⟨av,cv,hv⟩:=(O p W h0).2.1.sl
 rw[bT]at hv;subst hv;have c0:ks.length<=1000000:=by have h1:=oH ks;have h2:=hL.le (by simp);simp only[bQ]at h2;omega
 have a9:=J a8;have HS:=J O;have HY:=J hY;have HC:=J hC;have b0:=J IHk;have HL:=J hL;clear O hS a8 hg h0 e1 hL hY hC IHk;unfold Fx;refine callsIn_of_wp func128 rfl trivial ?_ rfl;simp only[ntmps128,cQ,bQ,cZ,Nat.reduceAdd,Nat.reduceSub,cV,cU,dC,cY,cL,cS];gi_wp2_with fail
 refine⟨rfl,a9.o.mono ?_⟩
 rintro e w5 (⟨rfl,C5⟩|⟨rfl,C5⟩)
 ·have q1:=(HS.o _ _ C5).1.cell (i:=1) (v:=.slice av ks.length cv) vF;(have X:=J C5;clear C5 q0 a2;gi_wp2_with fail);(gi_loopw [19] (λv wr=>R1 C p ks v wr) (λv _=>ks.length-(intOf v).toNat));(case atStart=>exact⟨0,by omega,rfl,by simpa [AT.pts,En]using X.o⟩);case round =>obtain⟨j,hj,rfl,H⟩:=hrel;by_cases hlt:j<ks.length;{obtain⟨b2,a3,b3⟩:=HS.o _ _ H;obtain⟨a,ha⟩:∃ a,ks[j]?=some a:=⟨_,bB hlt⟩;have Z:a∈ks:=bD ha;have a4:=jlV ks j a ha;obtain⟨a7,a0⟩:=oI ks (j+1);(have a1:Xb L (Bz a.pt) (p+1+(En (AT.pts (ks.take j))).length):=by(have h1:Xb L ([t]++(En (AT.pts (ks.take j))++(Bz a.pt++a7))) p:=by have:=HL.o;rw[a0,a4,bZ]at this;exact this);exact (h1.right.right).left);rcases a3 with⟨_,h0⟩|⟨g,c,hh,_,_,_,_,hcell⟩;{rw[List.map_eq_nil_iff]at h0;rw[h0]at hlt;cases hlt};obtain⟨rfl,b4,b5⟩:=dF hh;clear b4 b5;have qj:wr.cell? ⟨g,j,none⟩=some (Fx a.root):=hcell j a.root (by rw[bY,ha];rfl);obtain⟨ar,a5⟩:=vE a.root;rw[<-a5]at qj;have b1:(j:Int)<(ks.length:Int):=vO;(have ih:=b0.o a Z _ wr a1 (λj' q h=>Rw.get ks j a (HS.o j' q h).2.2 ha) H;rw[<-a5]at ih;have IH:=J ih;have b6:=J a4;unfold Fx at qj;clear b2 b3 hcell hh a0 a1 ih a4 H ha a5 q1 Z X;gi_wp2_with fail);refine⟨trivial,rfl,IH.o.mono ?_⟩;rintro e w6 (⟨rfl,C6⟩|⟨rfl,q',a3,b7,C6⟩);{have K:=J C6;(clear C6;gi_wp2_with fail);go_roundw;(case rel=>exact⟨j+1,by omega,by go_num,by rw[b6.o,bK, <-Nat.add_assoc];exact K.o⟩);case measure=>exact vJ};have K:=J C6;(clear C6;gi_wp2_with fail);go_ret;exact .inr ⟨rfl,q',a3,b7,K.o⟩};have b8:j=ks.length:=vO;(subst b8;rw[cF]at H;have K:=J H;clear H;gi_wp2_with fail);go_ret;exact .inl ⟨rfl,by rw[show p+((En (AT.pts ks)).length+1)=p+1+(En (AT.pts ks)).length by omega];exact K.o⟩
 ·have X:=J C5;(clear C5 q0 a2;gi_wp2_with fail);go_ret;exact .inr ⟨rfl,p+1,by omega,by omega,X.o⟩
theorem rY(A:Nat->Prop)(l:Nat)(C Cx:Nat->vW->Prop)(hC:∀ k,St (C k))(L:vM)(hLn:L.length<=1000000)
  (hY:∀ j W',j<L.length->C j W'->XB prog l #[L.getD j ⟨#[]⟩] W' (C (j+1)) (Cx (j+1))) :
  ∀ (a:AT) (p:Nat) (W:vW),Xb L (Bz a.pt) p->(∀ j W',C j W'->Hj A a W')->C p W ->
   CallsIn Fence.wide 0 prog 128 #[Fx a.root,.func (.yield l) #[] #[]] W (VG C Cx (p+(Bz a.pt).length) L.length)
 |.mk b t v ks,p,W,hL,hS,h0=>D4 A l C Cx hC L hLn hY b t v ks (λa e=>rY A l C Cx hC L hLn hY a) p W hL hS h0
termination_by a=>SizeOf.sizeOf a
decreasing_by
 have:=List.sizeOf_lt_of_mem e
 simp
 omega
def pT(L:vM)(k:Nat):Array vV:=#[L.getD k ⟨#[]⟩]
theorem wQ(A:Nat->Prop)(bx:Nat)(a:AT)(hLn:(Bz a.pt).length<=1000000):LW prog 127 #[bx] (Bz a.pt).length (pT (Bz a.pt)) (λW=>Ae W bx (.cells #[Fx a.root] 145)/\Hj A a W):=by
 intro l C Cx hC q H W hY K;have hT:=rY A l C Cx hC (Bz a.pt) hLn (λj O hj hc=>hY j O hj hc) a 0 W (λj x hx=>by rw[bX];exact hx) (λj O h=>(H j O h).2) K;have q0:=(H 0 W K).1.cell (i:=0) (v:=Fx a.root) vF;have HT:=J hT;clear hT hY hC q H K;unfold Fx at q0
 obtain⟨r,X⟩:=vE a.root
 rw[<-X]at q0 HT;have HR:=J X;clear X;refine callsIn_of_wp func127 rfl trivial ?_ rfl;simp only[ntmps127,cQ,bQ,cZ,Nat.reduceAdd,Nat.reduceSub,cV,cU,dC,cY,cL,cS];gi_wp2_with fail
 refine⟨trivial,rfl,HT.o.mono ?_⟩
 rintro e w5 (⟨rfl,C5⟩|⟨rfl,q',Z,a0,C6⟩)
 ·have a1:=J C5;(clear C5;gi_wp2_with fail);refine bodyPost_end (results_none rfl _ _ _) rfl ?_;exact⟨⟨_,rfl⟩,.inl (by have:=a1.o;rw[bX]at this;exact this)⟩
 ·have a2:=J C6;(clear C6;gi_wp2_with fail);refine bodyPost_end (results_none rfl _ _ _) rfl ?_;exact⟨⟨_,rfl⟩,.inr ⟨q',a0,Z,a2.o⟩⟩
theorem yR:vQ 72 #[Fx k] w λe w'=>e=.returned (.func (.func 127) #[] #[w])/\Ae w' w (.cells #[Fx k] 145)/\Af w w':=by
 unfold Fx;unfold vQ;go_in;go_wp2
 go_ret
 exact⟨rfl,Ae.new w _,(Aa w).alloc _⟩
def Jr(acc:vM)(x:vB):Bool:=(acc.map (·.data.toList)).contains x.data.toList
theorem GU:Jr acc x=true↔x∈acc:=by
 unfold Jr;rw[cM,bC]
 exact⟨λ⟨y,q,e⟩=>by rw[<-show y=x from ByteArray.ext (Array.ext' e)];exact q,λh=>⟨x,h,rfl⟩⟩
def Ii(acc:vM)(x:vB):vM:=if Jr acc x=true then acc else acc++[x]
def Hg(l:vM):vM:=l.foldl Ii []
theorem A7:y∈Ii acc x↔y∈acc\/y=x:=by
 unfold Ii;split
 ·rename_i h;exact⟨.inl,λq=>q.elim id λe=>e ▸ (GU _ _).1 h⟩
 ·simp
theorem Ql(l:vM)(y:vB):y∈Hg l↔y∈l:=by
 unfold Hg
 suffices ∀ e,y∈l.foldl Ii e↔y∈e\/y∈l by simpa using this []
 induction l with
 |nil=>intro e;simp
 |cons x r ih=>intro e;rw[dQ,ih,A7,bU];exact or_assoc
theorem SW(l:vM)(x:vB):Hg (l++[x])=Ii (Hg l) x:=by
 unfold Hg;rw[fE];rfl
theorem TL(l:vM):(Hg l).length<=l.length:=by
 unfold Hg
 suffices ∀ e,(l.foldl Ii e).length<=e.length+l.length by simpa using this []
 induction l with
 |nil=>intro e;simp
 |cons x r ih =>(intro e;rw[dQ,bQ];have q:=ih (Ii e x);have A:(Ii e x).length<=e.length+1:=by unfold Ii;split<;>simp);omega
theorem EF{K:Type}[DecidableEq K](k:K)(v:vV)(n:Nat)(k':K):∀ (l:List (Ce K)),Cp (Iv l k v n) k'=if k'=k then some v else Cp l k'
 |[]=>by
  by_cases h:k'=k
  ·subst h;simp[Iv,Cp]
  ·simp[Iv,Cp,h]
 |x::r=>by
  have H:=EF k v n k' r;unfold Iv
  by_cases hk:k=x.1
  ·rw[if_pos hk]
   by_cases h:k'=k
   ·subst h;simp[Cp]
   ·have q:¬ k'=x.1:=λe=>h (e.trans hk.symm)
    simp[Cp,h,q]
  ·rw[if_neg hk]
   by_cases h:k'=x.1
   ·have q:¬ k'=k:=λe=>hk (e.symm.trans h)
    rw[if_neg q];simp[Cp,h]
   ·have A:∀ l,Cp (x::l) k'=Cp l k':=λl=>by simp[Cp,h]
    rw[A,A,H]
def Fc(l:vM)(x:vB):Nat:=(l.map (·.data.toList)).count x.data.toList
def Kf(n:Nat):Option vV:=if n=0 then none else some (.int .i64 (n:Int))
theorem Bf:prog.underlying 126=some (.map 9 3):=vY
noncomputable abbrev Al:Fy prog 9 (vN):=wD Ag
theorem Cz:(zeroValue 3).run prog w=.ok qa w:=vY
structure Sl(w:World)(g m:Nat)(A:Nat->Prop)(bx:Nat)(a:AT)(L:vM)(k:Nat)(W:World):Prop where
 ext:Af w W
 var:∃ v n,Ae W g (.cells #[v] 51)/\W.ownsRow 0 9 1 v n ((Hg (L.take k)).map Value.string)/\n<=k/\∀ b,v.ownBlock=some b->m+2<=b
 tab:∃ es ck,Ae W (g+1) (.map (Al.arr es) ck)/\∀ x:vB,Cp es x.data.toList=Kf (Fc (L.take k) x)
 mv:Ae W (g+2) (.cells #[.map (some (g+1))] 126)
 box:Ae W bx (.cells #[Fx a.root] 145)
 at':Hj A a W
theorem Sl.st{w:vW}{a:AT}{k:Nat}(h:Sl w g m A bx a L k W)(e:Af W W'):Sl w g m A bx a L k W':=
 let ⟨v,n,h1,h2,h3,h4⟩:=h.var
 let ⟨es,ck,h5,h6⟩:=h.tab
 ⟨h.ext.trans e,⟨v,n,h1.Z e kI,Kh h2 e,h3,h4⟩,⟨es,ck,h5.Z e kI,h6⟩,h.mv.Z e kI,h.box.Z e kI,Hj.Z e (λ_ _ h=>h) a h.at'⟩
theorem Sl.put{w:vW}{a:AT}{k:Nat}(h:Sl w g m A bx a L k W)(hr:(w:Nat)<=r)(h1:g+2<r)(h2:r<m+2)(h3:bx≠r)(h4:∀ x,A x->x≠r)(o:Obj):Sl w g m A bx a L k (W.putObj r o):=
 let ⟨v,n,h5,h6,h7,h8⟩:=h.var
 let ⟨es,ck,h9,h10⟩:=h.tab
 ⟨h.ext.putObj (.inr hr) _,⟨v,n,h5.z5 vO _,Lb h6 (Ad.z7 W r o) λb hb e=>kL (h8 b hb),h7,h8⟩,⟨es,ck,h9.z5 vO _,h10⟩,h.mv.z5 vO _,h.box.z5 h3 _,
  Hj.Z (Ad.z7 W r o) (λx q e=>h4 x q e) a h.at'⟩
end
def Tp(l:vL):Nat->Nat
 |0=>0
 |n+1=>Tp l n+(Ah n l).length
def hN(L:vN)(n:Nat):Nat:=match L with | []=>0|a::_=>if a.toNat<n then 1 else 0
theorem Y1(p:Ay)(n:Nat):hN p.l (n+1)=hN p.l n+(if Ve n p=true then 1 else 0):=by
 have e:Ve n p=match p.l with | []=>false|a::_=>a.toNat == n:=rfl
 rw[e];cases p.l with
 |nil=>rfl
 |cons a r =>simp only[hN,beq_iff_eq];by_cases h1:a.toNat=n;{rw[if_pos vO,if_neg vO,if_pos h1]};by_cases h3:a.toNat<n;{rw[if_pos vO,if_pos h3,if_neg h1]};rw[if_neg vO,if_neg h3,if_neg h1]
theorem YQ(L:vN)(n:Nat):hN L n<=1:=by
 cases L with
 |nil=>exact cD _
 |cons a r=>simp only[hN];split<;>omega
theorem SU(p:Ay)(l:vL):∀ n,Tp (p::l) n=Tp l n+hN p.l n
 |0=>by
  have:hN p.l 0=0:=by cases p.l<;>simp[hN]
  rw[this];rfl
 |n+1=>by
  have h:(Ah n (p::l)).length=(Ah n l).length+(if Ve n p=true then 1 else 0):=by
   unfold Ah;rw[jB];split<;>simp
  unfold Tp;rw[SU p l n,h,Y1];omega
theorem KE:∀ (l:vL) (n:Nat),Tp l n<=l.length
 |[],n=>by
  have:∀ n,Tp [] n=0:=λn=>by induction n with
   |zero=>rfl
   |succ n ih=>unfold Tp;rw[ih];rfl
  rw[this];exact cD _
 |p::l,n=>by
  rw[SU,bQ]
  have:=KE l n
  have:=YQ p.l n
  omega
theorem MN:∀ (a b:List PT),En (a++b)=En a++En b
 |[],b=>by simp[En]
 |x::a,b=>by simp only[cS,En,MN a b,bZ]
theorem LI(T:PT):(En (Ia T)).length<=(Bz T).length:=by
 unfold Ia;split<;>simp[En]
theorem YR(B:vL->PT)(F:Nat)(l:vL)(hB:∀ i,(Ah i l).length≠0->(Bz (B (Ba 1 (Ah i l)))).length<=F*(Ah i l).length):∀ n,(En (Vg B l n)).length<=F*Tp l n
 |0=>by simp[Vg,En,Tp]
 |n+1=>by
  rw[OM,MN,bK];unfold Tp;rw[Nat.mul_add]
  have:=YR B F l hB n
  by_cases h0:(Ah n l).length=0
  ·rw[if_pos h0];simp[En];omega
  ·rw[if_neg h0]
   have e:=hB n h0;have q:=LI (B (Ba 1 (Ah n l)));omega
theorem WS:∀ (f:Nat) (l:vL),l≠[]->(Bz (An (f+1) l)).length<=(f+1)*l.length
 |f,l,hl=>by
  have H:1<=l.length:=gG.2 hl;show (Bz (.mk (Cu (Bj (An f) l)) (Dc (An f) l))).length<=_;unfold Bz;rw[bQ];have K:(En (Dc (An f) l)).length<=f*l.length:=by
   unfold Dc;split
   ·simp[En]
   ·split
    ·cases f with
     |zero =>
      have h:=LI (An 0 (Ba (Ak l) l));have O:Ia (An 0 (Ba (Ak l) l))=[]:=rfl;rw[O];simp[En]
     |succ f =>
      have h:=LI (An (f+1) (Ba (Ak l) l));have q:=WS f (Ba (Ak l) l) (λe=>by have:=Jy (Ak l) l;rw[e]at this;simp at this;omega);rw[Jy]at q;omega
    ·cases f with
     |zero =>
      have:∀ n,Vg (An 0) l n=[]:=λn=>by
       induction n with
       |zero=>rfl
       |succ n q =>
        rw[OM,q];split
        ·rfl
        ·rfl
      have A:=this 16;unfold Vg at A;rw[A];simp[En]
     |succ f =>
      have h:=YR (An (f+1)) (f+1) l (λi hi=>by
       have q:=WS f (Ba 1 (Ah i l)) (λe=>by have:=Jy 1 (Ah i l);rw[e]at this;simp at this;omega)
       rwa [Jy]at q) 16
      have X:=Nat.mul_le_mul_left (f+1) (KE l 16);have Z:Vg (An (f+1)) l 16=(List.range 16).flatMap λi=>if (Ah i l).length=0 then []else Ia (An (f+1) (Ba 1 (Ah i l))):=rfl
      rw[<-Z];exact bH h X
  have:(f+1)*l.length=f*l.length+l.length:=by rw[Nat.succ_mul]
  omega
theorem pE{l:vL}(h:QS l):(Bz (Cr l)).length<=13*l.length+1:=by
 by_cases h0:l=[]
 ·subst h0;show (Bz (.mk (Cu (Bj (An 12) [])) (Dc (An 12) []))).length<=_;have:Dc (An 12) []=[]:=rfl;rw[this];simp[Bz,En]
 ·have q:(Bz (Cr l)).length<=13*(Cq l).length:=WS 12 (Cq l) (λe=>h0 (by unfold Cq at e;simpa using e));(have A:(Cq l).length=l.length:=by unfold Cq;rw[bT]);rw[A]at q;omega
section
attribute [local go_sem] Oper.semAt_some
theorem Ef(W:vW):(Instr.makeMap 126 none).run prog W=.ok (.map (some ↑W)) (W.alloc (.map #[] 0)):=vY
theorem N3(v:vV)(l:vL)(hc:Ha w)(hv:Jv w v l)(h:Em l=0):vQ 31 #[v] w λe w'=>∃ u n,e=.returned (.tuple #[u,qa])/\Cg w w' u n (Hg (Bz (Cr l))):=by
 have hm:=Ge h
 obtain⟨a,c,rfl⟩:=hv.sl;have HV:=J hv;have HM:=J hm;have HC:=J hc;have H:=J h;have HL:=J hm.len
 obtain⟨T,hT⟩:=vE (Cr l)
 rw[<-hT];have d4:=J hT;clear hv hm hc h hT;refine (callsIn_wide (n:=0)).1 ?_;refine callsIn_of_wp_marks func31 rfl trivial ?_ rfl;simp only[ntmps31,cQ,bQ,cZ,Nat.reduceAdd,Nat.reduceSub,cV,cU,dC,cY,cL,cS];gi_wp2_with fail
 refine⟨trivial,rfl,CallsIn.mono (callsIn_wide.2 (GZ w _ l HV.o (kL HL.o) λp hp=>kL (HM.o.size p hp))) ?_⟩
 rintro e w1 ⟨rfl,O⟩;rw[H.o];have HE:=J O;have i4:=O.size;clear O;have f6:(Instr.makeMap 126 none).run prog (w1.alloc (.cells #[qe] 51))=.ok (.map (some ((w1:Nat)+1))) ((w1.alloc (.cells #[qe] 51)).alloc (.map #[] 0)):=by rw[<-bJ w1 (.cells #[qe] 51)];exact Ef _
 gi_wp2_with fail
 obtain⟨W6,Z⟩:=vE (((w1.alloc (.cells #[qe] 51)).alloc (.map #[] 0)).alloc (.cells #[.map (some ((w1:Nat)+1))] 126))
 rw[<-Z];have i5:(W6:Nat)=↑w1+3:=by rw[Z];simp
 have E6:Af w1 W6:=by rw[Z];exact (((Aa w1).alloc _).alloc _).alloc _
 have B5:Ae W6 w1 (.cells #[qe] 51):=by rw[Z];exact ((Ae.new w1 _).alloc _).alloc _
 have BM:Ae W6 ((w1:Nat)+1) (.map #[] 0):=by rw[Z];have:=(Ae.new (w1.alloc (.cells #[qe] 51)) (.map #[] 0)).alloc (.cells #[.map (some ((w1:Nat)+1))] 126);rwa [bJ]at this
 have B6:Ae W6 ((w1:Nat)+2) (.cells #[.map (some ((w1:Nat)+1))] 126):=by rw[Z];have:=Ae.new ((w1.alloc (.cells #[qe] 51)).alloc (.map #[] 0)) (.cells #[.map (some ((w1:Nat)+1))] 126);rwa [bJ,bJ]at this
 clear Z f6
 refine⟨trivial,rfl,CallsIn.mono (callsIn_wide.2 (tF W6 _ l ((HV.o.ext HE.o).ext E6) (kL HL.o) λp hp=>kL (HM.o.size p hp))) ?_⟩
 rintro e w7 ⟨u,rfl,hr⟩;have HR:=J hr.rd;have a3:Af W6 w7:=hr.ext;clear hr
 obtain⟨a2,c2,hu⟩:=HR.o.sl
 subst hu;have f7:=J a3;have d5:=J (B5.Z a3 kI);have d6:=J (BM.Z a3 kI);have d7:=J (B6.Z a3 kI);have b9:=J ((HE.o.trans E6).trans a3);have i6:=a3.size;clear B5 BM B6 E6 a3;gi_wp2_with fail
 refine⟨trivial,rfl,CallsIn.mono (callsIn_wide.2 (PC 12 (Cq l) (Nn HM.o) (by unfold Cq;rw[bT];have:=HL.o;omega) w7 _ (HC.o.ext b9.o) HR.o)) ?_⟩
 rintro e w8 ⟨k,rfl,hk,O⟩;have hk:=Lv.mono (A':=λx=>(w7:Nat)<=x/\x<(w8:Nat)) (λx h1 h2=>⟨h1,h2⟩) _ _ hk
 obtain⟨q,d8,d9,e0⟩:=YU _ _ hk
 have i7:=O.size;have a8:=J (d5.o.Z O kI);have a9:=J (d6.o.Z O kI);have b0:=J (d7.o.Z O kI);have e1:=J (b9.o.trans O);have e2:=J e0;have a5:=J d9;rw[<-d8];clear hk d8 d9 e0 O d5 d6 d7 b9 f7 HR HE;gi_wp2_with fail
 refine⟨trivial,rfl,CallsIn.mono (callsIn_wide.2 (yR w8 q.root)) ?_⟩
 rintro e w9 ⟨rfl,c0,O⟩;have c1:q.pt=T:=a5.o.trans d4.o.symm;have b1:(Bz q.pt).length<=1000000:=by rw[c1,d4.o];have:=pE HM.o;have:=HL.o;omega
 have i8:=c0.lt
 obtain⟨A,hA⟩:∃ A:Nat->Prop,A=λx=>(w7:Nat)<=x/\x<(w8:Nat):=⟨_,rfl⟩
 have S0:Sl w ↑w1 w9 A w8 q (Bz q.pt) 0 w9:=⟨e1.o.trans O,⟨_,0,a8.o.Z O kI,by simpa [Hg]using fK _ _ _ _,bO _,λb hb=>by cases hb⟩,⟨[],0,a9.o.Z O kI,λx=>by simp[Cp,Fc,Kf]⟩,b0.o.Z O kI,c0,by rw[hA];exact Hj.Z O (λ_ _ h=>h) _ e2.o⟩
 have b7:=J S0;have b2:∀ x,A x->(w1:Nat)+2<x/\x<(w9:Nat):=λx hx=>by rw[hA]at hx;omega
 have h8:(w1:Nat)+2 < ↑w8:=vO
 obtain⟨L,c3⟩:=vE (Bz q.pt)
 have c4:=wQ A w8 q b1;rw[<-c3]at c4 b1 b7;have f8:=J c4;have f9:=J c3;have a0:=J b2;have d3:=J c1;clear S0 O c0 hA e1 a8 a9 b0 e2 a5 c1 c3 c4 b2;unfold Fx;gi_wp2_with fail
 refine' EL (N:=L.length) (gf:=127) (lb:=#[w8]) rfl (vX 127) f8.o (λk=>rfl) (Sl w ↑w1 w9 A w8 q L) (λ_ _ _=>False) (λk W W' h e=>h.st e) (λ_ _ _ _ h _=>h) (λk W h=>⟨h.box,h.at'⟩) (λk W o h=>h.put vO vO vO vO (λx hx=>kL (a0.o x hx)) _) (λ_ _ _ _ h=>h) b7.o _ ?hassign ?hbody ?hdone ?hstop
 case hassign =>intro l2 j W K _ hK;unfold pT;rw[YP];simp only[dM,dG];gi_wp2;exact hK
 case hbody =>intro l2 k W hk h i9;obtain⟨v,n,h1,h2,h3,h4⟩:=h.var;obtain⟨ad,cp,rfl⟩:=Ir h2;obtain⟨es,ck,h5,h6⟩:=h.tab;obtain⟨x,hx⟩:=vE (L.getD k ());(rw[<-hx];have c5:L.take (k+1)=L.take k++[x]:=by rw[cP hk,hx,bL,bB hk];rfl);obtain⟨cn,a7⟩:=vE (Fc (L.take k) x);(have j0:cn<=1000000:=by rw[a7];unfold Fc;refine bH jL ?_;rw[bT,cR];omega);(have e6:=h6 x;rw[<-a7]at e6;have e3:(Instr.lookup 126 (.map (some ((w1:Nat)+1))) (.string x) false).run prog W=.ok (cn:Int) W:=by have:=Wx Al Bf h5 (Cz W) x.data.toList false;rw[e6]at this;unfold Kf at this;by_cases h0:cn=0;{rw[if_pos h0]at this;rw[h0];exact this};rw[if_neg h0]at this;exact this);obtain⟨Gb,a1⟩:=vE (Iv es x.data.toList (.int .i64 ((cn:Int)+1)) ck);obtain⟨c7,b3⟩:=vE (if (Cp es x.data.toList).isSome then ck else ck+1);obtain⟨X,b8⟩:=vE (W.putObj ((w1:Nat)+1) (.map (Al.arr Gb) c7));(have e4:(Instr.mapUpdate 126 (.map (some ((w1:Nat)+1))) (.string x) (.int .i64 ((cn:Int)+1))).run prog W=.ok () X:=by have:=Yq Al Bf h5 x.data.toList (.int .i64 ((cn:Int)+1));rw[<-a1, <-b3, <-b8]at this;exact this);(have B2:Ae X ((w1:Nat)+1) (.map (Al.arr Gb) c7):=by rw[b8];exact h5.put_same _);(have e7:∀ y:vB,Cp Gb y.data.toList=Kf (Fc (L.take (k+1)) y):=λy=>by(rw[a1,EF,h6 y,c5];have hc:Fc (L.take k++[x]) y=Fc (L.take k) y+(if x.data.toList=y.data.toList then 1 else 0):=by unfold Fc;rw[bW,List.count_append,bP,fY,List.count_singleton];simp);rw[hc];by_cases hxy:y.data.toList=x.data.toList;{have g0:y=x:=ByteArray.ext (Array.ext' hxy);subst g0;rw[if_pos rfl,if_pos rfl, <-a7];unfold Kf;rw[if_neg vO];simp};rw[if_neg hxy,if_neg λe=>hxy e.symm];rfl);(have b4:(Instr.lookup 126 (.map (some ((w1:Nat)+1))) (.string x) false).run prog X=.ok (.int .i64 ((cn:Int)+1)) X:=by have:=Wx Al Bf B2 (Cz X) x.data.toList false;rw[a1,EF,if_pos rfl]at this;exact this);(have K2:Ad (λb=>b=(w1:Nat)+1) W X:=by rw[b8];exact Ad.z7 _ _ _);have q6:W.cell? ((w1:Nat)+1+1:)=some (.map (some ((w1:Nat)+1))):=h.mv.cell (i:=0) vF;have M2:=h.mv.Z K2 vO;have j1:X.cell? ((w1:Nat)+1+1:)=some (.map (some ((w1:Nat)+1))):=M2.cell (i:=0) vF;have V2:=h1.Z K2 vO;have O2:=Lb h2 K2 (λb hb e=>kL (h4 b hb));have X2:=h.box.Z K2 vO;have A2:=Hj.Z K2 (λy hy e=>kL (a0.o y hy)) _ h.at';have E2:=h.ext.O K2 (λy hy e=>by omega);have j2:=V2.cell (i:=0) (v:=.slice ad n cp) vF;have i1:X.frozen? w1=false:=V2.frozen;have b5:=J (show Jr (Hg (L.take k)) x=true↔cn≠0 from by rw[GU,Ql,a7];unfold Fc;rw[<-Nat.pos_iff_ne_zero,gB,bC];exact⟨λhm=>⟨x,hm,rfl⟩,λ⟨y,hy,e⟩=>by rw[<-show y=x from ByteArray.ext (Array.ext' e)];exact hy⟩);have e5:=J (show Hg (L.take (k+1))=Ii (Hg (L.take k)) x by rw[c5,SW]);have b6:=J (show ∃ es ck,Ae X ((w1:Nat)+1) (.map (Al.arr es) ck)/\∀ y:vB,Cp es y.data.toList=Kf (Fc (L.take (k+1)) y)from⟨Gb,c7,B2,e7⟩);have c8:=J K2;have e8:=J M2;have e9:=J V2;have f0:=J O2;have f1:=J X2;have a5:=J A2;have f2:=J E2;have H4:=J h4;clear h h1 h2 h4 h5 h6 hx c5 a7 e6 a1 b3 b8 B2 e7 K2 M2 V2 O2 X2 A2 E2 b7;obtain⟨i0,hi,g2,g3,g4⟩:=info_parts Bn;by_cases hc0:cn=0;{subst hc0;(have f3:Jr (Hg (L.take k)) x=false:=by cases hm:Jr (Hg (L.take k)) x with| false=>rfl| true=>exact absurd rfl (b5.o.1 hm));(have c9:=J f3;have i2:(Instr.lookup 126 (.map (some ((w1:Nat)+1))) (.string x) false).run prog W=.ok qa W:=e3;have i3:(Instr.mapUpdate 126 (.map (some ((w1:Nat)+1))) (.string x) (.int .i64 1)).run prog W=.ok () X:=e4;have f5:(Instr.lookup 126 (.map (some ((w1:Nat)+1))) (.string x) false).run prog X=.ok (.int .i64 1) X:=b4;clear f3 e3 e4 b4;gi_wp2_with (gi_at_builtin;refine JN _ rfl (.tmp 27) (.tmp 29) 51 rfl 9 i0 _ 1 16 Bg hi g2 g3 g4 rfl vI (.slice ad n cp) n _ rfl (Kh f0.o ((Aa X).alloc _)) X 1 1 [.string x] rfl rfl (Jx (Ae.new X _)) zc zi vO ?_;intro v' w6 r1 r2 r3;obtain⟨d0,d1,rfl⟩:=Ir r1;have d2:=(e9.o.alloc _).Z r2 (λe=>kL (H4.o _ e));have j3:w6.cell? w1=some (.slice ad n cp):=d2.cell (i:=0) vF;have j4:w6.frozen? w1=false:=d2.frozen));(have a4:Hg (L.take (k+1))=Hg (L.take k)++[x]:=by rw[e5.o];unfold Ii;rw[if_neg (by rw[c9.o];simp)]);(have g5:w6.ownsRow 0 9 1 (.slice d0 (n+1) d1) (n+1) ((Hg (L.take (k+1))).map Value.string):=by rw[a4,bW];exact r1);(have K6:Ad (λb=>(Value.slice ad n cp).ownBlock=some b) X w6:=((Ad.refl _ X).alloc _).trans r2;have f4:∀ b,(Value.slice d0 (n+1) d1).ownBlock=some b->(w9:Nat)+2<=b:=λb hb=>by rcases r3 with r3|r3;{exact H4.o b (r3 ▸ hb)};have h9:=r3 b hb;have:=c8.o.size;rw[bJ]at h9;omega);have K7:Ad (λb=>b=(w1:Nat)) w6 (w6.setCell w1 (.slice d0 (n+1) d1)):=Ad.z4 w6 w1 _;have nO:∀ b,b<(w9:Nat)+2->¬(Value.slice ad n cp).ownBlock=some b:=λb hb e=>kL (H4.o b e);refine⟨((c8.o.mono λy _ e=>?_).trans (K6.mono λy _ e=>?_)).trans (K7.mono λy _ e=>?_),?_⟩;{have e:y=_:=e;show y≠_/\y≠_;omega};{have:=H4.o y e;show y≠_/\y≠_;omega};{have e:y=_:=e;show y≠_/\y≠_;omega};obtain⟨g6,g7,g8,g9⟩:=b6.o;exact⟨(f2.o.O K6 λy hy e=>kL (H4.o y e)).O K7 kJ,⟨_,n+1,d2.z2 (i:=0) _,Lb g5 K7 λb hb e=>kL (f4 b hb),by omega,f4⟩,⟨g6,g7,(g8.Z K6 (nO _ vO)).Z K7 vO,g9⟩,(e8.o.Z K6 (nO _ vO)).Z K7 vO,(f1.o.Z K6 (nO _ vO)).Z K7 vO,Hj.Z K7 (λy hy e=>kL (a0.o y hy)) _ (Hj.Z K6 (λy hy=>nO y (kL (a0.o y hy))) _ a5.o)⟩};have j5:¬((cn:Int)+1=1):=vO;(have j6:(((cn:Int)+1) == 1)=false:=by simp;omega);(have hm:=b5.o.2 hc0;have c9:=J hm;clear hm;gi_wp2_with fail);(have a4:Hg (L.take (k+1))=Hg (L.take k):=by rw[e5.o];unfold Ii;rw[if_pos c9.o]);refine⟨c8.o.mono λy _ e=>?_,?_⟩;{have e:y=_:=e;show y≠_/\y≠_;omega};exact⟨f2.o,⟨_,n,e9.o,by rw[a4];exact f0.o,by omega,H4.o⟩,b6.o,e8.o,f1.o,a5.o⟩
 case hdone =>intro W h hd;obtain⟨v,n,h1,h2,h3,h4⟩:=h.var;obtain⟨ad,cp,rfl⟩:=Ir h2;(have q5:W.cell? w1=some (.slice ad n cp):=h1.cell (i:=0) vF;rw[cF,f9.o]at h2;have H2:=J h2;have H4:=J h4;have HX:=J h.ext;have HD:=J hd;have h7:Hid (q.pt=T):=d3.o;clear h h1 h2 h4 hd b7;gi_wp2_with fail);refine⟨by simp,.inl ⟨_,_,rfl,run_takeDeferred HD.o,?_⟩⟩;refine⟨_,results_tmp2 rfl _ _ _,?_⟩;have hK:=Ad.z7 W w9 (.deferred none);refine⟨.slice ad n cp,n,rfl,⟨_,_,rfl⟩,by rw[<-h7.o];exact Lb H2.o hK λb hb e=>kL (H4.o b hb),HX.o.putObj (.inr vO) _,λb hb=>kL (H4.o b hb)⟩
 case hstop=>intro c k W _ _ h;exact h.elim
end
theorem zN(v:vV)(l:vL)(hc:Ha w)(hv:Jv w v l)(h:Em l=0):vR 47 #[v] w (.tuple #[.string (Cr l).text,qa]):=by
 have hm:=Ge h
 obtain⟨a,c,rfl⟩:=hv.sl;have HV:=J hv;have q:=J hm;have HC:=J hc;have H:=J h;have A:=J hm.len;unfold vR vQ;go_in;go_wp2_with fail
 refine vC (GZ w _ l HV.o (kL A.o) λp K=>kL (q.o.size p K)) λw1 O=>?_;rw[H.o];have HE:=J O;go_wp2_with fail
 refine (tF w1 _ l (HV.o.ext HE.o) (kL A.o) λp K=>kL (q.o.size p K)).mono ?_;rintro e w2 ⟨u,rfl,hr⟩;have HR:=J hr.rd;have HX:=J (HE.o.trans hr.ext)
 obtain⟨a2,c2,hu⟩:=HR.o.sl
 subst hu;go_wp2_with fail
 refine (PC 12 (Cq l) (Nn q.o) (by unfold Cq;rw[bT];have:=A.o;omega) w2 _ (HC.o.ext HX.o) HR.o).mono ?_;rintro e w3 ⟨k,rfl,hk,O⟩
 obtain⟨a0,vk,bk,X,_⟩:=hk.open
 have q0:w3.cell? k=some (.string (An 13 (Cq l)).text):=X.cell vF;have Z:=J (HX.o.trans O);unfold Fx;go_wp2
 go_ret2
 exact⟨rfl,Z.o⟩
theorem rO(v:vV)(l:vL)(hc:Ha w)(hv:Jv w v l)(h:Em l=0):vR 15 #[v] w (.tuple #[Aj (Cr l).text,qa]):=by
 have A:=zN w v l hc hv h
 obtain⟨a,c,rfl⟩:=hv.sl
 obtain⟨t,K⟩:=vE (Cr l).text
 rw[<-K]at A ⊢;have X:=J A;have Z:=J hc;clear A hc hv K h;unfold vR vQ;go_in;go_wp2_with fail
 refine X.o.mono ?_;rintro e w1 ⟨rfl,q⟩;have O:=J q;clear q;go_wp2_with fail
 refine vH (Tr _ _ [t] (by simp) (BS w1 [t] 9) (Z.o.ext (O.o.alloc _))) λw2 q=>?_;rw[CX];have H:=J ((O.o.alloc _).trans q);go_wp2
 go_ret2
 exact⟨rfl,H.o⟩
theorem Rc:Xq (prog.underlying 49)=true:=vY
theorem Dq:(prog.info? 49).map (·.size)=some 2:=vY
theorem UF{w:vW}{x y:vB}(h1:w.cell? ⟨b,o,none⟩=some (.string x))(h2:w.cell? ⟨b,o+1,none⟩=some (.string y)):(Instr.loadAt 49 (.pointer (some ⟨b,o,none⟩))).run prog w=.ok (.agg #[x,y]) w:=by
 obtain⟨A,q⟩:=Yo Rc
 refine Yr (xs:=[x,y]) q Dq (λj v e=>?_);rw[Addr.add_lit]
 match j,e with
 |0,e=>simp at e;subst e;exact h1
 |1,e=>simp at e;subst e;exact h2
 |j+2,e=>simp at e
theorem b9(r:vM):(Hg (x::r))[0]?=some x:=by
 unfold Hg;rw[dQ];have h:∀ (r e:vM),e[0]?=some x->(r.foldl Ii e)[0]?=some x:=by intro r;induction r with| nil=>intro e h;exact h| cons y r ih =>intro e h;rw[dQ];refine ih _ ?_;unfold Ii;split;{exact h};rw[cJ (bI.1 h).1];exact h
 exact h r _ (by simp[Ii,Jr])
theorem eF(T:PT):(Hg (Bz T))[0]?=some T.text:=by
 obtain⟨t,ks⟩:=T
 unfold Bz;exact b9 t _
theorem UW:(x.toList == y.toList)=decide (x=y):=by
 by_cases h:x=y
 ·simp[h]
 ·have e:¬ x.toList=y.toList:=λq=>h (TC q);simp only[h,decide_false];exact beq_eq_false_iff_ne.2 e
theorem Zw{t:vB}:∀ {ks:List PT},t∈En ks↔∃ T∈ks,t∈Bz T
 |[]=>by simp[En]
 |T::ks=>by
  unfold En;rw[bR,Zw (ks:=ks)];constructor
  ·rintro (h|⟨A,e,q⟩)
   ·exact⟨T,bN,h⟩
   ·exact⟨A,bM _ e,q⟩
  ·rintro⟨A,e,q⟩
   rcases bU.1 e with rfl|e
   ·exact .inl q
   ·exact .inr ⟨A,e,q⟩
theorem yQ{f:FuncId}{w:vW}
  (h:Calls P f args w λ| .returned v,w'=>R v w'|_,_=>False) (h':Calls P f args w λ| .returned v,w'=>R' v w'|_,_=>False) (hi:P.inits.idxOf? f=none) :
  ∃ v w',R v w'/\R' v w':=by
 obtain⟨n,v,w1,e,q⟩:=h.done hi
 obtain⟨m,K,O,A,H⟩:=h'.done hi
 have a:=runN_ended e m;have b:=runN_ended A n;rw[jE,a]at b;injection b with ho hw;injection ho with hv;subst hv hw
 exact⟨_,_,q,H⟩
theorem A9{f:FuncId}{w:vW}{a b:vV}{R R':vW->Prop}
  (h:Calls P f args w λe w'=>e=.returned a/\R w') (h':Calls P f args w λe w'=>e=.returned b/\R' w') (hi:P.inits.idxOf? f=none):a=b:=by
 obtain⟨v,w',A,H⟩:=yQ (R:=λv _=>v=a) (R':=λv _=>v=b) (h.mono λe w' q=>by obtain⟨rfl,_⟩:=q;rfl) (h'.mono λe w' q=>by obtain⟨rfl,_⟩:=q;rfl) hi
 exact A.symm.trans H
theorem z2{m:Ai}(h:n.V=m.V):n=m:=by
 obtain⟨k,p,v,A⟩:=n
 obtain⟨H,p',v',e⟩:=m
 unfold Ai.V Ai.cells at h;injection h with h;have h:=congrArg Array.toList h;simp only[iQ,List.cons.injEq,Value.int.injEq,Value.string.injEq]at h
 obtain⟨⟨_,q⟩,K,O,X⟩:=h
 have Z:A=e:=by(have:∀ a b:vM,a.map Value.string=b.map Value.string->a=b:=λa=>by induction a with| nil=>(intro b hb;cases b with|nil=>rfl|cons x y=>cases hb)| cons x r ih =>intro b hb;cases b with| nil=>cases hb| cons y t =>simp only[bP,List.cons.injEq,Value.string.injEq]at hb;rw[hb.1,ih t hb.2]);exact this _ _ X
 have q:k=H:=vO
 subst q K O Z;rfl
theorem lN(w:vW){m:Ai}(hn:Gn (Bx f) n)(hm:Gn (Bx g) m)(h:Cu n=Cu m):n=m:=by
 have e:=AJ (Bm f) w n hn;have q:=AJ (Bm g) w m hm;rw[h]at e
 have:=A9 e q vY
 injection this with this
 have:=congrArg Array.toList this
 simp only[iQ,List.cons.injEq]at this;exact z2 this.1
theorem jC4{a b:vB}(ha:a.size=32)(hb:b.size=32)(h:Av a=Av b):a=b:=by
 obtain⟨r,e,q⟩:=GI a ha
 obtain⟨s,A,H⟩:=GI b hb
 rw[h]at e q;rw[e]at A;obtain rfl:=bV A;rw[q]at H;exact bV H
theorem i8{T:PT}(h:T.text.size<32):Ax T.text=T.text:=by unfold Ax;rw[if_pos h]
theorem UP{T:PT}(h:¬ T.text.size<32):Ax T.text=Av (Aj T.text):=by unfold Ax;rw[if_neg h]
theorem i7{T:PT}(h:Yz f T n)(hs:T.text.size<32):Bz T=[T.text]:=by
 have e:=h.small hs
 obtain⟨x,ks⟩:=T
 have e:ks=[]:=e;subst e;unfold Bz En;rfl
theorem nB{T:PT}(h:¬ T.text.size<32):En (Ia T)=Bz T:=by
 unfold Ia;rw[if_neg h];simp[En]
theorem Yx(T:PT):T.text∈Bz T:=by cases T;unfold Bz;exact bN
theorem Vt{l:vL}(h:Ep 0 l):l.length<=1:=by
 rcases fH l.length 2 with h2|h2
 ·omega
 ·obtain⟨a,q⟩:∃ a,l[0]?=some a:=⟨_,bB vO⟩;obtain⟨b,hb⟩:∃ b,l[1]?=some b:=⟨_,bB vO⟩;have e:=Xr h.rise vO q hb;have:=(h.size b (bD hb)).1;rw[show b.l=[]from bF (by show b.1.size=0;omega)]at e;exact absurd e (not_lt_nil _)
theorem Rq{a b:vB}(h:a.data.toList=b.data.toList):a=b:=by
 obtain⟨⟨a⟩⟩:=a
 obtain⟨⟨b⟩⟩:=b
 simp only at h;subst h;rfl
def Lf(r:vB):Option vB:=(Dx r).bind (Vx r)
def Gc(n:Ai):vM:=n.refs.filterMap Lf
theorem GH:Lf ()=none:=by
 unfold Lf Dx;rw[dif_neg vI];rfl
theorem JZ(hs:h.size=32):Lf (Av h)=some h:=by
 obtain⟨r,e,q⟩:=GI h hs
 unfold Lf;rw[e];exact q
theorem ED{I:vB->Ai->Prop}(HI:Wj I){r:vB}{m:Ai}(h:I r m):Lf r=none:=by
 obtain⟨q,e,A⟩:=HI.nohash r m h
 unfold Lf;rw[e];exact A
theorem jl1{T:PT}(h:Yz f T n):(Lf (Ax T.text)).toList=(Ia T).map λk=>Aj k.text:=by
 by_cases hs:T.text.size<32
 ·rw[ED (Bm (f+1)) (h.may.2 hs)];unfold Ia;rw[if_pos hs];rfl
 ·rw[UP hs,JZ (Rp _)];unfold Ia;rw[if_neg hs];rfl
theorem GJ:(Dd k).filterMap Lf=[]:=by
 unfold Dd;rw[iU];intro r e;rw[fG e,GH]
theorem ZU{α:Type}(g:α->vB)(k:α->List PT):∀ L:List α,(∀ i∈L,(Lf (g i)).toList=(k i).map λk=>Aj k.text)->(L.map g).filterMap Lf=(L.flatMap k).map λk=>Aj k.text
 |[],_=>rfl
 |x::L,h=>by
  rw[bP,dJ,bW, <-ZU g k L λi e=>h i (bM _ e), <-h x bN,fX];cases Lf (g x)<;>rfl
theorem SM(f:Nat)(l:vL)(h:Ep f l):Gc (Bj (An f) l)=(Dc (An f) l).map λk=>Aj k.text:=by
 unfold Gc
 by_cases h0:l.length=0
 ·(have H:Bj (An f) l=Cv:=by unfold Bj;rw[if_pos h0]);(have K:Dc (An f) l=[]:=by unfold Dc;rw[if_pos vO]);rw[H,K];exact GJ 16
 by_cases h1:l.length=1
 ·(have H:Bj (An f) l=⟨1,(l.getD 0 pd).1,(l.getD 0 pd).2,Dd 16⟩:=by unfold Bj;rw[if_neg h0,if_pos h1]);(have K:Dc (An f) l=[]:=by unfold Dc;rw[if_pos vO]);rw[H,K];exact GJ 16
 have h2:2<=l.length:=vO
 cases f with
 |zero=>have:=Vt h;omega
 |succ f =>by_cases hk:0<Ak l;{have A:=Rn h h2;(have O:Ep f (Ba (Ak l) l):=(Ys (Ak l) h (λp X q hq=>(A p X).1.trans (A q hq).1.symm) λp X=>(A p X).2).mono vO;have Z:Ba (Ak l) l≠[]:=λe=>by have:=Jy (Ak l) l;rw[e]at this;simp at this;omega);(have a0:=(good f _ O).2.1 Z;have H:Bj (An (f+1)) l=⟨2,(l.getD 0 pd).1.extract 0 (Ak l),⟨#[]⟩,Ax (An (f+1) (Ba (Ak l) l)).text::Dd 15⟩:=by unfold Bj;rw[if_neg h0,if_neg h1,if_pos hk]);(have K:Dc (An (f+1)) l=Ia (An (f+1) (Ba (Ak l) l)):=by unfold Dc;rw[if_neg vO,if_pos hk]);rw[H,K, <-jl1 a0];show (Ax (An (f+1) (Ba (Ak l) l)).text::Dd 15).filterMap Lf=_;rw[fX,GJ];cases Lf (Ax (An (f+1) (Ba (Ak l) l)).text)<;>rfl};(have H:(Bj (An (f+1)) l).refs=(List.range 16).map λi=>if (Ah i l).length=0 then ⟨#[]⟩else Ax (An (f+1) (Ba 1 (Ah i l))).text:=by unfold Bj;rw[if_neg h0,if_neg h1,if_neg hk]);(have K:Dc (An (f+1)) l=(List.range 16).flatMap λi=>if (Ah i l).length=0 then []else Ia (An (f+1) (Ba 1 (Ah i l))):=by unfold Dc;rw[if_neg vO,if_neg hk]);rw[H,K];refine ZU _ _ _ λi hi=>?_;by_cases hc:(Ah i l).length=0;{rw[if_pos hc,if_pos hc,GH];rfl};rw[if_neg hc,if_neg hc];exact jl1 ((good f _ (Yy i h)).2.1 λe=>by have:=Jy 1 (Ah i l);rw[e]at this;simp at this;omega)
theorem uI{l:vL}(h:Ep f l){K:PT}(A:K∈Dc (An f) l):∃ g m,f=g+1/\K=An (g+1) m/\Ep g m/\32<=K.text.size:=by
 have O:∀ {T:PT},K∈Ia T->K=T/\32<=K.text.size:=λ{T} h=>by unfold Ia at h;split at h;{cases h};rw[bG]at h;subst h;exact⟨rfl,by omega⟩
 unfold Dc at A
 by_cases h1:l.length<=1
 ·rw[if_pos h1]at A;cases A
 rw[if_neg h1]at A;cases f with
 |zero=>have:=Vt h;omega
 |succ f =>by_cases hk:0<Ak l;{rw[if_pos hk]at A;have H:=Rn h vO;have X:Ep f (Ba (Ak l) l):=(Ys (Ak l) h (λp Z q hq=>(H p Z).1.trans (H q hq).1.symm) λp Z=>(H p Z).2).mono vO;obtain⟨e,hs⟩:=O A;exact⟨f,_,rfl,e,X,hs⟩};rw[if_neg hk]at A;obtain⟨i,_,A⟩:=dE.1 A;split at A;{cases A};obtain⟨e,hs⟩:=O A;exact⟨f,_,rfl,e,Yy i h,hs⟩
def Hv(t:vB)(n:Ai):Prop:=t=Cu n/\∃ g,Gn (Bx g) n
structure pL(L B:vM):Prop where
 node:∀ t∈L,∃ n,Hv t n/\∀ h∈Gc n,∃ t'∈L,h=Aj t'
 told:∀ t∈B,32<=t.size/\∃ t'∈L,∃ n,Hv t' n/\Aj t∈Gc n
theorem wY:∀ (f:Nat) (l:vL),Ep f l->pL (Bz (An (f+1) l)) (En (Dc (An f) l)):=by
 intro f;induction f with
 |zero =>(intro l h;have e2:Dc (An 0) l=[]:=by have:=Vt h;unfold Dc;rw[if_pos vO]);(have eT:Bz (An (0+1) l)=[Cu (Bj (An 0) l)]:=by show Bz (.mk (Cu (Bj (An 0) l)) (Dc (An 0) l))=_;rw[Bz,e2];simp[En]);have hh:=SM 0 l h;rw[e2]at hh;rw[eT,e2];refine⟨λt q=>?_,λt q=>by simp[En]at q⟩;rw[bG]at q;exact⟨_,⟨q,0,(good 0 l h).1⟩,λx Z=>by rw[hh]at Z;cases Z⟩
 |succ f ih =>(intro l h;have eT:Bz (An (f+1+1) l)=Cu (Bj (An (f+1)) l)::En (Dc (An (f+1)) l):=by show Bz (.mk (Cu (Bj (An (f+1)) l)) (Dc (An (f+1)) l))=_;rw[Bz]);(have hh:=SM (f+1) l h;have H:Hv (Cu (Bj (An (f+1)) l)) (Bj (An (f+1)) l):=⟨rfl,f+1,(good (f+1) l h).1⟩;have O:∀ {K:PT},K∈Dc (An (f+1)) l->∀ t∈Bz K,t∈Bz (An (f+1+1) l):=λ{K} A t q=>by rw[eT];exact bM _ (Zw.2 ⟨K,A,q⟩));(have X:∀ {K:PT},K∈Dc (An (f+1)) l->∃ m,K=An (f+1) m/\Ep f m/\32<=K.text.size:=λ{K} A=>by obtain⟨g,m,e,h1,h2,h3⟩:=uI h A;obtain rfl:f=g:=vO;exact⟨m,h1,h2,h3⟩);constructor;{intro t q;rw[eT]at q;rcases bU.1 q with rfl|q;{refine⟨_,H,λx Z=>?_⟩;rw[hh]at Z;obtain⟨K,A,rfl⟩:=bC.1 Z;exact⟨_,O A _ (Yx K),rfl⟩};obtain⟨K,A,q⟩:=Zw.1 q;obtain⟨m,rfl,hm,_⟩:=X A;obtain⟨n,h1,h2⟩:=(ih m hm).node t q;exact⟨n,h1,λx Z=>by obtain⟨t',a0,e⟩:=h2 x Z;exact⟨t',O A _ a0,e⟩⟩};intro t q;obtain⟨K,A,q⟩:=Zw.1 q;obtain⟨m,rfl,hm,a1⟩:=X A;(have eK:Bz (An (f+1) m)=Cu (Bj (An f) m)::En (Dc (An f) m):=by show Bz (.mk (Cu (Bj (An f) m)) (Dc (An f) m))=_;rw[Bz]);rw[eK]at q;rcases bU.1 q with rfl|q;{refine⟨a1,_,?_,_,H,?_⟩;{rw[eT];exact bN};rw[hh];exact bC.2 ⟨_,A,rfl⟩};obtain⟨h1,t',a0,n,h2,h3⟩:=(ih m hm).told t q;exact⟨h1,t',O A _ a0,n,h2,h3⟩
theorem ZK(l:vM):(Hg l).Nodup:=by
 unfold Hg
 have:∀ (l q:vM),q.Nodup->(l.foldl Ii q).Nodup:=λl=>by induction l with| nil=>exact λ_ h=>h| cons x r ih =>intro q h;rw[dQ];refine ih _ ?_;unfold Ii;split;{exact h};rename_i hn;have A:x ∉ q:=λH=>hn ((GU q x).2 H);rw[dW];exact⟨h,by simp,λa K b hb e=>by simp at hb;subst hb;subst e;exact A K⟩
 exact this l [] (by simp)
structure Z6(L:vM)(top:vB):Prop where
 head:L[0]?=some top
 nodup:L.Nodup
 node:∀ t∈L,∃ n,Hv t n/\∀ h∈Gc n,∃ t'∈L,h=Aj t'
 told:∀ (i:Nat) t,L[i+1]?=some t->32<=t.size/\∃ t'∈L,∃ n,Hv t' n/\Aj t∈Gc n
theorem RB{l:vL}(h:Em l=0):Z6 (Hg (Bz (Cr l))) (Cr l).text:=by
 have O:=wY 12 (Cq l) (Nn (Ge h));have eT:Bz (Cr l)=(Cr l).text::En (Dc (An 12) (Cq l)):=by show Bz (.mk (Cu (Bj (An 12) (Cq l))) (Dc (An 12) (Cq l)))=_;rw[Bz];rfl
 have O:pL (Bz (Cr l)) (En (Dc (An 12) (Cq l))):=O;have A:=ZK (Bz (Cr l))
 refine⟨eF _,A,λt X=>?_,λi t X=>?_⟩
 ·obtain⟨n,H,K⟩:=O.node t ((Ql _ _).1 X);exact⟨n,H,λx hx=>by obtain⟨t',q,e⟩:=K x hx;exact⟨t',(Ql _ _).2 q,e⟩⟩
 ·have Z:=(Ql _ _).1 (bD X);(have a0:t≠(Cr l).text:=λe=>by have h0:=eF (Cr l);obtain⟨H,e1⟩:=bI.1 X;obtain⟨K,e2⟩:=bI.1 h0;exact gD.1 A 0 (i+1) K H vO (e2.trans (e.symm.trans e1.symm)));rw[eT]at Z;rcases bU.1 Z with e|Z;{exact absurd e a0};obtain⟨H,t',q,n,K⟩:=O.told t Z;exact⟨H,t',(Ql _ _).2 q,n,K⟩
theorem BL(w:vW){m:Ai}(h:Hv t n)(k:Hv t m):n=m:=by
 obtain⟨e,f,q⟩:=h
 obtain⟨A,g,H⟩:=k
 exact lN w q H (e.symm.trans A)
def wP(P:Program)(l:Nat)(args:Array vV)(W:vW)(r:Nat)(Ct:vW->Prop):Prop:=
 YieldAt Fence.wide 0 P l args W λe W'=>e=.returned true/\Ad (λb=>b≠r) W W'/\Ct W'
def tR(P:Program)(gf:FuncId)(lb:Array vV){σ:Type}(s0:σ)(Step:σ->Array vV->σ->Prop)(Done:σ->Prop)(S:vW->Prop):Prop:=
 ∀ (l:Nat) (C:σ->vW->Prop) (W:vW),(∀ s W1 W2,C s W1->Ad (λb=>b=(W:Nat)) W1 W2->C s W2)->(∀ s W1,C s W1->S W1) ->
  (∀ s v s' W1,Step s v s'->C s W1->(W:Nat) < ↑W1->wP P l v W1 W (C s'))->C s0 W ->
   CallsIn Fence.wide 0 P gf (#[.func (.yield l) #[] #[]]++lb) W (λe W'=>(∃ v,e=.returned v)/\∃ s,Done s/\C s W')
def Z1(g:Nat)(W:vW)(Ct:vW->Prop):Exit->Act->vW->Prop
 |.normal,_,W'=>Ad (λb=>b≠g/\b≠g+1/\b≠g+2) W W'/\Ct W'
 |_,_,_=>False
theorem E2{g:Operand}{ps:Array Tmp}{w:vW}
  {gf:Nat}  (hg:a.eval g=.func (.func gf) #[] lb) (eg:∀ args w,(callFunc gf args).run P w=.ok (.enter gf args) w)
  {σ:Type} {s0:σ} {Step:σ->Array vV->σ->Prop} {Done:σ->Prop} {S:vW->Prop} (IS:tR P gf lb s0 Step Done S)
  (hps:∀ s v q,Step s v q->v.size=ps.size)
  (C:σ->vW->Prop) (hC:∀ s W W',C s W->Ad (λb=>b=(w:Nat)\/b=(w:Nat)+1\/b=(w:Nat)+2) W W'->C s W') (hS:∀ s W,C s W->S W)
  (h0:C s0 w) (a₁:Array vV->Act)
  (hassign:∀ (l:Nat) (v:Array vV) (s q:σ) (W:vW) (K:Act->vW->Prop),Step s v q->K (a₁ v) W ->
   assign.wpIn (Fence.wide.inRound l) 0 P (Exit.then K λ_ _ _=>False) { tmps:=(ps.zip v).foldl (λt (p,v)=>t.setIfInBounds p v) a.tmps,defers:=[] } W)
  (hbody:∀ (l:Nat) (v:Array vV) (s q:σ) (W:vW),Step s v q->C s W->(w:Nat)+2 < ↑W->body.wpIn (Fence.wide.inRound l) 0 P (Z1 w W (C q)) (a₁ v) W)
  (hdone:∀ (s:σ) (W:vW),Done s->C s W->Ae W w (.deferred (some []))->Q .normal { a with defers:={ target:=.collected w,args:=#[] }::a.defers } W) :
  (Code.rangeFunc g ps assign body).wpIn Fence.wide 0 P Q a w:=by
 refine TV hg eg λX W1 Z a1 A a2=>?_;refine CallsIn.mono (IS ((w:Nat)+1) (λs W=>C s W/\Mc X w .ready none W) W1 (λs Wa Wb ⟨h1,O⟩ e=>⟨hC s _ _ h1 (e.mono λb _ h=>by rw[A]at h;exact .inr (.inr h)),O.Z e (by rw[A];omega) (by rw[A];omega)⟩) (λs W h=>hS s W h.1) ?_ ⟨hC s0 _ _ h0 (a1.mono kZ),a2⟩) ?_
 ·rintro s v q W H ⟨h1,O⟩ a0;rw[A]at a0;have kb:=λo=>Ad.z7 W ((w:Nat)+1) o;refine TW Z O (hps s v q H) (hassign _ v s q W _ H ⟨O,Code.wpIn_mono ?_ (hbody _ v s q _ H (hC s _ _ h1 ((kb _).mono λb _ h=>.inr (.inl h))) (by rw[World.putObj_size];exact a0))⟩);intro e a' W' hq;cases e with| normal =>have k1:=(kb (.loop (X .busy none))).mono (G:=λb=>b≠(W1:Nat)) (λb _ h=>by have h:b=(w:Nat)+1:=h;omega);refine⟨none,rfl,hq.1.mono λb _ h=>⟨h.1,h.2.1⟩,λhb=>⟨rfl,(k1.trans (hq.1.mono λb _ h=>by rw[A];exact h.2.2)).trans ((Ad.z7 _ _ _).mono λb _ h=>by have h:b=(w:Nat)+1:=h;omega),hC q _ _ hq.2 ((Ad.z7 _ _ _).mono λb _ h=>.inr (.inl h)),hb⟩⟩| _=>exact hq.elim
 ·rintro e W' ⟨hv,s,hd,h1,O⟩;exact⟨hv,.inl ⟨O,λo hb=>hdone s _ hd (hC s _ _ h1 ((Ad.z7 _ _ _).mono λb _ h=>.inr (.inl h))) hb⟩⟩
section
attribute [local go_sem] Oper.semAt_some
abbrev Ea:=Ce (vN)
theorem Ey:prog.underlying 140=some (.map 9 49):=vY
def Vd(s:List Ea):Array Nat:=(s.map (·.2.2)).toArray
def tS(es:List Ea)(s:List Ea)(v:Array vV)(s':List Ea):Prop:=∃ x∈Fq es (Vd s),v=#[MG x.1]/\s'=s++[x]
def IM(es:List Ea)(s:List Ea):Prop:=Fq es (Vd s)=[]
def XP(w:vW)(r:Nat):Array Nat:=match w.heap[r]? with|some (.mapIter _ _ s _)=>s|_=>#[]
theorem aJ{w:vW}{m:Option Nat}{a:Nat}{s:Array Nat}(h:Ae w r (.mapIter m a s b)):XP w r=s:=by
 unfold XP;rw[show w.heap[r]?=_ from h]
theorem T7{es:List Ea}{s:List Ea}{x:Ea}(hx:x∈Fq es (Vd s)):(Fq es (Vd (s++[x]))).length<(Fq es (Vd s)).length:=by
 have e:Fq es (Vd (s++[x]))=(Fq es (Vd s)).filter (λy => !(y.2.2 == x.2.2)):=by unfold Fq Vd;rw[List.filter_filter];refine iY (λy _=>?_);simp only[List.contains_toArray,bW,bP,fY,List.contains_append];by_cases h1:y.2.2=x.2.2<;>simp[h1]
 rw[e,jI]
 exact⟨x,hx,by simp⟩
def MK(bx bm ck:Nat)(es:List Ea)(W:vW):Prop:=Ae W bx (.cells #[.map (some bm)] 140)/\Ae W bm (.map (Al.arr es) ck)
def yD(r bm ck:Nat)(es:List Ea)(C:List Ea->vW->Prop)(wr:vW):Prop:=∃ s,C s wr/\Ae wr r (.mapIter (some bm) ck (Vd s) ck)
theorem Y6(bx bm ck:Nat)(es:List Ea)(hnd:(es.map (·.2.2)).Nodup)(hlt:∀ x∈es,x.2.2<ck):tR prog 119 #[bx] ([]:List Ea) (tS es) (IM es) (MK bx bm ck es):=by
 intro l C W hC hS hY h0
 obtain⟨X,A⟩:=hS _ _ h0
 have c1:=X.cell (i:=0) (v:=.map (some bm)) vF;have Z:=UL Al Ey A;have H:=J (show C [] (W.alloc (.mapIter (some bm) ck #[] ck))from hC [] _ _ h0 (((Aa W).alloc _).mono kZ));have HC:=J hC;have HS:=J hS;have HY:=J hY;have K:=J hnd;have O:=J hlt;clear hC hS hY h0 X A hnd hlt;refine callsIn_of_wp func119 rfl trivial ?_ rfl;simp only[ntmps119,cQ,bQ,cZ,Nat.reduceAdd,Nat.reduceSub,cV,cU,dC,cY,cL,cS];gi_wp2_with fail
 obtain⟨r,hr⟩:=vE W.heap.size
 have HR:=J hr;rw[<-hr];clear hr;gi_loopw [] (λwr=>yD r bm ck es C wr) (λwr=>(Fq es (XP wr r)).length)
 case atStart=>exact⟨[],H.o,by rw[HR.o];exact Ae.new W _⟩
 case round =>obtain⟨s,q,hB⟩:=hrel;obtain⟨X,A⟩:=HS.o _ _ q;rcases UQ Al A hB O.o 0 with⟨hl0,hnx⟩|⟨x,hxl,w2,hnx,hr2,hk2⟩;{have b0:Hid (IM es s):=hl0;(have b1:=J q;clear hl0 q X A hB HC HS HY K O H c1 Z;gi_wp2_with fail);refine bodyPost_end (results_none rfl _ _ _) rfl ?_;exact⟨⟨_,rfl⟩,s,b0.o,b1.o⟩};(have a1:r≠bm:=λe=>by have:=A.uniq (e ▸ hB);cases this);have a2:=A.Z hk2 (λe=>a1 e.symm);have a3:x∈es:=(cE.1 hxl).1;have b2:=UK Al a2 a3 hr2 K.o;have a4:C s w2:=HC.o s _ _ q (hk2.mono λb _ e=>by rw[<-HR.o];exact e);obtain⟨fn,tm,b3,bd,a5,a7⟩:=HY.o s #[MG x.1] (s++[x]) w2 ⟨x,hxl,rfl,rfl⟩ a4 (by rw[<-HR.o];exact hr2.lt);(have a0:(Instr.yield l #[Al.κ x.1]).run prog w2=.ok (.round l fn tm b3 bd) w2:=a5;have b4:=J hxl;have b5:=J (aJ hB);have a8:(Vd s).push x.2.2=Vd (s++[x]):=by unfold Vd;simp);(rw[a8]at hr2;have b6:=J hr2;have b7:=J a7;clear a5 a4 q X A hB HC HS K O H c1 Z a2 hk2 hxl a3 hr2 a7 a8 a1;gi_wp2_with fail);refine⟨rfl,b7.o.mono ?_⟩;(rintro e w5 ⟨rfl,k5,C5⟩;have a9:=J (b6.o.Z k5 λh=>h HR.o);have b8:=J C5;clear C5 k5 hnx b2 a0;gi_wp2_with fail);go_roundw;(case rel=>exact⟨_,b8.o,a9.o⟩);case measure =>rw[aJ a9.o,b5.o];exact T7 b4.o
end
