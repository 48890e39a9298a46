/- Lemmas; each is under no condition but those that it states. -/
import Derived.Test.YtdofbjccfkaijaaGreatDoorPn12
import Derived.Laws.Cover1
namespace Go.Proofs.YtdofbjccfkaijaaGreatDoor
set_option linter.unusedSimpArgs false
set_option linter.unusedVariables false
set_option maxRecDepth 100000
set_option maxHeartbeats 16000000
open Go Go.RowKit
abbrev Pair:=vB × vB
abbrev vL:=List Pair
def jcj(k:vB):Bool:=decide (0 < k.size/\k.size<=6)
def jbS(k:vB):Bool:=decide (0 < k.size/\k.size<=80)
theorem jbq{s:vB}(h:s.size=0):s=⟨#[]⟩:=by
 obtain⟨⟨l⟩⟩:=s
 cases l with
 | nil=>rfl
 | cons x y=>exact absurd h (iH _)
theorem jhq(w:vW)(k:vB)(hs:k.size<=9223372036854775807):vQ 21 #[.string k] w fun e w'=>e=.returned (.bool (jcj k))/\w'=w:=by
 by_cases h0:k.size=0
 ·have:=jbq h0
  subst this;unfold vQ;go_in;go_wp2_with fail
  go_ret
  exact⟨rfl,rfl⟩
 ·have z:=jbe (s:=k) vO
  by_cases h6:k.size<=6
  ·have c:(k.size:Int)<=6:=vO
   have e:jcj k=true:=by unfold jcj;simp;omega
   have E:=Hd e;clear e;unfold vQ;go_in;go_wp2_with fail
   go_ret
   exact⟨by rw[E.o];rfl,rfl⟩
  ·have c:¬(k.size:Int)<=6:=vO
   have e:jcj k=false:=by unfold jcj;simp;omega
   have E:=Hd e;clear e;unfold vQ;go_in;go_wp2_with fail
   go_ret
   exact⟨by rw[E.o];rfl,rfl⟩
theorem jg0(w:vW)(k:vB)(hs:k.size<=9223372036854775807):vQ 22 #[.string k] w fun e w'=>e=.returned (.bool (jbS k))/\w'=w:=by
 by_cases h0:k.size=0
 ·have:=jbq h0
  subst this;unfold vQ;go_in;go_wp2_with fail
  go_ret
  exact⟨rfl,rfl⟩
 ·have z:=jbe (s:=k) vO
  by_cases h6:k.size<=80
  ·have c:(k.size:Int)<=80:=vO
   have e:jbS k=true:=by unfold jbS;simp;omega
   have E:=Hd e;clear e;unfold vQ;go_in;go_wp2_with fail
   go_ret
   exact⟨by rw[E.o];rfl,rfl⟩
  ·have c:¬(k.size:Int)<=80:=vO
   have e:jbS k=false:=by unfold jbS;simp;omega
   have E:=Hd e;clear e;unfold vQ;go_in;go_wp2_with fail
   go_ret
   exact⟨by rw[E.o];rfl,rfl⟩
def RdP(w:vW)(v:vV)(xs:vL):Prop:=
 (∃ a c,v=.slice a 0 c/\xs=[])\/∃ b o c,v=.slice (some ⟨b,o,none⟩) xs.length c/\b < w.heap.size/\xs.length<=c/\∀ (j:Nat) x,xs[j]?=some x->w.cell? ⟨b,o+j * 2,none⟩=some (.string x.1)/\w.cell? ⟨b,o+j * 2+1,none⟩=some (.string x.2)
theorem RdP.ext{w w':vW}{v:vV}{xs:vL}(h:RdP w v xs)(k:Ext w w'):RdP w' v xs:=by
 rcases h with h |⟨b,o,c,h1,h2,h3,h4⟩
 ·exact .inl h
 ·exact .inr ⟨b,o,c,h1,bQ h2 k.size,h3,fun j x e=>⟨jaa (h4 j x e).1 k,jaa (h4 j x e).2 k⟩⟩
theorem RdP.sl{w:vW}{v:vV}{xs:vL}(h:RdP w v xs):∃ a c,v=.slice a xs.length c:=by
 rcases h with⟨a,c,h1,h2⟩ |⟨b,o,c,h1,_⟩
 ·exact⟨a,c,by rw[h1,h2];rfl⟩
 ·exact⟨_,c,h1⟩
def Pair.V(p:Pair):vV:=.agg #[.string p.1,.string p.2]
def badN(l:vL)(i:Nat):Bool := !jcj (l.getD i (⟨#[]⟩,⟨#[]⟩)).1 || !jbS (l.getD i (⟨#[]⟩,⟨#[]⟩)).2 ||(decide (0 < i) && !jbh (l.getD (i - 1) (⟨#[]⟩,⟨#[]⟩)).1 (l.getD i (⟨#[]⟩,⟨#[]⟩)).1)
def jaw(l:vL):Int:=if (List.range l.length).any (badN l)then 1 else if 40 < l.length then 12 else 0
def jy3(w:vW)(l:vL)(i:vV)(wr:vW):Prop:=∃ k:Nat,k<=l.length/\i=.int .i64 k/\Ext w wr/\(List.range k).any (badN l)=false
theorem jhc(w:vW)(v:vV)(l:vL)(hv:RdP w v l)(hn:l.length<=9223372036854775807)(hs:∀ p∈l,p.1.size<=9223372036854775807/\p.2.size<=9223372036854775807):vR 20 #[v] w (.int .i64 (jaw l)):=by
 obtain⟨a,c,b3⟩:=hv.sl
 have HV:=Hd hv;have HS:=Hd hs;subst b3;clear hv hs;unfold vR vQ;go_in;go_wp2_with fail
 go_loopw [7] (fun i wr=>jy3 w l i wr) (fun i _=>l.length - (intOf i).toNat)
 case atStart=>exact⟨0,by omega,rfl,ExtR w,rfl⟩
 case round =>
  obtain⟨k,hk,rfl,hE,a7⟩:=hrel
  have HE:=Hd hE;have a2:=Hd a7;clear hE a7
  by_cases hlt:k < l.length
  ·rcases HV.o with⟨_,_,_,h0⟩ |⟨b,o,c',hh,hb,hc,hcell⟩
   ·rw[h0]at hlt;cases hlt
   cases hh
   obtain⟨p,hp⟩:∃ p,l[k]?=some p:=⟨_,bA hlt⟩
   obtain⟨q1,q2⟩:=hcell k p hp
   have q1:=jaa q1 HE.o;have q2:=jaa q2 HE.o;have b1:(k:Int) < (l.length:Int):=vO
   obtain⟨x,y⟩:=p
   simp only at q1 q2;have O:l.getD k (⟨#[]⟩,⟨#[]⟩)=(x,y):=by rw[bG,hp];rfl
   have a1:=HS.o (x,y) (bI hp);have a6:=Hd a1.1;have a8:=Hd a1.2;have a3:(wr.alloc (.cells #[.string x,.string y] 47)).cell? ⟨wr.heap.size,0,none⟩=some (.string x):=(Blk.new wr _).cell vF;have a4:(wr.alloc (.cells #[.string x,.string y] 47)).cell? ⟨wr.heap.size,1,none⟩=some (.string y):=(Blk.new wr _).cell vF;have Q0:=Hd a3;have Q1:=Hd a4;have H:badN l k=true->jaw l=1:=fun h=>by
    unfold jaw;rw[if_pos (fO.2 ⟨k,dW.2 hlt,h⟩)]
   have J:badN l k=false->(List.range (k+1)).any (badN l)=false:=fun h=>by
    rw[fS,List.any_append,a2.o];simp[h]
   cases hk1:jcj x with
   | false =>
    have Z:=Hd (H (by unfold badN;rw[O,hk1];rfl));have HK:=Hd hk1;clear hk1 O a1 a3 a4 H J hcell hp;go_wp2_with fail
    refine jag (List.range 25) Ext ExtR ExtT vY vY vY ?_;simp only[List.range,List.range.loop]
    refine vK ?_
    refine qKL ⟨wr.heap.size,0,none⟩ _ rfl (fun Q A=>jab Tryz.uStr rfl (jaa (by exact Q0.o) A)) ?_;refine vS ?_;refine qKC _ 21 #[.string x] (.bool false) rfl (fun w1=>jaq (vX 21) vY) (fun w1 K=>(jhq w1 x (by have:=a6.o;omega)).mono (fun e Q ⟨K,A⟩=>⟨by rw[K,HK.o],A ▸ ExtR w1⟩)) ?_;refine vS ?_;iterate 2 refine vK ?_
    iterate 4 (refine qKS _ rfl ?_;refine vS ?_)
    iterate 2 refine vK ?_
    iterate 3 (refine qKS _ rfl ?_;refine vS ?_)
    iterate 9 (refine qKS _ rfl ?_;refine vS ?_)
    (refine qKS _ rfl ?_;refine vS ?_)
    refine vK ?_
    refine qKE (fun w3 he=>?_);have X:=Hd (((HE.o.alloc _).trans (jah _)).trans he);clear he;go_wp2_with fail
    go_ret
    exact⟨by rw[Z.o];rfl,X.o⟩
   | true =>
    cases hv1:jbS y with
    | false =>
     have Z:=Hd (H (by unfold badN;rw[O,hk1,hv1];rfl));have HK:=Hd hk1;have a5:=Hd hv1;clear hk1 hv1 O a1 a3 a4 H J hcell hp;go_wp2_with fail
     refine jag (List.range 25) Ext ExtR ExtT vY vY vY ?_;simp only[List.range,List.range.loop]
     refine vK ?_
     refine qKL ⟨wr.heap.size,0,none⟩ _ rfl (fun Q A=>jab Tryz.uStr rfl (jaa (by exact Q0.o) A)) ?_;refine vS ?_;refine qKC _ 21 #[.string x] (.bool true) rfl (fun w1=>jaq (vX 21) vY) (fun w1 K=>(jhq w1 x (by have:=a6.o;omega)).mono (fun e Q ⟨K,A⟩=>⟨by rw[K,HK.o],A ▸ ExtR w1⟩)) ?_;refine vS ?_;iterate 3 refine vK ?_
     refine qKL ⟨wr.heap.size,1,none⟩ _ rfl (fun Q A=>jab Tryz.uStr rfl (jaa (by exact Q1.o) A)) ?_;refine vS ?_;refine qKC _ 22 #[.string y] (.bool false) rfl (fun w1=>jaq (vX 22) vY) (fun w1 K=>(jg0 w1 y (by have:=a8.o;omega)).mono (fun e Q ⟨K,A⟩=>⟨by rw[K,a5.o],A ▸ ExtR w1⟩)) ?_;refine vS ?_;iterate 3 refine vK ?_
     iterate 3 (refine qKS _ rfl ?_;refine vS ?_)
     iterate 9 (refine qKS _ rfl ?_;refine vS ?_)
     (refine qKS _ rfl ?_;refine vS ?_)
     refine vK ?_
     refine qKE (fun w3 he=>?_);have X:=Hd (((HE.o.alloc _).trans (jah _)).trans he);clear he;go_wp2_with fail
     go_ret
     exact⟨by rw[Z.o];rfl,X.o⟩
    | true =>
     by_cases hk0:k=0
     ·have a0:=Hd (J (by unfold badN;rw[O,hk1,hv1,hk0];rfl))
      subst hk0;rw[gE,fR]at q1 q2;have HK:=Hd hk1;have a5:=Hd hv1;clear hk1 hv1 O a1 a3 a4 H J hcell hp;go_wp2_with fail
      refine jag (List.range 25) Ext ExtR ExtT vY vY vY ?_;simp only[List.range,List.range.loop]
      refine vK ?_
      refine qKL ⟨wr.heap.size,0,none⟩ _ rfl (fun Q A=>jab Tryz.uStr rfl (jaa (by exact Q0.o) A)) ?_;refine vS ?_;refine qKC _ 21 #[.string x] (.bool true) rfl (fun w1=>jaq (vX 21) vY) (fun w1 K=>(jhq w1 x (by have:=a6.o;omega)).mono (fun e Q ⟨K,A⟩=>⟨by rw[K,HK.o],A ▸ ExtR w1⟩)) ?_;refine vS ?_;iterate 3 refine vK ?_
      refine qKL ⟨wr.heap.size,1,none⟩ _ rfl (fun Q A=>jab Tryz.uStr rfl (jaa (by exact Q1.o) A)) ?_;refine vS ?_;refine qKC _ 22 #[.string y] (.bool true) rfl (fun w1=>jaq (vX 22) vY) (fun w1 K=>(jg0 w1 y (by have:=a8.o;omega)).mono (fun e Q ⟨K,A⟩=>⟨by rw[K,a5.o],A ▸ ExtR w1⟩)) ?_;refine vS ?_;iterate 6 refine vK ?_
      iterate 9 (refine qKS _ rfl ?_;refine vS ?_)
      iterate 2 refine vK ?_
      refine qKE (fun w3 he=>?_);have X:=Hd (((HE.o.alloc _).trans (jah _)).trans he);clear he;go_wp2_with fail
      go_roundw
      case rel=>exact⟨0+1,by omega,by go_num,X.o,a0.o⟩
      case measure=>exact vJ
     ·obtain⟨pp,a9⟩:∃ p,l[k - 1]?=some p:=⟨_,bA vO⟩
      obtain⟨z,zy⟩:=pp
      have b2:=jaa (jaa (hcell (k - 1) (z,zy) a9).1 HE.o) ((ExtR wr).alloc (.cells #[.string x,.string y] 47));have QP:=Hd b2;have b0:l.getD (k - 1) (⟨#[]⟩,⟨#[]⟩)=(z,zy):=by rw[bG,a9];rfl
      have c0:(0:Int) < (k:Int):=vO
      have d0:0 < k:=vO
      have c1:(0:Int)<=(k:Int) - 1:=vO
      have c2:(k:Int) - 1 < (l.length:Int):=vO
      have c3:((k:Int) - 1).toNat=k - 1:=vO
      have HK:=Hd hk1;have a5:=Hd hv1;cases hls:Op.bytesLess z.toList x.toList with
      | false =>
       have Z:=Hd (H (by unfold badN jbh;rw[O,hk1,hv1,b0];simp only;rw[hls];simp;omega));clear hk1 hv1 O a1 a3 a4 H J hcell hp hk0 a9 b2 b0;go_wp2_with fail
       refine jag (List.range 25) Ext ExtR ExtT vY vY vY ?_;simp only[List.range,List.range.loop]
       refine vK ?_
       refine qKL ⟨wr.heap.size,0,none⟩ _ rfl (fun Q A=>jab Tryz.uStr rfl (jaa (by exact Q0.o) A)) ?_;refine vS ?_;refine qKC _ 21 #[.string x] (.bool true) rfl (fun w1=>jaq (vX 21) vY) (fun w1 K=>(jhq w1 x (by have:=a6.o;omega)).mono (fun e Q ⟨K,A⟩=>⟨by rw[K,HK.o],A ▸ ExtR w1⟩)) ?_;refine vS ?_;iterate 3 refine vK ?_
       refine qKL ⟨wr.heap.size,1,none⟩ _ rfl (fun Q A=>jab Tryz.uStr rfl (jaa (by exact Q1.o) A)) ?_;refine vS ?_;refine qKC _ 22 #[.string y] (.bool true) rfl (fun w1=>jaq (vX 22) vY) (fun w1 K=>(jg0 w1 y (by have:=a8.o;omega)).mono (fun e Q ⟨K,A⟩=>⟨by rw[K,a5.o],A ▸ ExtR w1⟩)) ?_;refine vS ?_;iterate 11 refine vK ?_
       refine qKL ⟨b,o+(k - 1) * 2,none⟩ _ rfl (fun Q A=>jab Tryz.uStr rfl (jaa (by exact QP.o) A)) ?_;refine vS ?_
       refine vK ?_
       refine qKL ⟨wr.heap.size,0,none⟩ _ rfl (fun Q A=>jab Tryz.uStr rfl (jaa (by exact Q0.o) A)) ?_;refine vS ?_;iterate 3 refine vK ?_
       refine qKE (fun w3 he=>?_);have X:=Hd (((HE.o.alloc _).trans (jah _)).trans he);clear he;go_wp2_with fail
       go_ret
       exact⟨by rw[Z.o];rfl,X.o⟩
      | true =>
       have a0:=Hd (J (by unfold badN jbh;rw[O,hk1,hv1,b0];simp only;rw[hls];simp));clear hk1 hv1 O a1 a3 a4 H J hcell hp hk0 a9 b2 b0;go_wp2_with fail
       refine jag (List.range 25) Ext ExtR ExtT vY vY vY ?_;simp only[List.range,List.range.loop]
       refine vK ?_
       refine qKL ⟨wr.heap.size,0,none⟩ _ rfl (fun Q A=>jab Tryz.uStr rfl (jaa (by exact Q0.o) A)) ?_;refine vS ?_;refine qKC _ 21 #[.string x] (.bool true) rfl (fun w1=>jaq (vX 21) vY) (fun w1 K=>(jhq w1 x (by have:=a6.o;omega)).mono (fun e Q ⟨K,A⟩=>⟨by rw[K,HK.o],A ▸ ExtR w1⟩)) ?_;refine vS ?_;iterate 3 refine vK ?_
       refine qKL ⟨wr.heap.size,1,none⟩ _ rfl (fun Q A=>jab Tryz.uStr rfl (jaa (by exact Q1.o) A)) ?_;refine vS ?_;refine qKC _ 22 #[.string y] (.bool true) rfl (fun w1=>jaq (vX 22) vY) (fun w1 K=>(jg0 w1 y (by have:=a8.o;omega)).mono (fun e Q ⟨K,A⟩=>⟨by rw[K,a5.o],A ▸ ExtR w1⟩)) ?_;refine vS ?_;iterate 11 refine vK ?_
       refine qKL ⟨b,o+(k - 1) * 2,none⟩ _ rfl (fun Q A=>jab Tryz.uStr rfl (jaa (by exact QP.o) A)) ?_;refine vS ?_
       refine vK ?_
       refine qKL ⟨wr.heap.size,0,none⟩ _ rfl (fun Q A=>jab Tryz.uStr rfl (jaa (by exact Q0.o) A)) ?_;refine vS ?_;iterate 3 refine vK ?_
       refine qKE (fun w3 he=>?_);have X:=Hd (((HE.o.alloc _).trans (jah _)).trans he);clear he;go_wp2_with fail
       go_roundw
       case rel=>exact⟨k+1,by omega,by go_num,X.o,a0.o⟩
       case measure=>exact vJ
  ·have b4:k=l.length:=vO
   subst b4
   by_cases h40:40 < l.length
   ·have c4:(40:Int) < (l.length:Int):=vO
    have e:jaw l=12:=by unfold jaw;rw[if_neg (by rw[a2.o];simp),if_pos h40]
    have E:=Hd e;clear e;go_wp2_with fail
    go_ret
    exact⟨by rw[E.o];rfl,HE.o⟩
   ·have c4:¬(40:Int) < (l.length:Int):=vO
    have e:jaw l=0:=by unfold jaw;rw[if_neg (by rw[a2.o];simp),if_neg h40]
    have E:=Hd e;clear e;go_wp2_with fail
    go_ret
    exact⟨by rw[E.o];rfl,HE.o⟩
section
section mixd
variable {P:Program} {l:List Oper} {E D:vW->vW->Prop}
def jcB(P:Program)(ops:Array Oper)(E D:vW->vW->Prop)(w:vW)(o:Oper)(v:vV)(a:Act):Prop:=
 (Region.wanted o (yielded ops a.tmps)=true/\∀ w1,D w w1->jn3 P E w1 v ((execOp a.eval o).run P w1))\/(Region.wanted o (yielded ops a.tmps)=false/\v=undef)
theorem jcB.of_same{ops:Array Oper}{w:vW}{o:Oper}{v:vV}{a a':Act}(hy:jcB P ops E D w o v a)(he:execOp a'.eval o=execOp a.eval o)
  (hw:Region.wanted o (yielded ops a'.tmps)=Region.wanted o (yielded ops a.tmps)):jcB P ops E D w o v a':=by
 unfold jcB at *;rw[he,hw];exact hy
theorem jcB.st(hT:∀ x y z,D x y->D y z->D x z){ops:Array Oper}{w w1:vW}{o:Oper}{v:vV}{a:Act}(hy:jcB P ops E D w o v a)(h:D w w1):jcB P ops E D w1 o v a:=
 hy.imp (fun ⟨e,A⟩=>⟨e,fun H J=>A H (hT _ _ _ h J)⟩) id
theorem jcB.wpOp{ops:Array Oper}{i:Nat}{o:Oper}{v:vV}{a:Act}{w:vW}(hi:ops[i]?=some o)(hy:jcB P ops E D w o v a){K:Act->vW->Prop}{w1:vW}(H:D w w1)(hE:∀ w,E w w)
  (h:∀ w',E w1 w'->K (a.put o.dst v) w'):wpOp P ops NoQ i K a w1:=by
 unfold Go.wpOp;simp only[hi];rcases hy with⟨hw,hv⟩ |⟨hw,rfl⟩
 ·simp only[hw,if_true]
  refine .inl ?_;have z:=hv w1 H;unfold Oper.wp;generalize (execOp a.eval o).run P w1=r at *;cases r with
  | ok n w' =>
   cases n <;> simp only[jn3]at z <;> simp only[Oper.upon]
   case value u=>obtain⟨A,J⟩:=z;rw[A,J];exact h _ (hE w1)
   case skip=>obtain⟨A,J⟩:=z;rw[A, <-J];exact h _ (hE w1)
   case enter f args =>
    obtain⟨A,O⟩:=z;rw[A]
    exact O.mono fun e Q ⟨X,H⟩=>by subst X;exact h _ H
  | halt x w'=>simp only[jn3]at z
 ·simp only[hw,cI,if_false];exact h _ (hE w1)
def anyD(P:Program)(ops:Array Oper)(hd:List Nat)(E D:vW->vW->Prop)(Q:Act->vW->Prop):Nat->Array Bool->Act->vW->Prop
 | 0,listed,a,w=>∀ w1,E w w1->Region.ready .any ops listed=[]/\Q a w1
 | fuel+1,listed,a,w=>∀ w1,E w w1 ->
  (Region.ready .any ops listed=[]->Q a w1) /\
  ∀ i∈Region.ready .any ops listed,wpOp P ops NoQ i (fun a' w'=>D w1 w'/\(i ∉ hd->E w1 w')/\anyD P ops hd E D Q fuel (listed.setIfInBounds i true) a' w') a w1
theorem jrv(hT:∀ x y z,E x y->E y z->E x z){ops:Array Oper}{hd:List Nat}{Q:Act->vW->Prop}:∀ (fuel:Nat) (listed:Array Bool) (a:Act) (w w1:vW),anyD P ops hd E D Q fuel listed a w->E w w1->anyD P ops hd E D Q fuel listed a w1
 | 0,_,_,_,_,h,he=>fun e o=>h e (hT _ _ _ he o)
 | _+1,_,_,_,_,h,he=>fun e o=>h e (hT _ _ _ he o)
theorem jjt(hE:∀ w,E w w){ops:Array Oper}{hd:List Nat}{Q:Act->vW->Prop}{Q':Exit->Act->vW->Prop}(hQ:∀ a w,Q a w->Q' .normal a w) :
  ∀ (fuel:Nat) (listed:Array Bool) (a:Act) (w:vW),anyD P ops hd E D Q fuel listed a w->wpAny P .any ops Q' fuel listed a w
 | 0,_,_,w,h=>let ⟨h1,h2⟩:=h w (hE w);⟨h1,hQ _ _ h2⟩
 | fuel+1,_,_,w,h=>let ⟨h1,h2⟩:=h w (hE w)
  ⟨fun e=>hQ _ _ (h1 e),fun i o=>jic (fun z w' ⟨_,_,A⟩=>jjt hE hQ fuel _ z w' A) (h2 i o)⟩
theorem jqa(hE:∀ w,E w w)(hT:∀ x y z,E x y->E y z->E x z)(hD:∀ x y z,D x y->D y z->D x z)(hED:∀ x y,E x y->D x y){ops:Array Oper}{hd:List Nat}{Q:Act->vW->Prop}{i:Nat}{oi:Oper}{v:vV}(hi:ops[i]?=some oi)(hsel:∀ (j:Nat) (o:Oper) cs b,ops[j]?=some o->o.op≠.select cs b) :
  ∀ (J:Nat) (A:Array Bool) (a:Act) (w:vW),
   (∀ j oj,ops[j]?=some oj->j≠i->A.getD j true=false->(∀ e∈oj.after,Region.binds .any e=true->e.on≠i)->oi.apart ops oj=true) ->
   i∈Region.ready .any ops A->jcB P ops E D w oi v a ->
   anyD P ops hd E D Q J (A.setIfInBounds i true) (a.put oi.dst v) w->anyD P ops hd E D Q (J+1) A a w:=by
 intro J;induction J with
 | zero =>
  intro A a w _ hr hy H w1 X
  refine⟨fun h=>(by rw[h]at hr;cases hr),fun j hj=>?_⟩
  by_cases hji:j=i
  ·subst hji;exact hy.wpOp hi (hED _ _ X) hE (fun w' K=>⟨hED _ _ K,fun _=>K,jrv hT _ _ _ _ _ H (hT _ _ _ X K)⟩)
  ·have:=ready_mono hj hji
   rw[(H w1 X).1]at this;cases this
 | succ J ih =>
  intro A a w O hr hy H w1 X
  refine⟨fun h=>(by rw[h]at hr;cases hr),fun j hj=>?_⟩
  by_cases hji:j=i
  ·subst hji;exact hy.wpOp hi (hED _ _ X) hE (fun w' K=>⟨hED _ _ K,fun _=>K,jrv hT _ _ _ _ _ H (hT _ _ _ X K)⟩)
  ·have K:=(H w1 X).2 j (ready_mono hj hji)
   obtain⟨a0,oj,a3,a4⟩:=mem_ready.1 hj
   have a5:∀ e∈oj.after,Region.binds .any e=true->e.on≠i:=fun e X hb a7=>by
    have K:=a4 e X hb;have h0:=(mem_ready.1 hr).1;rw[a7]at K;rcases fQ i A.size with h' | h'
    ·simp[h']at h0 K;rw[h0]at K;cases K
    ·simp[gN h']at K
   have h2:=jfu (v:=v) (Y:=fun a'=>execOp a'.eval oi=execOp a.eval oi/\Region.wanted oi (yielded ops a'.tmps)=Region.wanted oi (yielded ops a.tmps)) a3 (O j oj a3 hji a0 a5) (fun cs b=>hsel i oi cs b hi) (fun cs b=>hsel j oj cs b a3)
    (fun a1 a2 h e1 e2=>⟨e1.trans h.1,e2.trans h.2⟩) ⟨rfl,rfl⟩ K
   have Z:∀ k ok,ops[k]?=some ok->k≠i->(A.setIfInBounds j true).getD k true=false ->
     (∀ e∈ok.after,Region.binds .any e=true->e.on≠i)->oi.apart ops ok=true:=fun k ok hk a8 a6 a9=>by
    refine O k ok hk a8 ?_ a9
    by_cases hjk:j=k
    ·subst hjk;exact a0
    ·rw[getD_set_ne true hjk]at a6;exact a6
   refine wpOp_mono (fun a' w' h3=>⟨h3.2.1,h3.2.2.1,?_⟩) h2
   obtain⟨⟨e1,e2⟩,h4,_,h5⟩:=h3
   have b0:jcB P ops E D w' oi v a':=(hy.of_same e1 e2).st hD (hD _ _ _ (hED _ _ X) h4);refine ih (A.setIfInBounds j true) a' w' Z (ready_mono hr (Ne.symm hji)) b0 ?_;rw[gV _ _ hji];exact h5
def MixD(P:Program)(l:List Oper)(hd:List Nat)(E D:vW->vW->Prop)(Q:Act->vW->Prop):List Nat->List Nat->Act->vW->Prop
 | [],done,a,w=>∀ w1,E w w1->Region.ready .any l.toArray (jbj l done)=[]/\Q a w1
 | k :: ord,done,a,w =>
  (k∈Region.ready .any l.toArray (jbj l done)/\Region.free .any l.toArray (jbj l done) k=true/\∃ o v,l[k]?=some o/\jcB P l.toArray E D w o v a/\MixD P l hd E D Q ord (k :: done) (a.put o.dst v) w) \/
  (Region.ready .any l.toArray (jbj l done)=[k]/\k∈hd/\∀ w1,E w w1->wpOp P l.toArray NoQ k (fun a' w'=>D w1 w'/\MixD P l hd E D Q ord (k :: done) a' w') a w1)
theorem jf2(hE:∀ w,E w w)(hT:∀ x y z,E x y->E y z->E x z)(hD:∀ x y z,D x y->D y z->D x z)(hED:∀ x y,E x y->D x y)(hs:Region.noSelect l.toArray=true){hd:List Nat}{Q:Act->vW->Prop}:∀ (ord:List Nat) (done:List Nat) (a:Act) (w:vW),
  MixD P l hd E D Q ord done a w->anyD P l.toArray hd E D Q ord.length (jbj l done) a w
 | [],_,_,_,h=>h
 | k :: ord,done,a,w,h=>by
  rcases h with⟨hr,hf,o,v,ho,hy,h⟩ |⟨hr,hk,h⟩
  ·have e:l.toArray[k]?=some o:=by simpa using ho
   exact jqa hE hT hD hED e (iI hs) ord.length (jbj l done) a w (iU e hf) hr hy (jf2 hE hT hD hED hs ord _ _ _ h)
  ·intro w1 K
   refine⟨fun A=>(by rw[hr]at A;cases A),fun i H=>?_⟩
   rw[hr]at H;obtain rfl:i=k:=by simpa using H
   exact wpOp_mono (fun X w' J=>⟨J.1,fun O=>absurd hk O,jf2 hE hT hD hED hs ord _ _ _ J.2⟩) (h w1 K)
theorem jaC(ord hd:List Nat)(E D:vW->vW->Prop)(hE:∀ w,E w w)(hT:∀ x y z,E x y->E y z->E x z)(hD:∀ x y z,D x y->D y z->D x z)(hED:∀ x y,E x y->D x y){id:Nat}{Q:Exit->Act->vW->Prop}{a:Act}{w:vW}
  (hm:P.follows .mixedOrders=true) (hs:Region.noSelect l.toArray=true) (hl:ord.length=l.toArray.size)
  (h:MixD P l hd E D (fun a w=>Q .normal a w) ord [] a w.drew):(Code.region id l.toArray true).wp P Q a w:=by
 refine wp_region_any hm ?_;rw[<-hl]
 have:=jf2 hE hT hD hED hs ord _ _ _ h
 unfold jbj at this;rw[hl]at this ⊢;exact jjt hE (fun _ _ h=>h) _ _ _ _ this
variable {Q:Act->vW->Prop} {ord done hd:List Nat} {a:Act} {w:vW} {k:Nat} {o:Oper}
def headD(l:List Oper)(done:List Nat)(k:Nat):Bool:=(Region.ready .any l.toArray (jbj l done)).contains k && Region.free .any l.toArray (jbj l done) k
def jrt(l:List Oper)(hd done:List Nat)(k:Nat):Bool:=Region.ready .any l.toArray (jbj l done) == [k] && hd.contains k
theorem jsY(o:Oper)(ho:l[k]?=some o)(hk:headD l done k=true)(hw:Region.wanted o (yielded l.toArray a.tmps)=true)(hq:jjS o.op=true)
  (h:∀ K:Act->Prop,(∀ a',MixD P l hd E D Q ord (k :: done) a' w->K a')->o.quiet P a (fun _=>True) K):MixD P l hd E D Q (k :: ord) done a w:=by
 simp only[headD,cU,dC]at hk
 obtain⟨v,A,H⟩:=h _ (fun _ h=>h)
 have z:jcB P l.toArray E D w o v a:=by
  refine .inl ⟨hw,fun w1 _=>?_⟩;have e:=A w1 trivial;unfold Oper.quietAt at e;have J:=fun f args w'=>jk2 (ρ:=a.eval) hq P w1 w' f args;generalize (execOp a.eval o).run P w1=r at *;cases r with
  | ok n w'=>cases n <;> simp only[Oper.quietUpon]at e <;> first | exact e | exact absurd rfl (J _ _ _)
  | halt x w'=>simp only[Oper.quietUpon]at e
 exact .inl ⟨hk.1,hk.2,o,v,ho,z,H⟩
theorem jpk(o:Oper)(v:vV)(ho:l[k]?=some o)(hk:headD l done k=true)(hw:Region.wanted o (yielded l.toArray a.tmps)=true)
  (hv:∀ w1,D w w1->(execOp a.eval o).run P w1=.ok (.value v) w1) (h:MixD P l hd E D Q ord (k :: done) (a.put o.dst v) w):MixD P l hd E D Q (k :: ord) done a w:=by
 simp only[headD,cU,dC]at hk;exact .inl ⟨hk.1,hk.2,o,v,ho,.inl ⟨hw,fun w1 e=>by rw[hv w1 e];exact⟨rfl,rfl⟩⟩,h⟩
theorem qDV(o:Oper)(v:vV)(ho:l[k]?=some o)(hv:∀ w1,D w w1->(execOp a.eval o).run P w1=.ok (.value v) w1)(h:MixD P l hd E D Q ord (k :: done) (a.put o.dst v) w)(hk:headD l done k=true:=by kernel_rfl)(hw:Region.wanted o (yielded l.toArray a.tmps)=true:=by rfl):MixD P l hd E D Q (k :: ord) done a w:=jpk o v ho hk hw hv h
theorem jsX(p:Addr)(v:vV){t:TypeId}{x:Operand}{d:Option Tmp}{ty:TypeId}{pos:String}{af:Array Edge}{g:Option (Nat × Bool)}(ho:l[k]?=some ⟨d,.load t x,ty,pos,af,g⟩)(hk:headD l done k=true)
  (hw:Region.wanted ⟨d,.load t x,ty,pos,af,g⟩ (yielded l.toArray a.tmps)=true) (hx:a.eval x=.pointer (some p))
  (hv:∀ w1,D w w1->(Instr.loadAt t (.pointer (some p))).run P w1=.ok v w1) (h:MixD P l hd E D Q ord (k :: done) (a.put d v) w):MixD P l hd E D Q (k :: ord) done a w:=by
 refine jpk _ v ho hk hw (fun w1 e=>?_) h
 have:=hv w1 e
 simp only[execOp,hx,bX,this,Result.andThen,cO]
theorem qDL{t:TypeId}{x:Operand}{d:Option Tmp}{ty:TypeId}{pos:String}{af:Array Edge}{g:Option (Nat × Bool)}(p:Addr)(v:vV)(ho:l[k]?=some ⟨d,.load t x,ty,pos,af,g⟩)(hv:∀ w1,D w w1->(Instr.loadAt t (.pointer (some p))).run P w1=.ok v w1)(h:MixD P l hd E D Q ord (k :: done) (a.put d v) w)(hk:headD l done k=true:=by kernel_rfl)(hw:Region.wanted ⟨d,.load t x,ty,pos,af,g⟩ (yielded l.toArray a.tmps)=true:=by rfl)(hx:a.eval x=.pointer (some p):=by rfl):MixD P l hd E D Q (k :: ord) done a w:=jsX p v ho hk hw hx hv h
theorem jiP(o:Oper)(f:FuncId)(args:Array vV)(v:vV)(ho:l[k]?=some o)(hk:headD l done k=true)(hw:Region.wanted o (yielded l.toArray a.tmps)=true)
  (hv:∀ w1,(execOp a.eval o).run P w1=.ok (.enter f args) w1) (hc:∀ w1,D w w1->Calls P f args w1 (fun e A=>e=.returned v/\E w1 A))
  (h:MixD P l hd E D Q ord (k :: done) (a.put o.dst v) w):MixD P l hd E D Q (k :: ord) done a w:=by
 simp only[headD,cU,dC]at hk;exact .inl ⟨hk.1,hk.2,o,v,ho,.inl ⟨hw,fun w1 z=>by rw[hv w1];exact⟨rfl,hc w1 z⟩⟩,h⟩
theorem jsW(o:Oper)(ho:l[k]?=some o)(hk:jrt l hd done k=true)(hw:Region.wanted o (yielded l.toArray a.tmps)=true)
  (h:∀ w1,E w w1->∀ K:Act->vW->Prop,(∀ a' w',D w1 w'->MixD P l hd E D Q ord (k :: done) a' w'->K a' w')->o.wp P a w1 K NoQ):MixD P l hd E D Q (k :: ord) done a w:=by
 simp only[jrt,cU,beq_iff_eq,dC]at hk;refine .inr ⟨hk.1,hk.2,fun w1 z=>?_⟩;unfold wpOp;have e:l.toArray[k]?=some o:=by simpa using ho
 simp only[e,hw,if_true];exact .inl (h w1 z _ (fun _ _ A H=>⟨A,H⟩))
theorem qDH(o:Oper)(ho:l[k]?=some o)(h:∀ w1,E w w1->∀ K:Act->vW->Prop,(∀ a' w',D w1 w'->MixD P l hd E D Q ord (k :: done) a' w'->K a' w')->o.wp P a w1 K NoQ)(hk:jrt l hd done k=true:=by kernel_rfl)(hw:Region.wanted o (yielded l.toArray a.tmps)=true:=by rfl):MixD P l hd E D Q (k :: ord) done a w:=jsW o ho hk hw h
theorem jvG(hk:(Region.ready .any l.toArray (jbj l done)).isEmpty=true)(h:∀ w1,E w w1->Q a w1):MixD P l hd E D Q [] done a w:=
 fun w1 e=>⟨by simpa using hk,h w1 e⟩
theorem qDE(h:∀ w1,E w w1->Q a w1)(hk:(Region.ready .any l.toArray (jbj l done)).isEmpty=true:=by kernel_rfl):MixD P l hd E D Q [] done a w:=jvG hk h
end mixd
end
def jb8(xs:vL):List vV:=xs.flatMap fun p=>[.string p.1,.string p.2]
theorem jdH(xs:vL):(jb8 xs).length=xs.length * 2:=by
 induction xs with
 | nil=>rfl
 | cons x r ih=>unfold jb8 at *;rw[cH,bC,ih];simp;omega
theorem jaV(xs ys:vL):jb8 (xs++ys)=jb8 xs++jb8 ys:=by simp[jb8]
theorem jdG:∀ (xs:vL) (j:Nat) (p:Pair),xs[j]?=some p->(jb8 xs)[j * 2]?=some (.string p.1)/\(jb8 xs)[j * 2+1]?=some (.string p.2)
 | [],j,p,h=>by simp at h
 | x :: r,0,p,h=>by simp at h;subst h;exact⟨rfl,rfl⟩
 | x :: r,j+1,p,h=>by
  have:=jdG r j p (by simpa using h)
  rw[show (j+1) * 2=j * 2+1+1 by omega];exact this
theorem Tryz.uRows:Tryz.prog.underlying 64=some (.slice 96):=vY
theorem Tryz.infoRow:(Tryz.prog.info? 96).map (fun i=>(i.zero,i.size,i.bytes))=some (some (.agg #[.string ⟨#[]⟩,.string ⟨#[]⟩]),2,32):=vY
theorem Tryz.sRows:jd0 Tryz.prog 64 96 2 32:=jd0.mk' Tryz.uRows Tryz.infoRow rfl vI
abbrev PRow(w0 w:vW)(v:vV)(n:Nat)(xs:vL):Prop:=ORow 96 2 w0 w v n (jb8 xs)
theorem PRow.rd{w0 w:vW}{v:vV}{n:Nat}{xs:vL}(h:PRow w0 w v n xs):RdP w v xs:=by
 have z:xs.length=n:=by have:=h.len;rw[jdH]at this;omega
 obtain⟨_,⟨rfl,O⟩ |⟨g,e,A,rfl,Q,E,H,X,Z⟩⟩:=h.own
 ·exact .inl ⟨none,0,rfl,bD vO⟩
 ·subst z
  refine .inr ⟨g,0,e,rfl,(dK.1 E).1,H,fun j x o=>?_⟩;have hj:=(bP.1 o).1
  obtain⟨J,K⟩:=jdG xs j x o
  exact⟨by rw[cG,h.own.cellAt (j * 2) vO,J],by rw[cG,h.own.cellAt (j * 2+1) vO,K]⟩
def jaR(l:vL):vL:=l.map fun p=>(jbu p.1,p.2)
def jxj(w:vW)(l:vL)(v i:vV)(wr:vW):Prop:=∃ k:Nat,k<=l.length/\i=.int .i64 k/\PRow w wr v k ((jaR l).take k)
theorem jyf{w:vW}{T:TypeId}{sz:Nat}{w0:vW}{v:vV}{n:Nat}{xs:List vV}(h:ORow T sz w0 w v n xs):¬ v.ownBlock=some w.heap.size:=fun e=>by have:=h.lt _ e;omega
theorem jw0(w:vW)(v:vV)(l:vL)(hv:RdP w v l)(hn:l.length<=1000000)(hs:∀ p∈l,p.1.size<=1000000):vQ 26 #[v] w fun e w'=>∃ u,e=.returned u/\PRow w w' u l.length (jaR l):=by
 obtain⟨a,c,a5⟩:=hv.sl
 have HV:=Hd hv;have HS:=Hd hs;subst a5;clear hv hs
 obtain⟨i0,hi,a6,a7,a8⟩:=info_parts Tryz.infoRow
 obtain⟨w1,b4,E,X⟩:=run_make_own (P:=Tryz.prog) (w:=w) w.heap.size 64 96 i0 _ 2 Tryz.uRows hi a6 a7 .i64 .i64 l.length (by rw[a8];omega) (by unfold maxLen;omega) (bL _)
 have HO:=Hd E;have HG:=Hd X;clear E X;unfold vQ;go_in;go_wp2_with fail
 go_loopw [3,11] (fun v i wr=>jxj w l v i wr) (fun _ i _=>l.length - (intOf i).toNat)
 case atStart=>exact⟨0,cE _,rfl,ORow.made w HO.o HG.o⟩
 case round =>
  obtain⟨k,hk,rfl,hR⟩:=hrel
  obtain⟨a2,c2,rfl⟩:=hR.sl
  have O:=Hd hR;clear hR
  by_cases hlt:k < l.length
  ·rcases HV.o with⟨_,_,_,h0⟩ |⟨b,o,c',hh,hb,hc,hcell⟩
   ·rw[h0]at hlt;cases hlt
   cases hh
   obtain⟨p,hp⟩:∃ p,l[k]?=some p:=⟨_,bA hlt⟩
   obtain⟨q1,q2⟩:=hcell k p hp
   have q1:=jaa q1 O.o.ext;have q2:=jaa q2 O.o.ext;have H:=HS.o p (bI hp)
   obtain⟨x,y⟩:=p
   simp only at q1 q2 H;have b1:(k:Int) < (l.length:Int):=vO
   have Z:(jaR l).take (k+1)=(jaR l).take k++[(jbu x,y)]:=by
    rw[bY];unfold jaR;rw[cA,hp];rfl
   have a9:=Hd Z;have b0:=Hd H;have Q0:=Hd (show (wr.alloc (.cells #[.string x,.string y] 47)).cell? ⟨wr.heap.size,0,none⟩=some (.string x)from(Blk.new wr _).cell vF);have Q1:=Hd (show (wr.alloc (.cells #[.string x,.string y] 47)).cell? ⟨wr.heap.size,1,none⟩=some (.string y)from(Blk.new wr _).cell vF);have NB:=Hd (jyf O.o);clear hcell hp H Z;go_wp2_with fail
   refine jaC [0,1,2,3,4,5,6,7,8,9] [7,8] Ext (jaf (fun b=>(Value.slice a2 k c2).ownBlock=some b)) ExtR ExtT (fun x y z h k=>jaf.trans h k) (fun x y h=>h.mono (fun _ _ h=>h.elim)) vY vY vY ?_;iterate 2 refine vD ?_
   refine qDL ⟨wr.heap.size,0,none⟩ _ rfl (fun Q h2=>jab Tryz.uStr rfl (jar (by exact Q0.o) h2 NB.o)) ?_;refine vS ?_;refine jiP _ 53 #[.string x] (.string (jbu x)) rfl vY rfl (fun w1=>jaq (vX 53) vY) (fun w1 h1=>jpw w1 x b0.o) ?_;refine vS ?_
   refine vD ?_
   refine qDL ⟨wr.heap.size,1,none⟩ _ rfl (fun Q h2=>jab Tryz.uStr rfl (jar (by exact Q1.o) h2 NB.o)) ?_;refine vS ?_
   refine vD ?_
   refine qDH _ rfl (fun Q A K hK=>?_);have a0:=Hd (O.o.mono ((((ExtR wr).alloc _).trans (jah _)).trans A));clear A O;go_simp;refine hK _ _ ((jaf.refl _ Q).alloc _) ?_;clear hK K;refine qDH _ rfl (fun w3 A K hK=>?_);have a1:=Hd (a0.o.mono (((ExtR Q).alloc _).trans A));have hB:∀ j u,([.string (jbu x),.string y]:List vV)[j]?=some u->w3.cell? ((⟨Q.heap.size,0,none⟩:Addr).add j)=some u:=fun j u hj=>jaa (jaI (Blk.new Q (.cells [Value.string (jbu x),.string y].toArray 96)) j u hj) A;refine jfv Tryz.sRows a1.o (.tmp 15) (.tmp 22) rfl rfl hB (by intro u hu;simp at hu;rcases hu with rfl | rfl <;> rfl) rfl rfl (by unfold maxLen;omega) vO (fun v' w4 r1 r2 r3=>hK _ _ r2 ?_);have a3:PRow w w4 v' (k+1) ((jaR l).take (k+1)):=by
    unfold PRow;rw[a9.o,jaV];exact r1
   have J:=Hd a3;clear hK K A r1 r2 r3 a3 hB a0 a1
   obtain⟨a4,c4,rfl⟩:=J.o.sl
   refine vS ?_
   refine vD ?_
   refine qDE (fun w5 A=>?_);have b2:=Hd (J.o.mono A);clear A J;go_wp2_with fail
   go_roundw
   case rel=>exact⟨k+1,by omega,by go_num,b2.o⟩
   case measure=>exact vJ
  ·have b3:k=l.length:=vO
   subst b3;go_wp2;go_ret;have h:=O.o;rw[bN (by simp[jaR])]at h
   exact⟨_,rfl,h⟩
def jak(d:Nat)(l:vL):vL:=l.map fun p=>(p.1.extract d p.1.size,p.2)
def jw6(w:vW)(d:Nat)(l:vL)(v i:vV)(wr:vW):Prop:=∃ k:Nat,k<=l.length/\i=.int .i64 k/\PRow w wr v k ((jak d l).take k)
theorem jm7(w:vW)(v:vV)(d:Nat)(l:vL)(hv:RdP w v l)(hn:l.length<=1000000)(hs:∀ p∈l,d<=p.1.size/\p.1.size<=1000000):vQ 49 #[v,.int .i64 d] w fun e w'=>∃ u,e=.returned u/\PRow w w' u l.length (jak d l):=by
 obtain⟨a,c,a5⟩:=hv.sl
 have HV:=Hd hv;have HS:=Hd hs;subst a5;clear hv hs
 obtain⟨i0,hi,a6,a7,a8⟩:=info_parts Tryz.infoRow
 obtain⟨w1,b4,E,Q⟩:=run_make_own (P:=Tryz.prog) (w:=w) w.heap.size 64 96 i0 _ 2 Tryz.uRows hi a6 a7 .i64 .i64 l.length (by rw[a8];omega) (by unfold maxLen;omega) (bL _)
 have HO:=Hd E;have HG:=Hd Q;clear E Q;unfold vQ;go_in;go_wp2_with fail
 go_loopw [5,13] (fun v i wr=>jw6 w d l v i wr) (fun _ i _=>l.length - (intOf i).toNat)
 case atStart=>exact⟨0,cE _,rfl,ORow.made w HO.o HG.o⟩
 case round =>
  obtain⟨k,hk,rfl,hR⟩:=hrel
  obtain⟨a2,c2,rfl⟩:=hR.sl
  have J:=Hd hR;clear hR
  by_cases hlt:k < l.length
  ·rcases HV.o with⟨_,_,_,h0⟩ |⟨b,o,c',hh,hb,hc,hcell⟩
   ·rw[h0]at hlt;cases hlt
   cases hh
   obtain⟨p,hp⟩:∃ p,l[k]?=some p:=⟨_,bA hlt⟩
   obtain⟨q1,q2⟩:=hcell k p hp
   have q1:=jaa q1 J.o.ext;have q2:=jaa q2 J.o.ext;have X:=HS.o p (bI hp)
   obtain⟨x,y⟩:=p
   simp only at q1 q2 X;have b1:(k:Int) < (l.length:Int):=vO
   have b2:(d:Int)<=(x.size:Int):=vO
   have Z:(jak d l).take (k+1)=(jak d l).take k++[(x.extract d x.size,y)]:=by
    rw[bY];unfold jak;rw[cA,hp];rfl
   have a9:=Hd Z;have Q0:=Hd (show (wr.alloc (.cells #[.string x,.string y] 96)).cell? ⟨wr.heap.size,0,none⟩=some (.string x)from(Blk.new wr _).cell vF);have Q1:=Hd (show (wr.alloc (.cells #[.string x,.string y] 96)).cell? ⟨wr.heap.size,1,none⟩=some (.string y)from(Blk.new wr _).cell vF);have NB:=Hd (jyf J.o);clear hcell hp X Z;go_wp2_with fail
   refine jaC [0,1,2,3,4,5,6,7,8,9,10] [8,9] Ext (jaf (fun b=>(Value.slice a2 k c2).ownBlock=some b)) ExtR ExtT (fun x y z h k=>jaf.trans h k) (fun x y h=>h.mono (fun _ _ h=>h.elim)) vY vY vY ?_;iterate 2 refine vD ?_
   refine qDL ⟨wr.heap.size,0,none⟩ _ rfl (fun O h2=>jab Tryz.uStr rfl (jar (by exact Q0.o) h2 NB.o)) ?_;refine vS ?_;iterate 3 refine vD ?_
   refine qDL ⟨wr.heap.size,1,none⟩ _ rfl (fun O h2=>jab Tryz.uStr rfl (jar (by exact Q1.o) h2 NB.o)) ?_;refine vS ?_
   refine vD ?_
   refine qDH _ rfl (fun O A K hK=>?_);have a0:=Hd (J.o.mono ((((ExtR wr).alloc _).trans (jah _)).trans A));clear A J;go_simp;refine hK _ _ ((jaf.refl _ O).alloc _) ?_;clear hK K;refine qDH _ rfl (fun w3 A K hK=>?_);have a1:=Hd (a0.o.mono (((ExtR O).alloc _).trans A));have hB:∀ j u,([.string (x.extract d x.size),.string y]:List vV)[j]?=some u->w3.cell? ((⟨O.heap.size,0,none⟩:Addr).add j)=some u:=fun j u hj=>jaa (jaI (Blk.new O (.cells [Value.string (x.extract d x.size),.string y].toArray 96)) j u hj) A;refine jfv Tryz.sRows a1.o (.tmp 17) (.tmp 25) rfl rfl hB (by intro u hu;simp at hu;rcases hu with rfl | rfl <;> rfl) rfl rfl (by unfold maxLen;omega) vO (fun v' w4 r1 r2 r3=>hK _ _ r2 ?_);have a3:PRow w w4 v' (k+1) ((jak d l).take (k+1)):=by
    unfold PRow;rw[a9.o,jaV];exact r1
   have H:=Hd a3;clear hK K A r1 r2 r3 a3 hB a0 a1
   obtain⟨a4,c4,rfl⟩:=H.o.sl
   refine vS ?_
   refine vD ?_
   refine qDE (fun w5 A=>?_);have b0:=Hd (H.o.mono A);clear A H;go_wp2_with fail
   go_roundw
   case rel=>exact⟨k+1,by omega,by go_num,b0.o⟩
   case measure=>exact vJ
  ·have b3:k=l.length:=vO
   subst b3;go_wp2;go_ret;have h:=J.o;rw[bN (by simp[jak])]at h
   exact⟨_,rfl,h⟩
def jeU(i:Nat)(p:Pair):Bool:=match p.1.data.toList with | []=>false | a :: _=>a.toNat == i
theorem jvV{x y:vB}(i:Nat)(h:0 < x.size):jeU i (x,y)=(x[0].toNat == i):=by
 obtain⟨⟨l⟩⟩:=x
 cases l with
 | nil=>exact absurd h (Nat.lt_irrefl 0)
 | cons a r=>rfl
theorem juM(a b:Nat):((a:Int) ==(b:Int))=(a == b):=by
 by_cases h:a=b
 ·subst h;simp
 ·have e:¬(a:Int)=(b:Int):=vO
  rw[beq_eq_false_iff_ne.2 h,beq_eq_false_iff_ne.2 e]
theorem jAr(w:vW)(x y:vB)(gi i:Nat)(hs:x.size<=1000000)(hi:i < 256)(hc:w.cell? ⟨gi,0,none⟩=some (.int .i64 (i:Int))):vR 51 #[.agg #[.string x,.string y],.pointer (some ⟨gi,0,none⟩)] w (.bool (jeU i (x,y))):=by
 have K:=Hd (show (w.alloc (.cells #[.string x,.string y] 96)).cell? ⟨w.heap.size,0,none⟩=some (.string x)from(Blk.new w _).cell vF);have QI:=Hd (jaa hc ((ExtR w).alloc (.cells #[.string x,.string y] 96)));clear hc
 by_cases h0:x.size=0
 ·have:=jbq h0
  subst this;have E:Hid (jeU i (⟨#[]⟩,y)=false):=rfl;unfold vR vQ;go_in;go_wp2_with fail
  refine jag [0,1,2,3,4,5,6,7,8,9,10,11] Ext ExtR ExtT vY vY vY ?_
  refine vK ?_
  refine qKL ⟨w.heap.size,0,none⟩ _ rfl (fun O z=>jab Tryz.uStr rfl (jaa (by exact K.o) z)) ?_;refine vS ?_;iterate 2 refine vK ?_
  iterate 6 (refine qKS _ rfl ?_;refine vS ?_)
  iterate 2 refine vK ?_
  refine qKE (fun w3 H=>?_);have Q:=Hd ((((ExtR w).alloc (.cells #[.string ⟨#[]⟩,.string y] 96)).trans (jah _)).trans H);clear H;go_wp2_with fail
  go_ret
  exact⟨by rw[E.o];rfl,Q.o⟩
 ·have e:0 < x.size:=vO
  have a1:=jbe (s:=x) e;have c0:(0:Int) < (x.size:Int):=vO
  have c1:=x[0].toNat_lt;have E:=Hd (jvV (y:=y) i e);have J:((x[0].toNat:Int) ==(i:Int))=(x[0].toNat == i):=juM _ _;have X:=Hd J;clear J;unfold vR vQ;go_in;go_wp2_with fail
  refine jag [0,1,2,3,4,5,6,7,8,9,10,11] Ext ExtR ExtT vY vY vY ?_
  refine vK ?_
  refine qKL ⟨w.heap.size,0,none⟩ _ rfl (fun O z=>jab Tryz.uStr rfl (jaa (by exact K.o) z)) ?_;refine vS ?_;iterate 3 refine vK ?_
  refine qKL ⟨w.heap.size,0,none⟩ _ rfl (fun O z=>jab Tryz.uStr rfl (jaa (by exact K.o) z)) ?_;refine vS ?_;iterate 2 refine vK ?_
  refine qKL ⟨gi,0,none⟩ _ rfl (fun O z=>jab Tryz.uInt rfl (jaa (by exact QI.o) z)) ?_;refine vS ?_;iterate 3 refine vK ?_
  refine qKE (fun w3 H=>?_);have Z:=Hd ((((ExtR w).alloc (.cells #[.string x,.string y] 96)).trans (jah _)).trans H);clear H;rw[X.o, <-E.o]
  obtain⟨bb,A⟩:=vE (jeU i (x,y))
  rw[<-A];have a0:=Hd A;clear A;go_wp2_with fail
  go_ret
  exact⟨by rw[<-a0.o];rfl,Z.o⟩
def cutL(i:Nat)(l:vL):vL:=l.filter (jeU i)
theorem ju1(i:Nat)(l:vL){k:Nat}{p:Pair}(h:l[k]?=some p):cutL i (l.take (k+1))=cutL i (l.take k)++(if jeU i p then [p]else []):=by
 unfold cutL;rw[bY,h,gM,Option.toList_some,dH];simp
def jy4(w:vW)(i:Nat)(l:vL)(v j:vV)(wr:vW):Prop:=∃ k n:Nat,k<=l.length/\n<=k/\j=.int .i64 k/\PRow w wr v n (cutL i (l.take k))
theorem jzM(w:vW)(v:vV)(gi i:Nat)(l:vL)(hv:RdP w v l)(hn:l.length<=1000000)(hs:∀ p∈l,p.1.size<=1000000)(hi:i < 256)(hc:w.cell? ⟨gi,0,none⟩=some (.int .i64 (i:Int))):vQ 50 #[v,.func (.func 51) #[] #[.pointer (some ⟨gi,0,none⟩)]] w fun e w'=>∃ u n,e=.returned u/\PRow w w' u n (cutL i l):=by
 obtain⟨a,c,a0⟩:=hv.sl
 have HV:=Hd hv;have HS:=Hd hs;have HC:=Hd hc;subst a0;clear hv hs hc;unfold vQ;go_in;go_wp2_with fail
 go_loopw [5,10] (fun v j wr=>jy4 w i l v j wr) (fun _ j _=>l.length - (intOf j).toNat)
 case atStart=>exact⟨0,0,cE _,cE _,rfl,ORow.nil _ _ (ExtR w)⟩
 case round =>
  obtain⟨k,n,hk,a4,rfl,hR⟩:=hrel
  obtain⟨a2,c2,rfl⟩:=hR.sl
  have J:=Hd hR;clear hR
  by_cases hlt:k < l.length
  ·rcases HV.o with⟨_,_,_,h0⟩ |⟨b,o,c',hh,hb,hc,hcell⟩
   ·rw[h0]at hlt;cases hlt
   cases hh
   obtain⟨p,Q⟩:∃ p,l[k]?=some p:=⟨_,bA hlt⟩
   obtain⟨X,Z⟩:=hcell k p Q
   have X:=jaa X J.o.ext;have Z:=jaa Z J.o.ext;have K:=HS.o p (bI Q);have O:=ju1 i l Q
   obtain⟨x,y⟩:=p
   simp only at X Z K;have b1:(k:Int) < (l.length:Int):=vO
   have z:=Hd O;clear hcell Q O;go_wp2_with fail
   refine vC (jAr _ x y gi i K hi (jaa HC.o (J.o.ext.trans ((ExtR wr).alloc _)))) fun w3 hE=>?_;have hX:=((ExtR wr).alloc (.cells #[.string x,.string y] 96)).trans hE;have A:=Hd (J.o.mono hX);have E:=(Blk.new wr (.cells #[.string x,.string y] 96)).keeps hE (fun h=>h);have p0:=E.cell (i:=0) (v:=.string x) vF;have p1:=E.cell (i:=1) (v:=.string y) vF;clear hX hE E X Z J;cases hpk:jeU i (x,y)with
   | true =>
    rw[hpk,if_pos rfl]at z;go_wp2_with (at_builtin;refine jaK Tryz.sRows (A.o.mono ((ExtR w3).alloc _)) (.tmp 17) (.tmp 19) rfl rfl rfl (jaI (Blk.new w3 _)) (news:=[.string x,.string y]) (by intro u hu;simp at hu;rcases hu with rfl | rfl <;> rfl) rfl rfl ?c1 ?c2 (fun v' w' r1 r2 r3=>?_))
    case c1=>unfold maxLen;omega
    case c2=>omega
    have H:PRow w w' v' (n+1) (cutL i (l.take (k+1))):=by unfold PRow;rw[z.o,jaV];exact r1
    obtain⟨a5,c5,rfl⟩:=H.sl
    have a1:=Hd H;clear r1 r2 r3 H A;go_wp2_with fail
    go_roundw
    case rel=>exact⟨k+1,n+1,by omega,by omega,by go_num,a1.o⟩
    case measure=>exact vJ
   | false =>
    rw[hpk,if_neg (by simp),bW]at z;go_wp2_with fail
    go_roundw
    case rel=>exact⟨k+1,n,by omega,by omega,by go_num,by rw[z.o];exact A.o⟩
    case measure=>exact vJ
  ·have a3:k=l.length:=vO
   subst a3;go_wp2;go_ret;have h:=J.o;rw[cJ]at h
   exact⟨_,_,rfl,h⟩
theorem jcn{P:Program}{t e ty:TypeId}{i:TypeInfo}(ht:P.underlying t=some (.slice e))(hi:P.info? e=some i)(base:Option Addr)(n c:Nat)(hle:n<=c)(c2:Nat)(w:vW) :
  (Builtin.append_ #[t,t] ty #[.slice base n c,.slice none 0 c2]).run P w=.ok (.slice base n c) w:=by
 have o:(sizeOf e).run P w=.ok i.size w:=by simp[sizeOf,typeInfo,hi]
 have z:∀ w,(Builtin.lenOf (.slice none 0 c2)).run P w=.ok 0 w:=fun w=>rfl;cases base <;> simp[Builtin.append_,bX,Result.andThen,run_underlying ht,o,z,cO,Builtin.firstCells,hle,storeCells]
inductive PT where
 | mk (text:vB) (below:List PT)
def PT.text:PT->vB | .mk t _=>t
def PT.kids:PT->List PT | .mk _ ks=>ks
def ptrV(b:Nat):vV:=.pointer (some ⟨b,0,none⟩)
def RdQ(A:Nat->Prop)(W:vW)(v:vV)(bs:List Nat):Prop:=
 (v=.slice none 0 0/\bs=[])\/∃ g c,v=.slice (some ⟨g,0,none⟩) bs.length c/\bs≠[]/\A g/\g < W.heap.size/\bs.length<=c/\∀ (j:Nat) b,bs[j]?=some b->W.cell? ⟨g,j,none⟩=some (ptrV b)
mutual
def jbN(A:Nat->Prop):PT->Nat->vW->Prop
 | .mk t ks,b,W=>A b/\∃ v bs,Blk W b (.cells #[.string t,v] 90)/\RdQ A W v bs/\jaY A ks bs W
def jaY(A:Nat->Prop):List PT->List Nat->vW->Prop
 | [],bs,_=>bs=[]
 | k :: ks,bs,W=>∃ b r,bs=b :: r/\jbN A k b W/\jaY A ks r W
end
theorem RdQ.keeps{A:Nat->Prop}{F:BSet}{W W':vW}{v:vV}{bs:List Nat}(h:RdQ A W v bs)(k:jaf F W W')(hF:∀ x,A x->¬ F x):RdQ A W' v bs:=by
 rcases h with h |⟨g,c,h1,h2,h3,h4,h5,h6⟩
 ·exact .inl h
 ·exact .inr ⟨g,c,h1,h2,h3,bQ h4 k.size,h5,fun j b hb=>jar (h6 j b hb) k (hF g h3)⟩
theorem RdQ.mono{A A':Nat->Prop}{W:vW}{v:vV}{bs:List Nat}(h:RdQ A W v bs)(hA:∀ x,A x->x < W.heap.size->A' x):RdQ A' W v bs:=by
 rcases h with h |⟨g,c,h1,h2,h3,h4,h5,h6⟩
 ·exact .inl h
 ·exact .inr ⟨g,c,h1,h2,hA g h3 h4,h4,h5,h6⟩
mutual
theorem jbN.keeps{A:Nat->Prop}{F:BSet}{W W':vW}(k:jaf F W W')(hF:∀ x,A x->¬ F x):∀ (T:PT) (b:Nat),jbN A T b W->jbN A T b W'
 | .mk t ks,b,h=>by
  unfold jbN at *
  obtain⟨e,v,o,z,E,H⟩:=h
  exact⟨e,v,o,z.keeps k (hF b e),E.keeps k hF,jaY.keeps k hF ks o H⟩
theorem jaY.keeps{A:Nat->Prop}{F:BSet}{W W':vW}(k:jaf F W W')(hF:∀ x,A x->¬ F x):∀ (ks:List PT) (bs:List Nat),jaY A ks bs W->jaY A ks bs W'
 | [],bs,h=>by unfold jaY at *;exact h
 | x :: ks,bs,h=>by
  unfold jaY at *
  obtain⟨b,r,e,o,z⟩:=h
  exact⟨b,r,e,jbN.keeps k hF x b o,jaY.keeps k hF ks r z⟩
end
mutual
theorem jbN.mono{A A':Nat->Prop}{W:vW}(hA:∀ x,A x->x < W.heap.size->A' x):∀ (T:PT) (b:Nat),jbN A T b W->jbN A' T b W
 | .mk t ks,b,h=>by
  unfold jbN at *
  obtain⟨z,v,e,o,E,H⟩:=h
  exact⟨hA b z o.lt,v,e,o,E.mono hA,jaY.mono hA ks e H⟩
theorem jaY.mono{A A':Nat->Prop}{W:vW}(hA:∀ x,A x->x < W.heap.size->A' x):∀ (ks:List PT) (bs:List Nat),jaY A ks bs W->jaY A' ks bs W
 | [],bs,h=>by unfold jaY at *;exact h
 | x :: ks,bs,h=>by
  unfold jaY at *
  obtain⟨b,r,e,o,z⟩:=h
  exact⟨b,r,e,jbN.mono hA x b o,jaY.mono hA ks r z⟩
end
theorem jaY.append{A:Nat->Prop}{W:vW}:∀ (ks:List PT) (bs:List Nat) (ks':List PT) (bs':List Nat),jaY A ks bs W->jaY A ks' bs' W->jaY A (ks++ks') (bs++bs') W
 | [],bs,ks',bs',h,h'=>by unfold jaY at h;subst h;exact h'
 | x :: ks,bs,ks',bs',h,h'=>by
  unfold jaY at h
  obtain⟨b,r,rfl,e,o⟩:=h
  show jaY A (x ::(ks++ks')) (b ::(r++bs')) W;unfold jaY
  exact⟨b,r++bs',rfl,e,jaY.append ks r ks' bs' o h'⟩
theorem Tryz.uParts:Tryz.prog.underlying 88=some (.slice 62):=vY
theorem Tryz.infoPtr:(Tryz.prog.info? 62).map (fun i=>(i.zero,i.size,i.bytes))=some (some (.pointer none),1,8):=vY
theorem Tryz.sParts:jd0 Tryz.prog 88 62 1 8:=jd0.mk' Tryz.uParts Tryz.infoPtr rfl vI
abbrev QRow(w0 w:vW)(v:vV)(bs:List Nat):Prop:=ORow 62 1 w0 w v bs.length (bs.map ptrV)
structure jdN(w0 W:World)(b m:Nat)(t:vB)(ks:List PT)(u:Value)(bs:List Nat):Prop where
 blk:Blk W b (.cells #[.string t,u] 90)
 new:w0.heap.size<=b
 row:QRow w0 W u bs
 nil:bs=[]->u=.slice none 0 0
 nb:¬ u.ownBlock=some b
 bm:m≠b
 mb:¬ u.ownBlock=some m
 mn:w0.heap.size<=m
 ml:m < W.heap.size
 ks:jaY (fun x=>w0.heap.size<=x/\x≠b/\x≠m/\¬ u.ownBlock=some x) ks bs W
theorem jdN.ext{w0 W W':vW}{b m:Nat}{t:vB}{ks:List PT}{u:vV}{bs:List Nat}(h:jdN w0 W b m t ks u bs)(e:Ext W W'):jdN w0 W' b m t ks u bs:=
 ⟨h.blk.keeps e (fun h=>h),h.new,h.row.mono e,h.nil,h.nb,h.bm,h.mb,h.mn,bQ h.ml e.size,jaY.keeps e (fun _ _ h=>h) _ _ h.ks⟩
theorem jdN.other{w0 W W':vW}{b m:Nat}{t:vB}{ks:List PT}{u:vV}{bs:List Nat}(h:jdN w0 W b m t ks u bs)(e:jaf (fun x=>x=m) W W'):jdN w0 W' b m t ks u bs:=
 ⟨h.blk.keeps e (fun e=>h.bm e.symm),h.new,h.row.keeps e (fun x o e=>h.mb (by have e:x=m:=e;rw[<-e];exact o)) (fun x o e=>by have e:x=m:=e;have:=h.mn;omega),h.nil,h.nb,h.bm,h.mb,h.mn,bQ h.ml e.size,
  jaY.keeps e (fun x o e=>o.2.2.1 e) _ _ h.ks⟩
theorem jdN.setText{w0 W:vW}{b m:Nat}{t:vB}{ks:List PT}{u:vV}{bs:List Nat}(h:jdN w0 W b m t ks u bs)(t':vB):jdN w0 (W.setCell ⟨b,0,none⟩ (.string t')) b m t' ks u bs:=
 have K:=jaf.oneSet W ⟨b,0,none⟩ (.string t')
 ⟨h.blk.set_same (i:=0) (.string t'),h.new,h.row.keeps K (fun x o e=>h.nb (by have e:x=b:=e;rw[<-e];exact o)) (fun x o e=>by have e:x=b:=e;have:=h.new;omega),h.nil,h.nb,h.bm,h.mb,h.mn,bQ h.ml K.size,jaY.keeps K (fun x o e=>o.2.1 e) _ _ h.ks⟩
theorem jdN.part{w0 W:vW}{b m:Nat}{t:vB}{ks:List PT}{u:vV}{bs:List Nat}(h:jdN w0 W b m t ks u bs):jbN (fun x=>w0.heap.size<=x) (.mk t ks) b W:=by
 unfold jbN
 refine⟨h.new,u,bs,h.blk,?_,jaY.mono (fun x o _=>o.1) _ _ h.ks⟩
 by_cases h0:bs=[]
 ·exact .inl ⟨h.nil h0,h0⟩
 ·obtain⟨_,⟨rfl,H⟩ |⟨g,e,z,rfl,J,A,E,K,O⟩⟩:=h.row.own
  ·exact absurd (bD vO) h0
  ·refine .inr ⟨g,e,rfl,h0,h.row.new g rfl,(dK.1 A).1,E,fun j b hb=>?_⟩
   have Q:=(bP.1 hb).1;rw[h.row.own.cellAt j vO,cA,hb];rfl
def jbF(T:PT):List PT:=if T.text.size < 32 then []else [T]
structure jxb(T:PT):Prop where
 size:T.text.size<=100000
 small:T.text.size < 32->T.kids=[]
 nohash:T.text.size < 32->∃ q,cutN T.text=some q/\jfc T.text q=none
theorem jvu(W:vW)(b:Nat)(a:Option Addr)(c:Nat):vQ 48 #[ptrV b,.slice a 0 c] W fun e w'=>e=.returned (.string ⟨#[]⟩)/\w'=W:=by
 unfold ptrV;unfold vQ;go_in;go_wp2_with fail
 go_ret
 exact⟨rfl,rfl⟩
theorem jdR{P:Program}{a:Act}{w w':vW}{v:vV}{d:Option Tmp}{args:Array Operand}{ats:Array TypeId}{ty:TypeId}{pos:String}{af:Array Edge}{g:Option (Nat × Bool)}{vs:Array vV}(h:(Builtin.append_ ats ty vs).run P w=.ok v w')(hv:args.map a.eval=vs) :
  (execOp a.eval ⟨d,.call { callee:=.builtin .append,args:=args,argTypes:=ats },ty,pos,af,g⟩).run P w=.ok (.value v) w':=by
 subst hv;simp[execOp,resolve,invoke,Go.builtin,Act.eval,bX,Result.andThen,cO,h]
theorem jdN.add{w0 W w1 w2:vW}{b m:Nat}{t:vB}{ks:List PT}{u u':vV}{bs:List Nat}{k:Nat}{T:PT}(h:jdN w0 W b m t ks u bs)(hk:jbN (fun x=>w1.heap.size<=x) T k W)(h1:b < w1.heap.size)(h1m:m < w1.heap.size)(h2:∀ x,u.ownBlock=some x->x < w1.heap.size)(h3:w0.heap.size<=w1.heap.size)
  (r1:QRow w0 w2 u' (bs++[k])) (r2:jaf (fun x=>u.ownBlock=some x) W w2) (r3:u'.ownBlock=u.ownBlock\/∀ x,u'.ownBlock=some x->W.heap.size<=x) :
  jdN w0 (w2.setCell ⟨b,1,none⟩ u') b m t (ks++[T]) u' (bs++[k]):=by
 have K:jaf (fun x=>x=b\/u.ownBlock=some x) W (w2.setCell ⟨b,1,none⟩ u'):=(r2.mono (fun x _ o=>.inr o)).setCell (.inl (.inl rfl)) _;have z:=h.blk.lt;have E:¬ u'.ownBlock=some b:=fun e=>by
  rcases r3 with r3 | r3
  ·exact h.nb (r3 ▸ e)
  ·have:=r3 b e;omega
 have A:∀ x,x < W.heap.size->¬ u.ownBlock=some x->¬ u'.ownBlock=some x:=fun x o J e=>by
  rcases r3 with r3 | r3
  ·exact J (r3 ▸ e)
  ·have:=r3 x e;omega
 refine⟨?_,h.new,r1.keeps (jaf.oneSet w2 ⟨b,1,none⟩ u') (fun x o e=>E (by have e:x=b:=e;rw[<-e];exact o)) (fun x o e=>by have e:x=b:=e;have:=h.new;omega),fun e=>absurd e (by simp),E,h.bm,A m h.ml h.mb,h.mn,bQ h.ml K.size,?_⟩
 ·have:=(h.blk.keeps r2 h.nb).set_same (i:=1) u'
  exact this
 ·refine jaY.append _ _ _ _ ?_ ?_
  ·refine jaY.keeps K (fun x o e=>?_) _ _ (jaY.mono (A':=fun x=>w0.heap.size<=x/\x≠b/\¬ u.ownBlock=some x/\x≠m/\¬ u'.ownBlock=some x) (fun x o z=>⟨o.1,o.2.1,o.2.2.2,o.2.2.1,A x z o.2.2.2⟩) _ _ h.ks) |> jaY.mono (fun x o _=>⟨o.1,o.2.1,o.2.2.2.1,o.2.2.2.2⟩) _ _
   rcases e with e | e
   ·exact o.2.1 e
   ·exact o.2.2.1 e
  ·unfold jaY
   refine⟨k,[],rfl,?_,by unfold jaY;rfl⟩
   have H:jbN (fun x=>w0.heap.size<=x/\x≠b/\¬ u.ownBlock=some x/\x≠m/\¬ u'.ownBlock=some x) T k W:=jbN.mono (fun x o z=>⟨by omega,by omega,fun e=>by have:=h2 x e;omega,by omega,A x z (fun e=>by have:=h2 x e;omega)⟩) _ _ hk;refine jbN.mono (fun x o _=>⟨o.1,o.2.1,o.2.2.2.1,o.2.2.2.2⟩) _ _ (jbN.keeps K (fun x o e=>?_) _ _ H);rcases e with e | e
   ·exact o.2.1 e
   ·exact o.2.2.1 e
theorem jdN.same{w0 W:vW}{b m:Nat}{t:vB}{ks:List PT}{u:vV}{bs:List Nat}(h:jdN w0 W b m t ks u bs):jdN w0 (W.setCell ⟨b,1,none⟩ u) b m t ks u bs:=
 have K:=jaf.oneSet W ⟨b,1,none⟩ u
 ⟨h.blk.set_same (i:=1) u,h.new,h.row.keeps K (fun x o e=>h.nb (by have e:x=b:=e;rw[<-e];exact o)) (fun x o e=>by have e:x=b:=e;have:=h.new;omega),h.nil,h.nb,h.bm,h.mb,h.mn,bQ h.ml K.size,jaY.keeps K (fun x o e=>o.2.1 e) _ _ h.ks⟩
theorem jbN.open{A:Nat->Prop}{T:PT}{b:Nat}{W:vW}(h:jbN A T b W):A b/\∃ v bs,Blk W b (.cells #[.string T.text,v] 90)/\RdQ A W v bs/\jaY A T.kids bs W:=by
 cases T with
 | mk t ks=>unfold jbN at h;exact h
theorem RdQ.sl{A:Nat->Prop}{W:vW}{v:vV}{bs:List Nat}(h:RdQ A W v bs):∃ a c,v=.slice a bs.length c:=by
 rcases h with⟨h1,h2⟩ |⟨g,c,h1,_⟩
 ·exact⟨none,0,by rw[h1,h2];rfl⟩
 ·exact⟨_,c,h1⟩
theorem jwT{w0 W:vW}(hc:jbY W){b m:Nat}{t:vB}{ks:List PT}{u:vV}{bs:List Nat}(h:jdN w0 W b m t ks u bs)(hbs:bs.length<=100)(v:vV)(l:vL)(hv:RdP W v l)(hl:l≠[])(hln:l.length<=1000000)(T:PT)(hT:jxb T)
  (hb:vQ 25 #[v] W fun e w'=>∃ k,e=.returned (ptrV k)/\jbN (fun x=>W.heap.size<=x) T k w'/\Ext W w') :
  vQ 48 #[ptrV b,v] W fun e w'=>∃ u' bs',e=.returned (.string (refB T.text))/\jdN w0 w' b m t (ks++jbF T) u' bs'/\bs'.length<=bs.length+1/\Ext w0 w'/\jaf (fun x=>x=b\/u.ownBlock=some x) W w':=by
 obtain⟨av,cv,rfl⟩:=hv.sl
 have b9:l.length≠0:=fun e=>hl (bD e);have c0:((l.length:Int) == 0)=false:=by simp;exact hl
 have c1:¬(l.length:Int)=0:=vO
 have HB:=Hd hb;have H:=Hd h;have HC:=Hd hc;have HT:=Hd hT
 obtain⟨s,hs⟩:=vE T.text
 have b1:refB T.text=refB s:=by rw[hs]
 rw[b1];have HS:=Hd hs;clear hb h hc hT hv hl b9 hs b1;unfold ptrV;unfold vQ;go_in;go_wp2_with fail
 refine HB.o.mono ?_;rintro e w1 ⟨k,rfl,hk,A⟩;have HK:=Hd hk
 obtain⟨d9,vk,bk,a3,b2,b3⟩:=hk.open
 have q0:w1.cell? ⟨k,0,none⟩=some (.string s):=by rw[HS.o];exact a3.cell vF
 have H1:=Hd (H.o.ext A);have HE:=Hd A;have c2:=Hd (HC.o.ext A);have c3:=Hd a3;have c4:=Hd b2;have c6:=Hd b3;clear A hk a3 b2 b3;unfold ptrV;go_wp2_with fail
 refine vC (jyo w1 s c2.o) fun w2 A=>?_;have b4:=Hd A;have H2:=Hd (H1.o.ext A)
 by_cases hsm:s.size < 32
 ·have Q:T.text.size < 32:=by rw[<-HS.o];exact hsm
  obtain⟨q,E,J⟩:=HT.o.nohash Q
  rw[<-HS.o]at E J;have hr:refB s=s:=by unfold refB;rw[if_pos hsm]
  rw[hr];have a1:=HT.o.small Q;have a2:=c6.o;rw[a1]at a2;unfold jaY at a2;have a4:=c4.o;rw[a2]at a4;have b5:vk=.slice none 0 0:=by
   rcases a4 with⟨h1,_⟩ |⟨g,c,_,h2,_⟩
   ·exact h1
   ·exact absurd rfl h2
  have z:ks++jbF T=ks:=by unfold jbF;rw[if_pos Q,bW]
  have O:=Hd z;have Z:=Hd hr;have a6:=Hd E;have a7:=Hd J;have a0:=c3.o.keeps A (fun h=>h);rw[b5]at a0;have QK:=Hd (a0.cell (i:=1) (v:=.slice none 0 0) vF);clear A E J hr a1 a2 a4 b5 a0 z;go_wp2_with fail
  refine vC (je1 w2 s q vO a6.o) fun w3 A=>?_;rw[a7.o];have H3:=Hd (H2.o.ext A);have c7:=Hd (jaa QK.o A);have a8:=Hd ((HE.o.trans b4.o).trans A);clear A
  obtain⟨au,X,hu⟩:=H3.o.row.sl
  subst hu;unfold optV;simp only;go_wp2_with fail
  have c8:bs.length<=X:=by
   obtain⟨_,⟨hx,h2⟩ |⟨g,e0,e2,hx,h3,h4,h5,h6,h7⟩⟩:=H3.o.row.own
   ·have:=cW hx;omega
   ·have:=cW hx;omega
  refine jaz [0,1,2,3,4,5,6,7,8,9,10,11,12] [12] Ext ExtR ExtT vY vY vY ?_;iterate 2 refine vP ?_
  refine qA _ (.pointer (some ⟨b,0,none⟩)) rfl (fun w1=>by kernel_rfl) ?_;refine vS ?_
  refine vP ?_
  refine qL ⟨b,1,none⟩ _ rfl (fun w1 h1=>jab Tryz.uParts rfl (jaa (by exact H3.o.blk.cell (i:=1) (v:=.slice au bs.length X) vF) h1)) ?_;refine vS ?_
  refine vP ?_
  refine qA _ (.pointer (some ⟨k,0,none⟩)) rfl (fun w1=>by kernel_rfl) ?_;refine vS ?_
  refine vP ?_
  refine qL ⟨k,1,none⟩ _ rfl (fun w1 h1=>jab Tryz.uParts rfl (jaa (by exact c7.o) h1)) ?_;refine vS ?_
  obtain⟨i0,z0,c9,_⟩:=Tryz.sParts.hi
  refine qA _ (.slice au bs.length X) rfl (fun w1=>jdR (jcn Tryz.uParts c9 au bs.length X c8 0 w1) vY) ?_;refine vS ?_;refine qA _ (.pointer (some ⟨b,0,none⟩)) rfl (fun w1=>by kernel_rfl) ?_;refine vS ?_
  refine vP ?_
  refine qH _ rfl (fun w4 he K hK=>?_);have h4:=H3.o.ext ((jah w3).trans he);have q1:w4.cell? ⟨b,1,none⟩=some (.slice au bs.length X):=h4.blk.cell (i:=1) vF;have f1:w4.frozen? ⟨b,1,none⟩=false:=h4.blk.frozen;have H4:=Hd h4;have d0:=Hd (a8.o.trans ((jah w3).trans he));clear he h4;go_simp;refine hK _ _ ?_;clear hK K q1 f1;have H5:=Hd H4.o.same;refine qE (fun w5 he=>?_);have H6:=Hd (H5.o.ext he);have d1:=Hd ((((d0.o.mono (G:=fun x=>x=b\/(Value.slice au bs.length X).ownBlock=some x) (fun _ _ h=>h.elim)).setCell (p:=⟨b,1,none⟩) (.inl (.inl rfl)) (.slice au bs.length X)).trans (he.mono (fun _ _ h=>h.elim))));clear he H5 H4;go_wp2_with fail
  go_ret
  exact⟨_,bs,by rw[Z.o];rfl,by rw[O.o];exact H6.o,by omega,H6.o.row.ext,d1.o⟩
 ·have Q:¬ T.text.size < 32:=by rw[<-HS.o];exact hsm
  obtain⟨r,hr⟩:=vE (refB s)
  have a9:r=jan (shaB s):=by rw[hr];unfold refB;rw[if_neg hsm]
  obtain⟨q,E,J⟩:=jdU (shaB s) (jbk s)
  rw[<-a9]at E J;have d2:r.size<=1000000000:=by have:=jaN (shaB s);have:=jbk s;rw[a9];omega
  have z:ks++jbF T=ks++[T]:=by unfold jbF;rw[if_neg Q]
  rw[<-hr];have O:=Hd z;have Z:=Hd hr;have a6:=Hd E;have a7:=Hd J;have d3:=Hd (jbN.keeps A (fun _ _ h=>h) _ _ HK.o);clear A E J hr a9 z Q;go_wp2_with fail
  refine vC (je1 w2 r q d2 a6.o) fun w3 A=>?_;rw[a7.o];have h3:=H2.o.ext A;have b0:=Hd (jbN.keeps A (fun _ _ h=>h) _ _ d3.o);have b6:=(HE.o.trans b4.o).trans A
  obtain⟨au,X,hu⟩:=h3.row.sl
  subst hu;have q1:w3.cell? ⟨b,1,none⟩=some (.slice au bs.length X):=h3.blk.cell (i:=1) vF;have H3:=Hd h3;have d4:=H.o.blk.lt;have b7:=H.o.row.lt;have d5:=Hd b7;have d6:=H.o.row.ext.size;have a8:=Hd b6;clear A h3 b6 b7;unfold optV;simp only;go_wp2_with (at_builtin;refine jaK Tryz.sParts (H3.o.row.mono ((ExtR w3).alloc _)) (.tmp 29) (.tmp 31) rfl rfl rfl (jaI (Blk.new w3 _)) (news:=[ptrV k]) (by intro u hu;simp at hu;rw[hu];rfl) rfl rfl (by unfold maxLen;omega) vO (fun v' w4 r1 r2 r3=>?_);obtain⟨a5,c5,d7⟩:=r1.sl;subst d7;have b8:=(H3.o.blk.alloc _).keeps r2 H3.o.nb;have qb:w4.cell? ⟨b,1,none⟩=some (.slice au bs.length X):=b8.cell (i:=1) vF;have fb:w4.frozen? ⟨b,1,none⟩=false:=b8.frozen)
  have e1:QRow w0 w4 (.slice a5 (bs.length+1) c5) (bs++[k]):=by
   unfold QRow;rw[bC,cB];exact r1
  have h5:=jdN.add (w1:=W) (H3.o.ext ((ExtR w3).alloc _)) (jbN.keeps ((ExtR w3).alloc _) (fun _ _ h=>h) _ _ b0.o) d4 H.o.ml d5.o d6 e1 r2 r3;have d8:jaf (fun x=>x=b\/(Value.slice au bs.length X).ownBlock=some x) W (w4.setCell ⟨b,1,none⟩ (.slice a5 (bs.length+1) c5)):=
   ((((a8.o.alloc _).mono (G:=fun x=>x=b\/(Value.slice au bs.length X).ownBlock=some x) (fun _ _ h=>h.elim)).trans (r2.mono (fun _ _ h=>.inr h)))).setCell (.inl (.inl rfl)) _
  go_ret
  exact⟨_,bs++[k],by rw[<-Z.o];rfl,by rw[O.o];exact h5,by simp,h5.row.ext,d8⟩
abbrev Lt(a b:vN):Prop:=Op.bytesLess a b=true
theorem jbG{a b:vU}{x y:vN}:Lt (a :: x) (b :: y)↔a < b\/(a=b/\Lt x y):=by
 unfold Lt;rw[Op.bytesLess];simp
theorem not_lt_nil(a:vN):¬ Lt a []:=by
 unfold Lt;cases a <;> simp[Op.bytesLess]
theorem jpm{b:vU}{y:vN}:Lt [] (b :: y):=rfl
theorem lt_irrefl:∀ a:vN,¬ Lt a a
 | [],h=>not_lt_nil _ h
 | a :: x,h=>by
  rcases jbG.1 h with h | h
  ·exact iL a h
  ·exact lt_irrefl x h.2
theorem jbg:∀ (a b:vN),a.take (ja0 a b)=b.take (ja0 a b)/\ja0 a b<=a.length/\ja0 a b<=b.length
 | [],b=>by simp[ja0]
 | x :: r,[]=>by simp[ja0]
 | x :: r,y :: t=>by
  unfold ja0;split
  ·rename_i h
   obtain⟨e,o,z⟩:=jbg r t
   subst h;simp only[dZ,bF,e]
   exact⟨trivial,by omega,by omega⟩
  ·simp
theorem jik(a b:vN):ja0 (a.drop (ja0 a b)) (b.drop (ja0 a b))=0:=by
 obtain⟨e,o,z⟩:=jbg a b
 have:=jdQ a b (ja0 a b) e o z
 omega
theorem jrH:∀ (k:Nat) (a m b:vN),Lt a m->Lt m b->a.take k=b.take k->k<=a.length->k<=b.length->m.take k=a.take k/\k<=m.length
 | 0,a,m,b,_,_,_,_,_=>by simp
 | k+1,[],m,b,_,_,_,h,_=>by simp at h
 | k+1,x :: a,m,[],_,_,_,_,h=>by simp at h
 | k+1,x :: a,[],y :: b,h,_,_,_,_=>absurd h (not_lt_nil _)
 | k+1,x :: a,z :: m,y :: b,h1,h2,e,h4,h5=>by
  simp only[dZ,List.cons.injEq]at e
  obtain⟨rfl,e⟩:=e
  have o:x=z:=by
   rcases jbG.1 h1 with h | h
   ·rcases jbG.1 h2 with h' | h'
    ·exact absurd (UInt8.lt_trans h h') (iL x)
    ·rw[h'.1]at h;exact absurd h (iL x)
   ·exact h.1
  subst o;have A:Lt a m:=by
   rcases jbG.1 h1 with h | h
   ·exact absurd h (iL x)
   ·exact h.2
  have E:Lt m b:=by
   rcases jbG.1 h2 with h | h
   ·exact absurd h (iL x)
   ·exact h.2
  obtain⟨H,J⟩:=jrH k a m b A E e (by simpa using h4) (by simpa using h5)
  simp only[dZ,H,bF]
  exact⟨trivial,by omega⟩
theorem jsP:∀ (k:Nat) (a b:vN),Lt a b->a.take k=b.take k->k<=a.length->k<=b.length->Lt (a.drop k) (b.drop k)
 | 0,a,b,h,_,_,_=>h
 | k+1,[],b,_,_,h,_=>by simp at h
 | k+1,x :: a,[],h,_,_,_=>absurd h (not_lt_nil _)
 | k+1,x :: a,y :: b,h,h1,h2,h3=>by
  simp only[dZ,List.cons.injEq]at h1;rcases jbG.1 h with h | h
  ·rw[h1.1]at h;exact absurd h (iL y)
  ·exact jsP k a b h.2 h1.2 (by simpa using h2) (by simpa using h3)
abbrev Pair.l(p:Pair):vN:=p.1.data.toList
structure jas(f:Nat)(l:vL):Prop where
 size:∀ p∈l,p.1.size<=f/\p.1.size<=12/\jaB p.1=true/\0 < p.2.size/\p.2.size<=80
 rise:l.Pairwise fun p q=>Lt p.l q.l
theorem jcO(b:vB)(k n:Nat)(h:b.size<=n):(b.extract k n).data.toList=b.data.toList.drop k:=by
 rw[dA,fL,dU,bN];rw[gG];have:b.data.toList.length=b.size:=rfl;omega
theorem ja3(b:vB)(k:Nat):(b.extract k b.size).size=b.size - k:=by rw[cL];omega
theorem jbv{b:vB}(h:jaB b=true)(k n:Nat):jaB (b.extract k n)=true:=by
 unfold jaB at *;rw[fB]at *;intro x e;refine h x ?_;rw[dA,fL,dU]at e;exact List.mem_of_mem_drop (iJ e)
def pd:Pair:=(⟨#[]⟩,⟨#[]⟩)
def comK(l:vL):Nat:=jal (l.getD 0 pd).1 (l.getD (l.length - 1) pd).1
theorem jca{l:vL}{R:Pair->Pair->Prop}(h:l.Pairwise R){i j:Nat}{p q:Pair}(hij:i < j)(hi:l[i]?=some p)(hj:l[j]?=some q):R p q:=by
 obtain⟨e,rfl⟩:=bP.1 hi
 obtain⟨o,rfl⟩:=bP.1 hj
 exact gU.1 h i j e o hij
theorem jbl{f:Nat}{l:vL}(h:jas f l)(h2:2<=l.length):∀ p∈l,p.l.take (comK l)=(l.getD 0 pd).l.take (comK l)/\comK l<=p.1.size:=by
 intro p J
 obtain⟨i,e⟩:=gR J
 have K:=(bP.1 e).1
 obtain⟨a,o⟩:∃ a,l[0]?=some a:=⟨_,bA vO⟩
 obtain⟨b,hb⟩:∃ b,l[l.length - 1]?=some b:=⟨_,bA vO⟩
 have z:l.getD 0 pd=a:=by rw[bG,o];rfl
 have O:l.getD (l.length - 1) pd=b:=by rw[bG,hb];rfl
 have Q:comK l=ja0 a.l b.l:=by unfold comK jal;rw[z,O]
 obtain⟨A,E,H⟩:=jbg a.l b.l
 rw[Q,z]
 by_cases h0:i=0
 ·subst h0;rw[o]at e;obtain rfl:=bS e;exact⟨rfl,E⟩
 ·by_cases hn:i=l.length - 1
  ·subst hn;rw[hb]at e;obtain rfl:=bS e;exact⟨A.symm,H⟩
  ·exact jrH _ a.l p.l b.l (jca h.rise vO o e) (jca h.rise vO e hb) A E H
theorem jb9{f:Nat}{l:vL}(k:Nat)(h:jas f l)(hk:∀ p∈l,∀ q∈l,p.l.take k=q.l.take k)(hs:∀ p∈l,k<=p.1.size):jas (f - k) (jak k l):=by
 refine⟨fun p e=>?_,?_⟩
 ·obtain⟨q,o,rfl⟩:=bJ.1 e
  obtain⟨J,K,A,E,H⟩:=h.size q o
  refine⟨?_,?_,jbv A _ _,E,H⟩
  ·show (q.1.extract k q.1.size).size<=_;rw[ja3];omega
  ·show (q.1.extract k q.1.size).size<=_;rw[ja3];omega
 ·unfold jak
  rw[List.pairwise_map];refine List.Pairwise.imp_of_mem (fun {p q} e o z=>?_) h.rise;show Lt (p.1.extract k p.1.size).data.toList (q.1.extract k q.1.size).data.toList;rw[jcO _ _ _ (bL _),jcO _ _ _ (bL _)];exact jsP k _ _ z (hk p e q o) (hs p e) (hs q o)
theorem jbz{i:Nat}{l:vL}{p:Pair}(h:p∈cutL i l):p∈l/\∃ a r,p.l=a :: r/\a.toNat=i:=by
 obtain⟨o,e⟩:=cM.1 h
 refine⟨o,?_⟩
 unfold jeU at e;cases hp:p.1.data.toList with
 | nil=>rw[hp]at e;cases e
 | cons a r=>rw[hp]at e;exact⟨a,r,hp,by simpa using e⟩
theorem jr3{f:Nat}{l:vL}(i:Nat)(h:jas f l):jas f (cutL i l):=
 ⟨fun p e=>h.size p (jbz e).1,List.Pairwise.filter _ h.rise⟩
theorem jdq{f:Nat}{l:vL}(i:Nat)(h:jas f l):jas (f - 1) (jak 1 (cutL i l)):=by
 refine jb9 1 (jr3 i h) (fun p e q A=>?_) (fun p e=>?_)
 ·obtain⟨_,a,r,o,z⟩:=jbz e
  obtain⟨_,b,t,E,H⟩:=jbz A
  rw[o,E,dP.1 (z.trans H.symm)];rfl
 ·obtain⟨_,a,r,o,z⟩:=jbz e
  show 1<=p.1.data.toList.length;rw[show p.1.data.toList=a :: r from o];simp
def jap(B:vL->PT)(l:vL):jad:=
 if l.length=0 then jaG
 else if l.length=1 then ⟨1,(l.getD 0 pd).1,(l.getD 0 pd).2,jam 16⟩
 else if 0 < comK l then ⟨2,(l.getD 0 pd).1.extract 0 (comK l),⟨#[]⟩,refB (B (jak (comK l) l)).text :: jam 15⟩
 else ⟨3,⟨#[]⟩,if (l.getD 0 pd).1.size=0 then (l.getD 0 pd).2 else ⟨#[]⟩,(List.range 16).map fun i=>if (cutL i l).length=0 then ⟨#[]⟩else refB (B (jak 1 (cutL i l))).text⟩
def jav(B:vL->PT)(l:vL):List PT:=
 if l.length<=1 then []
 else if 0 < comK l then jbF (B (jak (comK l) l))
 else (List.range 16).flatMap fun i=>if (cutL i l).length=0 then []else jbF (B (jak 1 (cutL i l)))
def jac:Nat->vL->PT
 | 0,_=>.mk ⟨#[]⟩ []
 | f+1,l=>.mk (jaP (jap (jac f) l)) (jav (jac f) l)
theorem jas.mono{f g:Nat}{l:vL}(h:jas f l)(hg:f<=g):jas g l:=⟨fun p e=>by obtain⟨z,o⟩:=h.size p e;exact⟨by omega,o⟩,h.rise⟩
theorem ji3:∀ (l:vM) (i j:Nat) (r:vB),l[j]?=some r->r.size≠0->(i+j,r)∈jay i l
 | [],i,j,r,h,_=>by simp at h
 | x :: l,i,0,r,h,h0=>by
  simp at h;subst h;unfold jay;rw[if_neg h0];exact bH ..
 | x :: l,i,j+1,r,h,h0=>by
  have:=ji3 l (i+1) j r (by simpa using h) h0
  rw[show i+(j+1)=i+1+j by omega];unfold jay;split
  ·exact this
  ·exact bE _ this
theorem jAN{α:Type}{a b:α}{l:List α}(ha:a∈l)(hb:b∈l)(h:a≠b):2<=l.length:=by
 match l,ha,hb with
 | [x],ha,hb =>
  rw[bZ]at ha hb;exact absurd (ha.trans hb.symm) h
 | x :: y :: r,_,_=>simp
theorem jAo{α:Type}{a:α}{l:List α}(ha:a∈l):1<=l.length:=by cases l <;> simp at ha ⊢
structure jdO(f:Nat)(T:PT)(n:jad):Prop where
 text:T.text=jaP n
 good:jbT (InlD f) n
 kind:n.kind≠0
 small:T.text.size < 32->T.kids=[]
theorem jdO.may{f:Nat}{T:PT}{n:jad}(h:jdO f T n):MayP (InlD (f+1)) (refB T.text)/\(T.text.size < 32->InlD (f+1) (refB T.text) n):=by
 by_cases hs:T.text.size < 32
 ·have e:refB T.text=jaP n:=by unfold refB;rw[if_pos hs,h.text]
  have o:InlD (f+1) (refB T.text) n:=by rw[e];exact⟨h.good,rfl,by rw[<-h.text];exact hs,h.kind⟩
  exact⟨.inr ⟨n,o⟩,fun _=>o⟩
 ·exact⟨.inl ⟨shaB T.text,jbk _,by unfold refB;rw[if_neg hs]⟩,fun h=>absurd h hs⟩
theorem MayP.pos{f:Nat}{r:vB}(h:MayP (InlD f) r):r.size≠0:=by
 rcases h with h |⟨m,h⟩
 ·rw[h.size];omega
 ·exact (inlP f).pos r m h
theorem jdO.kid{f:Nat}{T:PT}{n:jad}(h:jdO f T n):jxb T:=by
 have e:=h.good.one (inlP f)
 refine⟨by have:=jhu n e;rw[h.text];omega,h.small,fun A=>?_⟩
 obtain⟨xs,o,z⟩:=jjW n e h.kind
 rw[h.text,o];exact jl7 xs z
theorem jv6{T:PT}(h:¬ T.text.size < 32):(refB T.text).size=33:=by
 have:je7 (refB T.text):=⟨shaB T.text,jbk _,by unfold refB;rw[if_neg h]⟩
 exact this.size
theorem jhV:∀ (l:vM) (x:vB),x∈l->x.size<=(catB l).size
 | y :: l,x,h=>by
  rw[ja8];rcases bM.1 h with rfl | h
  ·omega
  ·have:=jhV l x h;omega
theorem jkJ(xs:vM):(catB xs).size<=(jbb xs).size:=by unfold jbb;rw[bU];omega
theorem jjJ{k:Nat}{l:vL}{i:Nat}(h:i < l.length):(jak k l).getD i pd=((l.getD i pd).1.extract k (l.getD i pd).1.size,(l.getD i pd).2):=by
 unfold jak;rw[bG,cA,bG,bA h];rfl
theorem jaJ(k:Nat)(l:vL):(jak k l).length=l.length:=by simp[jak]
theorem jgz{l:vL}(h:0 < l.length):comK (jak (comK l) l)=0:=by
 have e:comK (jak (comK l) l)=ja0 (((l.getD 0 pd).l).drop (comK l)) (((l.getD (l.length - 1) pd).l).drop (comK l)):=by
  conv=>lhs;unfold comK
  rw[jaJ,jjJ h,jjJ vO];unfold jal;simp only;rw[jcO _ _ _ (bL _),jcO _ _ _ (bL _)];rfl
 rw[e];exact jik _ _
theorem jfi{p:Pair}(h:jaB p.1=true){a:vU}{r:vN}(hp:p.l=a :: r):a.toNat < 16:=by
 have:a<=15:=of_decide_eq_true (fB.1 h a (by rw[show p.1.data.toList=a :: r from hp];exact bH ..))
 have:=dY.1 this
 have e:(15:vU).toNat=15:=rfl;omega
theorem good:∀ (f:Nat) (l:vL),jas f l->jbT (InlD f) (jap (jac f) l)/\(l≠[]->jdO f (jac (f+1) l) (jap (jac f) l))/\(2<=l.length->comK l=0->(jap (jac f) l).kind=3):=by
 intro f;induction f with
 | zero =>
  intro l h;have hl:l.length<=1:=by
   rcases fQ l.length 2 with h2 | h2
   ·omega
   ·obtain⟨a,ha⟩:∃ a,l[0]?=some a:=⟨_,bA vO⟩
    obtain⟨b,hb⟩:∃ b,l[1]?=some b:=⟨_,bA vO⟩
    have o:=jca h.rise vO ha hb
    have:=(h.size b (bI hb)).1
    rw[show b.l=[]from bD (by show b.1.size=0;omega)]at o;exact absurd o (not_lt_nil _)
  by_cases J:l.length=0
  ·have e:jap (jac 0) l=jaG:=by unfold jap;rw[if_pos J]
   rw[e]
   exact⟨.none,fun hn=>absurd (bD J) hn,fun h2=>by omega⟩
  ·have h1:l.length=1:=vO
   obtain⟨p,E⟩:=vE (l.getD 0 pd)
   have e:jap (jac 0) l=⟨1,p.1,p.2,jam 16⟩:=by unfold jap;rw[if_neg J,if_pos h1,E]
   have a2:p∈l:=by rw[E,bG,bA vO];exact dG _
   obtain⟨s1,s2,s3,s4,s5⟩:=h.size p a2
   have K:jbT (InlD 0) ⟨1,p.1,p.2,jam 16⟩:=.leaf p.1 p.2 (by simp[jad.pathOk,s2,s3]) s4 s5;rw[e]
   exact⟨K,fun _=>⟨by unfold jac;rw[e];rfl,K,by simp,fun _=>by unfold jac jav;rw[if_pos vO];rfl⟩,fun h2=>by omega⟩
 | succ f ih =>
  intro l h
  by_cases J:l.length=0
  ·have e:jap (jac (f+1)) l=jaG:=by unfold jap;rw[if_pos J]
   rw[e]
   exact⟨.none,fun hn=>absurd (bD J) hn,fun h2=>by omega⟩
  by_cases h1:l.length=1
  ·obtain⟨p,E⟩:=vE (l.getD 0 pd)
   have e:jap (jac (f+1)) l=⟨1,p.1,p.2,jam 16⟩:=by unfold jap;rw[if_neg J,if_pos h1,E]
   have a2:p∈l:=by rw[E,bG,bA vO];exact dG _
   obtain⟨s1,s2,s3,s4,s5⟩:=h.size p a2
   have K:jbT (InlD (f+1)) ⟨1,p.1,p.2,jam 16⟩:=.leaf p.1 p.2 (by simp[jad.pathOk,s2,s3]) s4 s5;rw[e]
   exact⟨K,fun _=>⟨by unfold jac;rw[e];rfl,K,by simp,fun _=>by unfold jac jav;rw[if_pos vO];rfl⟩,fun h2=>by omega⟩
  have h2:2<=l.length:=vO
  have A:=jbl h h2
  obtain⟨a,ha⟩:∃ a,l[0]?=some a:=⟨_,bA vO⟩
  obtain⟨b,hb⟩:∃ b,l[l.length - 1]?=some b:=⟨_,bA vO⟩
  have ga:l.getD 0 pd=a:=by rw[bG,ha];rfl
  have gb:l.getD (l.length - 1) pd=b:=by rw[bG,hb];rfl
  have o:=jca h.rise vO ha hb
  obtain⟨c3,c4,b3,c5,b4⟩:=h.size a (bI ha)
  obtain⟨c6,c7,c8,c9,d0⟩:=h.size b (bI hb)
  by_cases hk:0 < comK l
  ·have b5:jas f (jak (comK l) l):=(jb9 (comK l) h (fun p E q hq=>(A p E).1.trans (A q hq).1.symm) (fun p E=>(A p E).2)).mono vO
   obtain⟨_,i2,i3⟩:=ih _ b5
   have a8:=i2 (fun e=>by have:=jaJ (comK l) l;rw[e]at this;simp at this;omega);have b6:=i3 (by rw[jaJ];omega) (jgz vO);have e:jap (jac (f+1)) l=⟨2,a.1.extract 0 (comK l),⟨#[]⟩,refB (jac (f+1) (jak (comK l) l)).text :: jam 15⟩:=by unfold jap;rw[if_neg J,if_neg h1,if_pos hk,ga]
   have d1:=(A a (bI ha)).2;have b7:(a.1.extract 0 (comK l)).size=comK l:=by rw[cL];omega
   have K:jbT (InlD (f+1)) (jap (jac (f+1)) l):=by
    rw[e];refine .ext _ _ ?_ a8.may.1.pos ?_
    ·simp[jad.pathOk,b7,jbv b3];omega
    ·by_cases hs:(jac (f+1) (jak (comK l) l)).text.size < 32
     ·exact .inr ⟨_,a8.may.2 hs,b6⟩
     ·exact .inl ⟨_,jbk _,by unfold refB;rw[if_neg hs]⟩
   refine⟨K,fun _=>⟨rfl,K,by rw[e];simp,fun O=>?_⟩,fun _ a3=>by omega⟩
   have Q:(jac (f+1+1) l).kids=jbF (jac (f+1) (jak (comK l) l)):=by
    show jav (jac (f+1)) l=_;unfold jav;rw[if_neg vO,if_pos hk]
   rw[Q];unfold jbF;rw[if_pos];rcases fQ (jac (f+1) (jak (comK l) l)).text.size 32 with hx | hx
   ·exact hx
   ·have b8:=jv6 (T:=jac (f+1) (jak (comK l) l)) vO
    have ht:(jac (f+1+1) l).text=extB (jap (jac (f+1)) l):=by show jaP (jap (jac (f+1)) l)=_;rw[e];rfl
    rw[ht,e]at O
    have:=jkJ [jan (putB (a.1.extract 0 (comK l)) false),refB (jac (f+1) (jak (comK l) l)).text]
    have:=jhV [jan (putB (a.1.extract 0 (comK l)) false),refB (jac (f+1) (jak (comK l) l)).text] _ (bE _ (bH ..))
    have a0:(jbb [jan (putB (a.1.extract 0 (comK l)) false),refB (jac (f+1) (jak (comK l) l)).text]).size < 32:=O;omega
  ·obtain⟨H,X⟩:=vE ((List.range 16).map fun i=>if (cutL i l).length=0 then (⟨#[]⟩:vB)else refB (jac (f+1) (jak 1 (cutL i l))).text)
   have e:jap (jac (f+1)) l=⟨3,⟨#[]⟩,if a.1.size=0 then a.2 else ⟨#[]⟩,H⟩:=by unfold jap;rw[if_neg J,if_neg h1,if_neg hk,ga,X]
   have a1:∀ i,(cutL i l).length≠0->jdO f (jac (f+1) (jak 1 (cutL i l))) (jap (jac f) (jak 1 (cutL i l))):=fun i hi =>
    (ih _ (jdq i h)).2.1 (fun e=>by have:=jaJ 1 (cutL i l);rw[e]at this;simp at this;omega)
   have a9:H.length=16:=by rw[X];simp
   have b0:∀ i,i < 16->H[i]?=some (if (cutL i l).length=0 then (⟨#[]⟩:vB)else refB (jac (f+1) (jak 1 (cutL i l))).text):=fun i hi=>by
    rw[X,cA,fA hi];rfl
   have a5:∀ r∈H,r.size≠0->MayP (InlD (f+1)) r:=by
    intro r hr b1;rw[X]at hr
    obtain⟨i,_,rfl⟩:=bJ.1 hr
    by_cases hi:(cutL i l).length=0
    ·rw[if_pos hi]at b1;exact absurd rfl b1
    ·rw[if_neg hi];exact (a1 i hi).may.1
   have a4:∀ (p:Pair) (x:vU) (r:vN),p∈l->p.l=x :: r->∃ y,(x.toNat,y)∈jay 0 H:=by
    intro p x r E b2;have hx:=jfi (h.size p E).2.2.1 b2;have hc:(cutL x.toNat l).length≠0:=by
     intro J;have hm:p∈cutL x.toNat l:=cM.2 ⟨E,by unfold jeU;rw[show p.1.data.toList=x :: r from b2];simp⟩;rw[bD J]at hm;cases hm
    have h5:=b0 x.toNat hx;rw[if_neg hc]at h5
    have:=ji3 H 0 x.toNat _ h5 (a1 _ hc).may.1.pos
    rw[cG]at this
    exact⟨_,this⟩
   have d2:comK l=ja0 a.l b.l:=by unfold comK jal;rw[ga,gb]
   have a3:ja0 a.l b.l=0:=vO
   have Z:2<=min (if a.1.size=0 then a.2 else (⟨#[]⟩:vB)).size 1+(jay 0 H).length:=by
    cases hal:a.l with
    | nil =>
     have b9:a.1.size=0:=by show a.1.data.toList.length=0;rw[show a.1.data.toList=[]from hal];rfl
     rw[if_pos b9];cases hbl:b.l with
     | nil=>rw[hbl]at o;exact absurd o (not_lt_nil _)
     | cons y r =>
      obtain⟨z,hz⟩:=a4 b y r (bI hb) hbl
      have:=jAo hz
      omega
    | cons x r =>
     cases hbl:b.l with
     | nil=>rw[hbl]at o;exact absurd o (not_lt_nil _)
     | cons y t =>
      obtain⟨z,hz⟩:=a4 a x r (bI ha) hal
      obtain⟨z',c0⟩:=a4 b y t (bI hb) hbl
      have c1:x≠y:=by
       intro e;rw[hal,hbl,e]at a3;simp[ja0]at a3
      have:=jAN hz c0 (fun e=>c1 (dP.1 (Prod.mk.inj e).1))
      omega
   have K:jbT (InlD (f+1)) (jap (jac (f+1)) l):=by
    rw[e];refine .branch _ _ a9 ?_ a5 Z;split
    ·exact b4
    ·exact cE _
   refine⟨K,fun _=>⟨rfl,K,by rw[e];simp,fun O=>?_⟩,fun _ _=>by rw[e]⟩
   have Q:(jac (f+1+1) l).kids=(List.range 16).flatMap fun i=>if (cutL i l).length=0 then []else jbF (jac (f+1) (jak 1 (cutL i l))):=by
    show jav (jac (f+1)) l=_;unfold jav;rw[if_neg vO,if_neg hk]
   rw[Q,List.flatMap_eq_nil_iff];intro i hi;have a6:=dW.1 hi
   by_cases hc:(cutL i l).length=0
   ·rw[if_pos hc]
   ·rw[if_neg hc]
    unfold jbF;rw[if_pos];rcases fQ (jac (f+1) (jak 1 (cutL i l))).text.size 32 with hx | hx
    ·exact hx
    ·have b8:=jv6 (T:=jac (f+1) (jak 1 (cutL i l))) vO
     have ht:(jac (f+1+1) l).text=jec (jap (jac (f+1)) l):=by show jaP (jap (jac (f+1)) l)=_;rw[e];rfl
     rw[ht,e]at O;have h6:=b0 i a6;rw[if_neg hc]at h6;have c2:jbP ⟨3,⟨#[]⟩,if a.1.size=0 then a.2 else ⟨#[]⟩,H⟩=ja7 H (if a.1.size=0 then a.2 else ⟨#[]⟩):=jdF _ a9;have a7:refB (jac (f+1) (jak 1 (cutL i l))).text∈ja7 H (if a.1.size=0 then a.2 else ⟨#[]⟩):=by
      unfold ja7;refine fE _ (bJ.2 ⟨_,bI h6,?_⟩);rw[if_neg vO]
     have h7:=jhV _ _ a7;have h8:=jkJ (ja7 H (if a.1.size=0 then a.2 else ⟨#[]⟩));have a0:(jbb (jbP ⟨3,⟨#[]⟩,if a.1.size=0 then a.2 else ⟨#[]⟩,H⟩)).size < 32:=O;rw[c2]at a0;omega
def jie(l:vL)(T:PT):Prop:=∀ (w:vW) (v:vV),jbY w->RdP w v l->vQ 25 #[v] w fun e w'=>∃ k,e=.returned (ptrV k)/\jbN (fun x=>w.heap.size<=x) T k w'/\Ext w w'
theorem jvt(w:vW)(W1 W2:vW)(bn:Nat)(h1:W1=w.alloc (.cells #[.string ⟨#[]⟩,.slice none 0 0] 90))(h2:Ext W1 W2)(h3:bn=W1.heap.size)(h4:bn < W2.heap.size):jdN w W2 w.heap.size bn ⟨#[]⟩ [] (.slice none 0 0) []:=by
 have z:W1.heap.size=w.heap.size+1:=by rw[h1,bR]
 have o:Ext w W2:=(by rw[h1]at h2;exact ((ExtR w).alloc _).trans h2)
 refine⟨?_,bL _,ORow.nil _ _ o,fun _=>rfl,fun e=>(by cases e),by omega,fun e=>(by cases e),by omega,h4,by unfold jaY;rfl⟩
 rw[h1]at h2;exact (Blk.new w _).keeps h2 (fun h=>h)
theorem jqg(f:Nat)(l:vL)(h0:l.length=0):jie l (jac (f+1) l):=by
 intro w v hc hv
 obtain⟨a,c,O⟩:=hv.sl
 rw[h0]at O;subst O;have ht:jac (f+1) l=.mk (jaP jaG) []:=by
  show PT.mk (jaP (jap _ l)) (jav _ l)=_;unfold jap jav;rw[if_pos h0,if_pos vO]
 rw[ht];clear hv hc h0
 obtain⟨W1,z⟩:=vE (w.alloc (.cells #[.string ⟨#[]⟩,.slice none 0 0] 90))
 have Z:=Hd z;go_enter Tryz.func25,Tryz.ntmps25;go_wp2_with (first |(refine jaj Tryz.allocNode rfl rfl ?_;intro W3 Q H;refine jai (vs:=jaG.cells) rfl rfl rfl rfl Q rfl Tryz.szNode (jad.one _) ?_;intro W4 A J;simp only[bR]at A J) |(refine jae 94 (.tmp 4) rfl rfl _ _ rfl (jao _ _ jaG rfl A) ?_))
 have E:Ext W1 W4:=by
  rw[<-z]at H;exact H.trans' J (fun x hx e=>by have e:x=w.heap.size+1:=e;rw[z,bR]at hx;omega)
 have HH:=Hd (jvt w W1 W4 (w.heap.size+1) z E (by rw[z,bR]) A.lt);have HG:=Hd (jbT.none (I:=InlD f));clear H J Q z Z ht;unfold jad.V;refine vH (jjX (inlP f) _ jaG HG.o) fun w9 hE=>?_;have X:=HH.o.ext hE;have q0:w9.cell? ⟨w.heap.size,0,none⟩=some (.string ⟨#[]⟩):=X.blk.cell (i:=0) vF;have f0:w9.frozen? ⟨w.heap.size,0,none⟩=false:=X.blk.frozen;have H9:=Hd (X.setText (jaP jaG))
 obtain⟨tx,K⟩:=vE (jaP jaG)
 rw[<-K]at H9 ⊢;have a0:=Hd K;clear X K A E;go_wp2_with fail
 go_ret
 exact⟨w.heap.size,rfl,by rw[<-a0.o];exact H9.o.part,H9.o.row.ext⟩
theorem jrO(f:Nat)(l:vL)(E:l.length=1)(hok:jas f l):jie l (jac (f+1) l):=by
 intro w v hc hv
 obtain⟨p,hp⟩:∃ p,l=[p]:=by
  match l,E with
  | [p],_=>exact⟨p,rfl⟩
 have hn:jap (jac f) l=⟨1,p.1,p.2,jam 16⟩:=by unfold jap;rw[if_neg vO,if_pos E,hp];rfl
 have z:=(good f l hok).1;rw[hn]at z;have ht:jac (f+1) l=.mk (jaP ⟨1,p.1,p.2,jam 16⟩) []:=by
  show PT.mk (jaP (jap _ l)) (jav _ l)=_;rw[hn];unfold jav;rw[if_pos vO]
 obtain⟨T,hT⟩:=vE (jac (f+1) l)
 rw[<-hT]at ht ⊢;have HT:=Hd ht;rcases hv with⟨_,_,_,h0⟩ |⟨b,o,c,rfl,hb,hcl,hcell⟩
 ·rw[h0]at E;cases E
 obtain⟨q1,q2⟩:=hcell 0 p (by rw[hp];rfl)
 rw[gE,fR]at q1 q2;rw[E]at hcl ⊢
 obtain⟨x,y⟩:=p
 have z:=z;have Q1:=Hd q1;have Q2:=Hd q2;have HG:=Hd z
 obtain⟨W1,A⟩:=vE (w.alloc (.cells #[.string ⟨#[]⟩,.slice none 0 0] 90))
 clear hc E hok hp hn z ht hT hcell q1 q2;go_enter Tryz.func25,Tryz.ntmps25;go_wp2_with (refine jaj Tryz.allocNode rfl rfl ?_;intro W3 a0 Q;refine jai (vs:=jaG.cells) rfl rfl rfl rfl a0 rfl Tryz.szNode (jad.one _) ?_;intro W4 H X;simp only[bR]at H X)
 have O:Ext W1 W4:=by
  rw[<-A]at Q;exact Q.trans' X (fun x hx e=>by have e:x=w.heap.size+1:=e;rw[A,bR]at hx;omega)
 have hh:=jvt w W1 W4 (w.heap.size+1) A O (by rw[A,bR]) H.lt;have J:=Hd hh;have a1:=Hd H;clear Q X a0 A H O hh;refine jaz [0,1,2,3,4,5,6,7,8,9] [9] Ext ExtR ExtT vY vY vY ?_;iterate 3 refine vP ?_
 refine qL ⟨b,o,none⟩ _ rfl (fun w1 E=>jab Tryz.uStr rfl (jaa (jaa (by exact Q1.o) (J.o.row.ext.trans (jah _))) E)) ?_;refine vS ?_;iterate 3 refine vP ?_
 refine qL ⟨b,o+1,none⟩ _ rfl (fun w1 E=>jab Tryz.uStr rfl (jaa (jaa (by exact Q2.o) (J.o.row.ext.trans (jah _))) E)) ?_;refine vS ?_
 refine vP ?_
 refine qH _ rfl (fun w5 he K hK=>?_);have hX:=(jah W4).trans he;refine jjj (vs:=jcd 1 x y ⟨#[]⟩) rfl rfl rfl (a1.o.keeps hX (fun h=>h)) rfl Tryz.szNode (jce _ _ _ _) ?_;intro W6 a2 a3;have H6:=Hd ((J.o.ext hX).other a3);have a4:=Hd (show Blk W6 (w.heap.size+1) (.cells (jad.cells ⟨1,x,y,jam 16⟩).toArray 94)from a2);clear he hX a2 a3 Q1 Q2 a1 J;refine vS ?_;refine hK _ _ ?_;clear hK K;refine qE (fun w7 he=>?_);have HH:=Hd (H6.o.ext he);have a5:=a4.o.keeps he (fun h=>h);clear he a4 H6;go_wp2_with (refine jae 94 (.tmp 4) rfl rfl _ _ rfl (jao _ _ ⟨1,x,y,jam 16⟩ rfl a5) ?_)
 refine vH (jjX (inlP _) _ ⟨1,x,y,jam 16⟩ HG.o) fun w9 hE=>?_;have h9:=HH.o.ext hE;have q0:w9.cell? ⟨w.heap.size,0,none⟩=some (.string ⟨#[]⟩):=h9.blk.cell (i:=0) vF;have f0:w9.frozen? ⟨w.heap.size,0,none⟩=false:=h9.blk.frozen;have H9:=Hd (h9.setText (jaP ⟨1,x,y,jam 16⟩))
 obtain⟨tx,Z⟩:=vE (jaP ⟨1,x,y,jam 16⟩)
 rw[<-Z]at H9 ⊢;have a6:=Hd Z;clear h9 Z;go_wp2_with fail
 go_ret
 exact⟨w.heap.size,rfl,by rw[HT.o, <-a6.o];exact H9.o.part,H9.o.row.ext⟩
theorem jrN(f:Nat)(l:vL)(J:2<=l.length)(hln:l.length<=1000)(hok:jas (f+1) l)(hk:0 < comK l)(HB:jie (jak (comK l) l) (jac (f+1) (jak (comK l) l))):jie l (jac (f+1+1) l):=by
 intro w v hc hv
 obtain⟨a,ha⟩:∃ a,l[0]?=some a:=⟨_,bA vO⟩
 obtain⟨z,hz⟩:∃ z,l[l.length - 1]?=some z:=⟨_,bA vO⟩
 have ga:l.getD 0 pd=a:=by rw[bG,ha];rfl
 have gz:l.getD (l.length - 1) pd=z:=by rw[bG,hz];rfl
 obtain⟨f4,f5,d2,f6,f7⟩:=hok.size a (bI ha)
 obtain⟨f8,f9,d3,g0,g1⟩:=hok.size z (bI hz)
 have E:=(good (f+1) l hok).1;have d4:=hv;rcases hv with⟨_,_,_,h0⟩ |⟨b,o,c,rfl,hb,hcl,hcell⟩
 ·rw[h0]at J;simp at J
 obtain⟨q1,b3⟩:=hcell 0 a ha
 rw[gE,fR]at q1 b3
 obtain⟨q2,_⟩:=hcell (l.length - 1) z hz
 obtain⟨A,K⟩:=vE (comK l)
 have b4:A=jal a.1 z.1:=by rw[K];unfold comK;rw[ga,gz]
 obtain⟨x,y⟩:=a
 obtain⟨xb,yb⟩:=z
 simp only at f4 f5 d2 f6 f7 f8 f9 d3 g0 g1 q1 b3 q2 b4;have X:=jb9 (comK l) hok (fun p hp q hq=>((jbl hok J p hp).1).trans (jbl hok J q hq).1.symm) (fun p hp=>(jbl hok J p hp).2);have a4:=(jbl hok J (x,y) (bI ha)).2;have d5:∀ p∈l,A<=p.1.size/\p.1.size<=1000000:=fun p hp=>⟨by rw[K];exact (jbl hok J p hp).2,by have:=(hok.size p hp).2.1;omega⟩;rw[<-K]at hk X a4 HB;have a4:A<=x.size:=a4
 obtain⟨T',a5⟩:∃ T',T'=jac (f+1) (jak A l):=⟨_,rfl⟩
 have b5:=(good f _ (X.mono vO)).2.1 (fun e=>by have:=jaJ A l;rw[e]at this;simp at this;omega);rw[<-a5]at HB b5
 obtain⟨r,hr⟩:=vE (refB T'.text)
 have hn:jap (jac (f+1)) l=⟨2,x.extract 0 A,⟨#[]⟩,r :: jam 15⟩:=by unfold jap;rw[if_neg vO,if_neg vO, <-K,if_pos hk,ga, <-a5, <-hr]
 rw[hn]at E;have ht:jac (f+1+1) l=.mk (jaP ⟨2,x.extract 0 A,⟨#[]⟩,r :: jam 15⟩) (jbF T'):=by
  show PT.mk (jaP (jap _ l)) (jav _ l)=_;rw[hn];unfold jav;rw[if_neg vO, <-K,if_pos hk, <-a5]
 obtain⟨T,hT⟩:=vE (jac (f+1+1) l)
 rw[<-hT]at ht ⊢;have c0:((l.length:Int) == 0)=false:=by simp;exact fun e=>by rw[e]at J;simp at J
 have c1:¬(l.length:Int)=0:=vO
 have c2:((l.length:Int) == 1)=false:=by simp;omega
 have c3:¬(l.length:Int)=1:=vO
 have c4:(0:Int)<=(l.length:Int) - 1:=vO
 have c5:(l.length:Int) - 1 < (l.length:Int):=vO
 have c6:((l.length:Int) - 1).toNat=l.length - 1:=vO
 have c7:(0:Int) < (l.length:Int):=vO
 have d7:0 < l.length:=vO
 have d0:0 < A:=hk;have e0:(0:Int) < (A:Int):=vO
 have e1:(A:Int)<=(x.size:Int):=vO
 have e2:(x.extract 0 A).size=A:=by rw[cL];omega
 have HT:=Hd ht;have Q1:=Hd q1;have Q2:=Hd q2;have d6:=Hd b4;have HG:=Hd E;have g2:=Hd d4;have g3:=Hd d5;have b9:=Hd b5.kid;have HR:=Hd hr;have g4:=Hd HB;have HC:=Hd hc;have HL:=Hd (show jak A l≠[]from fun e=>by have:=jaJ A l;rw[e]at this;simp at this;omega);have g5:=Hd (show (jak A l).length<=1000000 by rw[jaJ];omega);clear hc ha hz ga gz hok E d4 hcell q1 b3 q2 K b4 X a4 d5 a5 b5 hr hn ht hT HB d2 d3 e2
 obtain⟨W1,Z⟩:=vE (w.alloc (.cells #[.string ⟨#[]⟩,.slice none 0 0] 90))
 go_enter Tryz.func25,Tryz.ntmps25;go_wp2_with (refine jaj Tryz.allocNode rfl rfl ?_;intro W3 d8 b6;refine jai (vs:=jaG.cells) rfl rfl rfl rfl d8 rfl Tryz.szNode (jad.one _) ?_;intro W4 a6 b7;simp only[bR]at a6 b7)
 have a0:Ext W1 W4:=by
  rw[<-Z]at b6;exact b6.trans' b7 (fun x hx e=>by have e:x=w.heap.size+1:=e;rw[Z,bR]at hx;omega)
 have hh:=jvt w W1 W4 (w.heap.size+1) Z a0 (by rw[Z,bR]) a6.lt;have d9:=Hd hh;have e3:=Hd a6;have Q:=Hd hh.row.ext;clear b6 b7 d8 Z a6 a0 hh;refine jag [0,1,2,3,4,5,6,7,8,9,10,11,12,13] Ext ExtR ExtT vY vY vY ?_;iterate 3 refine vK ?_
 refine qKL ⟨b,o,none⟩ _ rfl (fun w1 O=>jab Tryz.uStr rfl (jaa (jaa (by exact Q1.o) (Q.o.trans (jah _))) O)) ?_;refine vS ?_;iterate 6 refine vK ?_
 refine qKL ⟨b,o+(l.length - 1) * 2,none⟩ _ rfl (fun w1 O=>jab Tryz.uStr rfl (jaa (jaa (by exact Q2.o) (Q.o.trans (jah _))) O)) ?_;refine vS ?_;refine qKC _ 47 #[.string x,.string xb] (.int .i64 (A:Nat)) rfl (fun w1=>jaq (vX 47) vY) (fun w1 O=>by rw[d6.o];exact (jfA w1 x xb vO vO).mono (fun e w2 ⟨O,n,J⟩=>⟨O,by rw[J];exact (ExtR w1).drewN n⟩)) ?_;refine vS ?_;iterate 2 refine vK ?_
 refine qKE (fun w5 he=>?_);have a7:=(jah W4).trans he;have e4:=Hd (d9.o.ext a7);have e5:=Hd (e3.o.keeps a7 (fun h=>h));have Q:=Hd (Q.o.trans a7);clear he a7 d9 e3;go_wp2_with fail
 refine jag [0,1,2,3,4,5,6,7,8,9,10,11,12] Ext ExtR ExtT vY vY vY ?_;iterate 3 refine vK ?_
 refine qKL ⟨b,o,none⟩ _ rfl (fun w1 O=>jab Tryz.uStr rfl (jaa (jaa (by exact Q1.o) (Q.o.trans (jah _))) O)) ?_;refine vS ?_;iterate 6 refine vK ?_
 refine qKL ⟨b,o+(l.length - 1) * 2,none⟩ _ rfl (fun w1 O=>jab Tryz.uStr rfl (jaa (jaa (by exact Q2.o) (Q.o.trans (jah _))) O)) ?_;refine vS ?_;refine qKC _ 47 #[.string x,.string xb] (.int .i64 (A:Nat)) rfl (fun w1=>jaq (vX 47) vY) (fun w1 O=>by rw[d6.o];exact (jfA w1 x xb vO vO).mono (fun e w2 ⟨O,n,J⟩=>⟨O,by rw[J];exact (ExtR w1).drewN n⟩)) ?_;refine vS ?_
 refine vK ?_
 refine qKE (fun w6 he=>?_);have a9:=(jah w5).trans he;have g6:=Hd (e4.o.ext a9);have e6:=e5.o.keeps a9 (fun h=>h);have Q:=Hd (Q.o.trans a9);have q6:=jaa Q1.o Q.o;clear he a9 e4 e5;go_wp2_with (refine jai (vs:=jcd 2 (x.extract 0 A) ⟨#[]⟩ ⟨#[]⟩) rfl rfl rfl rfl e6 rfl Tryz.szNode (jce _ _ _ _) ?_;intro W7 e7 e8)
 have e9:=Hd (g6.o.other e8);have g7:=Hd e7;clear e7 e8 e6 q6;have Q:=Hd e9.o.row.ext;refine (jm7 W7 _ A l (g2.o.ext Q.o) vO g3.o).mono ?_;rintro e w8 ⟨v8,rfl,b0⟩;have b1:Ext W7 w8:=b0.ext;have g8:=Hd (e9.o.ext b1);have g9:=Hd (g7.o.keeps b1 (fun h=>h));have a1:=Hd b0.rd;have f1:=HC.o.ext (Q.o.trans b1)
 obtain⟨a8,c8,h3⟩:=b0.sl
 subst h3;clear b0 b1;go_wp2_with fail
 refine (jwT f1 g8.o (by simp) _ (jak A l) a1.o HL.o g5.o T' b9.o (g4.o w8 _ f1 a1.o)).mono ?_;rintro e b2 ⟨u,bs,rfl,f2,h5,c9,a2⟩;rw[<-HR.o];have H:=g9.o.keeps a2 (by rintro (h | h) <;> first | omega | cases h);have q3:b2.cell? ⟨w.heap.size+1,3,none⟩=some (.string ⟨#[]⟩):=H.cell (i:=3) vF;have f3:b2.frozen? ⟨w.heap.size+1,3,none⟩=false:=H.frozen;have a3:=H.set_same (i:=3) (.string r);have d1:Hid (Blk (b2.setCell ⟨w.heap.size+1,3,none⟩ (.string r)) (w.heap.size+1) (.cells (jad.cells ⟨2,x.extract 0 A,⟨#[]⟩,r :: jam 15⟩).toArray 94)):=Hd a3;have HH:=Hd (f2.other (jaf.oneSet b2 ⟨w.heap.size+1,3,none⟩ (.string r)));clear f2 c9 a2 H a3;go_wp2_with (refine jae 94 (.tmp 4) rfl rfl _ _ rfl (jao _ _ ⟨2,x.extract 0 A,⟨#[]⟩,r :: jam 15⟩ rfl d1.o) ?_)
 refine vH (jjX (inlP _) _ ⟨2,x.extract 0 A,⟨#[]⟩,r :: jam 15⟩ HG.o) fun w9 hE=>?_;have h9:=HH.o.ext hE;have q0:w9.cell? ⟨w.heap.size,0,none⟩=some (.string ⟨#[]⟩):=h9.blk.cell (i:=0) vF;have f0:w9.frozen? ⟨w.heap.size,0,none⟩=false:=h9.blk.frozen;have H9:=Hd (h9.setText (jaP ⟨2,x.extract 0 A,⟨#[]⟩,r :: jam 15⟩))
 obtain⟨tx,b8⟩:=vE (jaP ⟨2,x.extract 0 A,⟨#[]⟩,r :: jam 15⟩)
 rw[<-b8]at H9 ⊢;have h4:=Hd b8;clear h9 b8;go_wp2_with fail
 go_ret
 exact⟨w.heap.size,rfl,by rw[HT.o, <-h4.o];exact H9.o.part,H9.o.row.ext⟩
def ksK(B:vL->PT)(l:vL)(k:Nat):List PT:=(List.range k).flatMap fun i=>if (cutL i l).length=0 then []else jbF (B (jak 1 (cutL i l)))
theorem jh5(B:vL->PT)(l:vL)(k:Nat):ksK B l (k+1)=ksK B l k++(if (cutL k l).length=0 then []else jbF (B (jak 1 (cutL k l)))):=by
 unfold ksK;rw[fS,dR];simp
def jyZ(w:vW)(bn:Nat)(B:vL->PT)(l:vL)(rs:vM)(i:vV)(wr:vW):Prop:=∃ k:Nat,k<=16/\i=.int .i64 k/\∃ u bs,jdN w wr w.heap.size bn ⟨#[]⟩ (ksK B l k) u bs/\bs.length<=k/\Blk wr bn (.cells (brN rs k).cells.toArray 94)
theorem jbK{P:Program}{o:Oper}{a:Act}{w:vW}{K:Act->vW->Prop}{Q:Exit->Act->vW->Prop}{f:FuncId}{args:Array vV}(hv:(execOp a.eval o).run P w=.ok (.enter f args) w)(h:Calls P f args w (fun e z=>∃ v,e=.returned v/\K (a.put o.dst v) z)):o.wp P a w K Q:=by
 unfold Oper.wp;rw[hv];exact h.mono fun e z ⟨v,A,E⟩=>by subst A;exact E
theorem jlI(f:Nat)(l:vL)(h2:2<=l.length)(hln:l.length<=1000)(hok:jas (f+1) l)(hk:¬ 0 < comK l)(HB:∀ i,(cutL i l).length≠0->jie (jak 1 (cutL i l)) (jac (f+1) (jak 1 (cutL i l)))):jie l (jac (f+1+1) l):=by
 intro w v hc Z
 obtain⟨a,ha⟩:∃ a,l[0]?=some a:=⟨_,bA vO⟩
 obtain⟨z,hz⟩:∃ z,l[l.length - 1]?=some z:=⟨_,bA vO⟩
 have ga:l.getD 0 pd=a:=by rw[bG,ha];rfl
 have gz:l.getD (l.length - 1) pd=z:=by rw[bG,hz];rfl
 obtain⟨h8,i0,f1,i1,i2⟩:=hok.size a (bI ha)
 obtain⟨i3,i4,f3,i5,i6⟩:=hok.size z (bI hz)
 have J:=(good (f+1) l hok).1;have f4:=Z;rcases Z with⟨_,_,_,h0⟩ |⟨b,o,c,rfl,hb,hcl,hcell⟩
 ·rw[h0]at h2;simp at h2
 obtain⟨q1,a3⟩:=hcell 0 a ha
 rw[gE,fR]at q1 a3
 obtain⟨q2,_⟩:=hcell (l.length - 1) z hz
 obtain⟨kk,d1⟩:=vE (comK l)
 have d2:kk=jal a.1 z.1:=by rw[d1];unfold comK;rw[ga,gz]
 obtain⟨x,y⟩:=a
 obtain⟨xb,yb⟩:=z
 simp only at h8 i0 f1 i1 i2 i3 i4 f3 i5 i6 q1 a3 q2 d2
 obtain⟨E,b4⟩:=vE ((List.range 16).map fun i=>if (cutL i l).length=0 then (⟨#[]⟩:vB)else refB (jac (f+1) (jak 1 (cutL i l))).text)
 obtain⟨A,a0⟩:=vE (if x.size=0 then y else (⟨#[]⟩:vB))
 have hn:jap (jac (f+1)) l=⟨3,⟨#[]⟩,A,E⟩:=by unfold jap;rw[if_neg vO,if_neg vO,if_neg hk,ga,b4,a0]
 rw[hn]at J;have ht:jac (f+1+1) l=.mk (jaP ⟨3,⟨#[]⟩,A,E⟩) (ksK (jac (f+1)) l 16):=by
  show PT.mk (jaP (jap _ l)) (jav _ l)=_;rw[hn];unfold jav;rw[if_neg vO,if_neg hk];rfl
 obtain⟨T,hT⟩:=vE (jac (f+1+1) l)
 rw[<-hT]at ht ⊢;have f5:E.length=16:=by rw[b4];simp
 have f6:∀ i,i < 16->E[i]?=some (if (cutL i l).length=0 then (⟨#[]⟩:vB)else refB (jac (f+1) (jak 1 (cutL i l))).text):=fun i hi=>by
  rw[b4,cA,fA hi];rfl
 have a9:∀ i,(cutL i l).length≠0->jxb (jac (f+1) (jak 1 (cutL i l))):=fun i hi =>
  (((good f _ (jdq i hok)).2.1 (fun e=>by have:=jaJ 1 (cutL i l);rw[e]at this;simp at this;omega)).kid)
 have d3:∀ p∈l,p.1.size<=1000000:=fun p hp=>by have:=(hok.size p hp).2.1;omega
 have f8:∀ i,∀ p∈cutL i l,1<=p.1.size/\p.1.size<=1000000:=fun i p hp=>by
  obtain⟨hm,a',r',e',_⟩:=jbz hp
  exact⟨by show 1<=p.1.data.toList.length;rw[show p.1.data.toList=a' :: r' from e'];simp,d3 p hm⟩
 have f9:∀ i,(cutL i l).length<=1000:=fun i=>bK (dQ _ _) hln;have c0:((l.length:Int) == 0)=false:=by simp;exact fun e=>by rw[e]at h2;simp at h2
 have c1:¬(l.length:Int)=0:=vO
 have c2:((l.length:Int) == 1)=false:=by simp;omega
 have c3:¬(l.length:Int)=1:=vO
 have c4:(0:Int)<=(l.length:Int) - 1:=vO
 have c5:(l.length:Int) - 1 < (l.length:Int):=vO
 have c6:((l.length:Int) - 1).toNat=l.length - 1:=vO
 have c7:(0:Int) < (l.length:Int):=vO
 have d7:0 < l.length:=vO
 rw[<-d1]at hk;have d0:¬ 0 < kk:=hk;have e0:¬(0:Int) < (kk:Int):=vO
 have HT:=Hd ht;have Q1:=Hd q1;have i7:=Hd a3;have Q2:=Hd q2;have i8:=Hd d2;have HG:=Hd J;have i9:=Hd f4;have j0:=Hd d3;have j1:=Hd f8;have g0:=Hd f9;have e8:=Hd a9;have j2:=Hd f6;have a5:=Hd f5;have b0:=Hd a0;have j3:=Hd HB;have HC:=Hd hc;clear hc ha hz ga gz hok J f4 hcell q1 a3 q2 d1 d2 d3 f8 f9 a9 f6 f5 a0 b4 hn ht hT HB f1 f3
 obtain⟨W1,a6⟩:=vE (w.alloc (.cells #[.string ⟨#[]⟩,.slice none 0 0] 90))
 go_enter Tryz.func25,Tryz.ntmps25;go_wp2_with (refine jaj Tryz.allocNode rfl rfl ?_;intro W3 g1 d4;refine jai (vs:=jaG.cells) rfl rfl rfl rfl g1 rfl Tryz.szNode (jad.one _) ?_;intro W4 b5 d5;simp only[bR]at b5 d5)
 have b2:Ext W1 W4:=by
  rw[<-a6]at d4;exact d4.trans' d5 (fun x hx e=>by have e:x=w.heap.size+1:=e;rw[a6,bR]at hx;omega)
 have hh:=jvt w W1 W4 (w.heap.size+1) a6 b2 (by rw[a6,bR]) b5.lt;have g2:=Hd hh;have g3:=Hd b5;have HX:=Hd hh.row.ext;clear d4 d5 g1 a6 b5 b2 hh;refine jag [0,1,2,3,4,5,6,7,8,9,10,11,12,13] Ext ExtR ExtT vY vY vY ?_;iterate 3 refine vK ?_
 refine qKL ⟨b,o,none⟩ _ rfl (fun w1 h1=>jab Tryz.uStr rfl (jaa (jaa (by exact Q1.o) (HX.o.trans (jah _))) h1)) ?_;refine vS ?_;iterate 6 refine vK ?_
 refine qKL ⟨b,o+(l.length - 1) * 2,none⟩ _ rfl (fun w1 h1=>jab Tryz.uStr rfl (jaa (jaa (by exact Q2.o) (HX.o.trans (jah _))) h1)) ?_;refine vS ?_;refine qKC _ 47 #[.string x,.string xb] (.int .i64 (kk:Nat)) rfl (fun w1=>jaq (vX 47) vY) (fun w1 h1=>by rw[i8.o];exact (jfA w1 x xb vO vO).mono (fun e w2 ⟨h1,n,h2⟩=>⟨h1,by rw[h2];exact (ExtR w1).drewN n⟩)) ?_;refine vS ?_;iterate 2 refine vK ?_
 refine qKE (fun w5 H=>?_);have b6:=(jah W4).trans H;have O:=Hd (g2.o.ext b6);have b7:=Hd (g3.o.keeps b6 (fun h=>h));have HX:=Hd (HX.o.trans b6);clear H b6 g2 g3;have q0:=b7.o.cell (i:=0) (v:=.int .i64 0) vF;have f0:w5.frozen? ⟨w.heap.size+1,0,none⟩=false:=b7.o.frozen;have K6:=jaf.oneSet w5 ⟨w.heap.size+1,0,none⟩ (.int .i64 3);have b8:=Hd (O.o.other K6);have b9:Hid (Blk (w5.setCell ⟨w.heap.size+1,0,none⟩ (.int .i64 3)) (w.heap.size+1) (.cells (brN E 0).cells.toArray 94)):=Hd (b7.o.set_same (i:=0) (.int .i64 3));clear K6 b7 O HX;go_wp2_with fail
 go_loopw [11] (fun i wr=>jyZ w (w.heap.size+1) (jac (f+1)) l E i wr) (fun i _=>16 - (intOf i).toNat)
 case atStart=>exact⟨0,by omega,rfl,_,[],b8.o,by simp,b9.o⟩
 case round =>
  obtain⟨k,e9,rfl,u,bs,hH,k3,X⟩:=hrel
  obtain⟨au,cu,hu⟩:=hH.row.sl
  subst hu;have HH:=Hd hH;have HB:=Hd X;have HX:=Hd hH.row.ext;clear hH X
  by_cases hlt:k < 16
  ·have b1:(k:Int) < 16:=vO
   have k4:=HH.o.ml;have QI:=Hd (show (wr.alloc (.cells #[.int .i64 (k:Int)] 3)).cell? ⟨wr.heap.size,0,none⟩=some (.int .i64 (k:Int))from(Blk.new wr _).cell vF);have g4:=jyf HH.o.row;have k5:w.heap.size < wr.heap.size:=HH.o.blk.lt;have NF:=Hd (show ¬(wr.heap.size=w.heap.size\/wr.heap.size=w.heap.size+1\/(Value.slice au bs.length cu).ownBlock=some wr.heap.size)from fun h=>by
    rcases h with h | h | h
    ·omega
    ·omega
    ·exact g4 h)
   clear g4;go_wp2_with fail
   refine jaC [0,1,2,3,7,4,5,6,8,9] [4,5,6,9] Ext (jaf (fun x=>x=w.heap.size\/x=w.heap.size+1\/(Value.slice au bs.length cu).ownBlock=some x)) ExtR ExtT (fun x y z h k=>jaf.trans h k) (fun x y h=>h.mono (fun _ _ h=>h.elim)) vY vY vY ?_;refine qDL ⟨wr.heap.size,0,none⟩ _ rfl (fun w2 h2=>jab Tryz.uInt rfl (jar (by exact QI.o) h2 (by exact NF.o))) ?_;refine vS ?_;iterate 4 refine vD ?_
   refine qDH _ rfl (fun w1 H K hK=>?_);have d6:=(((ExtR wr).alloc (.cells #[.int .i64 (k:Int)] 3)).trans (jah _)).trans H;have g5:=jaa (jaa QI.o (jah _)) H;refine jbK (jaq (vX 50) vY) ((jzM w1 _ wr.heap.size k l (i9.o.ext (HX.o.trans d6)) vO j0.o vO g5).mono ?_);rintro e w2 ⟨v2,n2,rfl,a7⟩;have g6:=Hd a7.rd;have g7:=Hd (d6.trans a7.ext)
   refine⟨_,rfl,hK _ _ (a7.ext.mono (fun _ _ h=>h.elim)) ?_⟩
   obtain⟨a2,c2,j4⟩:=a7.rd.sl
   subst j4;clear hK K H d6 g5 a7;refine vS ?_;refine qDH _ rfl (fun w3 H K hK=>?_);refine jbK (jaq (vX 49) vY) ((jm7 w3 _ 1 (cutL k l) (g6.o.ext H) (by have:=g0.o k;omega) (j1.o k)).mono ?_);rintro e w4 ⟨v4,rfl,a8⟩;have g8:=Hd a8.rd;have j5:=Hd ((g7.o.trans H).trans a8.ext)
   refine⟨_,rfl,hK _ _ (a8.ext.mono (fun _ _ h=>h.elim)) ?_⟩
   obtain⟨a4,g9,j6⟩:=a8.rd.sl
   subst j6;clear hK K H a8 g6 g7;refine vS ?_;refine qDH _ rfl (fun d8 H K hK=>?_);have d9:=Hd (j5.o.trans H);have e1:=Hd (g8.o.ext H);have O:=Hd (HH.o.ext d9.o);have e2:=HC.o.ext (HX.o.trans d9.o)
   obtain⟨rk,c8⟩:=vE (if (cutL k l).length=0 then (⟨#[]⟩:vB)else refB (jac (f+1) (jak 1 (cutL k l))).text)
   refine jbK (f:=48) (args:=#[ptrV w.heap.size,.slice a4 (jak 1 (cutL k l)).length g9]) (jaq (vX 48) vY) ((show Calls _ _ _ _ (fun e w'=>∃ u' bs',e=.returned (.string rk)/\jdN w w' w.heap.size (w.heap.size+1) ⟨#[]⟩ (ksK (jac (f+1)) l (k+1)) u' bs'/\bs'.length<=bs.length+1/\Ext w w'/\jaf (fun x=>x=w.heap.size\/(Value.slice au bs.length cu).ownBlock=some x) d8 w')from ?hold).mono ?_)
   case hold =>
    rw[jh5]
    by_cases hc0:(cutL k l).length=0
    ·rw[c8,if_pos hc0,if_pos hc0,bW,jaJ,hc0]
     refine (jvu d8 w.heap.size a4 g9).mono ?_;rintro e w6 ⟨rfl,rfl⟩
     exact⟨_,bs,rfl,O.o,by omega,O.o.row.ext,jaf.refl _ _⟩
    ·rw[c8,if_neg hc0,if_neg hc0]
     exact jwT e2 O.o vO _ (jak 1 (cutL k l)) e1.o (fun e=>hc0 (by have:=jaJ 1 (cutL k l);rw[e]at this;simpa using this.symm)) (by rw[jaJ];have:=g0.o k;omega) _ (e8.o k hc0) (j3.o k hc0 d8 _ e2 e1.o)
   rintro e w6 ⟨u6,j7,rfl,h6,k6,j8,e3⟩
   refine⟨_,rfl,hK _ _ (e3.mono (fun x _ h=>h.elim .inl (fun h=>.inr (.inr h)))) ?_⟩
   have h3:=(HB.o.keeps d9.o (fun h=>h)).keeps e3 (fun h=>by
    rcases h with h | h
    ·omega
    ·exact HH.o.mb h)
   have b9:=Hd h3;have b8:=Hd h6;have j9:=Hd ((j2.o k hlt).trans (by rw[<-c8]));clear hK K H h6 j8 e3 h3 e2 c8 g8 e1 O;refine vS ?_
   refine vD ?_
   refine qDH _ rfl (fun w7 H K hK=>?_);have c9:=b9.o.keeps H (fun h=>h)
   obtain⟨old,q7⟩:∃ v,w7.cell? ⟨w.heap.size+1,3+k,none⟩=some v:=⟨_,c9.cellL (bA (by rw[jad.cells_len _ (jrL a5.o e9)];omega))⟩
   have f7:w7.frozen? ⟨w.heap.size+1,3+k,none⟩=false:=c9.frozen;have e4:=c9.set_same (i:=3+k) (.string rk);rw[show (brN E k).cells.toArray.setIfInBounds (3+k) (.string rk)=((brN E k).cells.set (3+k) (.string rk)).toArray by simp,jrM a5.o hlt rk j9.o]at e4;have h4:=Hd e4;have K8:=jaf.oneSet w7 ⟨w.heap.size+1,3+k,none⟩ (.string rk);have h5:=Hd ((b8.o.ext H).other K8);have h7:=Hd (K8.mono (G:=fun x=>x=w.heap.size\/x=w.heap.size+1\/(Value.slice au bs.length cu).ownBlock=some x) (fun x _ e=>.inr (.inl e)));clear H c9 e4 K8 b9 b8;go_simp;refine hK _ _ h7.o ?_;clear hK K q7 f7;refine qDE (fun w9 H=>?_);have k0:=Hd (h5.o.ext H);have k1:=Hd (h4.o.keeps H (fun h=>h));clear H h5 h4 h7;go_wp2_with fail
   go_roundw
   case rel=>exact⟨k+1,by omega,by go_num,u6,j7,k0.o,by omega,k1.o⟩
   case measure=>exact vJ
  ·have b3:k=16:=vO
   subst b3;have e5:brN E 16=⟨3,⟨#[]⟩,⟨#[]⟩,E⟩:=by unfold brN jam;rw[bN (by have:=a5.o;omega)];simp
   have X:=HB.o;rw[e5]at X;have q1:=jaa Q1.o HX.o
   by_cases hx0:x.size=0
   ·have k2:=jbq hx0
    have Z:A=y:=by rw[b0.o,if_pos hx0]
    have a3:=jaa i7.o HX.o;subst k2;have q2:wr.cell? ⟨w.heap.size+1,2,none⟩=some (.string ⟨#[]⟩):=X.cellL vF;have f2:wr.frozen? ⟨w.heap.size+1,2,none⟩=false:=X.frozen;have e6:=X.set_same (i:=2) (.string y);rw[show (jad.cells ⟨3,⟨#[]⟩,⟨#[]⟩,E⟩).toArray.setIfInBounds 2 (.string y)=(jad.cells ⟨3,⟨#[]⟩,y,E⟩).toArray by simp[jad.cells]]at e6;have a1:=Hd (show Blk (wr.setCell ⟨w.heap.size+1,2,none⟩ (.string y)) (w.heap.size+1) (.cells (jad.cells ⟨3,⟨#[]⟩,A,E⟩).toArray 94)from by rw[Z];exact e6);have HH:=Hd (HH.o.other (jaf.oneSet wr ⟨w.heap.size+1,2,none⟩ (.string y)));have HV:=Hd Z;clear X e6 e5 Z;go_wp2_with (refine jae 94 (.tmp 4) rfl rfl _ _ rfl (jao _ _ ⟨3,⟨#[]⟩,A,E⟩ a5.o a1.o) ?_)
    refine vH (jjX (inlP _) _ ⟨3,⟨#[]⟩,A,E⟩ HG.o) fun w9 hE=>?_;have h9:=HH.o.ext hE;have q0:w9.cell? ⟨w.heap.size,0,none⟩=some (.string ⟨#[]⟩):=h9.blk.cell (i:=0) vF;have f0:w9.frozen? ⟨w.heap.size,0,none⟩=false:=h9.blk.frozen;have H9:=Hd (h9.setText (jaP ⟨3,⟨#[]⟩,A,E⟩))
    obtain⟨tx,Q⟩:=vE (jaP ⟨3,⟨#[]⟩,A,E⟩)
    rw[<-Q]at H9 ⊢;have e7:=Hd Q;clear h9 Q;go_wp2_with fail
    go_ret
    exact⟨w.heap.size,rfl,by rw[HT.o, <-e7.o];exact H9.o.part,H9.o.row.ext⟩
   ·have k7:=jbe (s:=x) vO
    have Z:A=⟨#[]⟩:=by rw[b0.o,if_neg hx0]
    rw[<-Z]at X;have a1:=Hd (show Blk wr (w.heap.size+1) (.cells (jad.cells ⟨3,⟨#[]⟩,A,E⟩).toArray 94)from by rw[Z]at X ⊢;exact X);have HV:=Hd Z;clear X e5 Z;go_wp2_with (refine jae 94 (.tmp 4) rfl rfl _ _ rfl (jao _ _ ⟨3,⟨#[]⟩,A,E⟩ a5.o a1.o) ?_)
    refine vH (jjX (inlP _) _ ⟨3,⟨#[]⟩,A,E⟩ HG.o) fun w9 hE=>?_;have h9:=HH.o.ext hE;have q0:w9.cell? ⟨w.heap.size,0,none⟩=some (.string ⟨#[]⟩):=h9.blk.cell (i:=0) vF;have f0:w9.frozen? ⟨w.heap.size,0,none⟩=false:=h9.blk.frozen;have H9:=Hd (h9.setText (jaP ⟨3,⟨#[]⟩,A,E⟩))
    obtain⟨tx,Q⟩:=vE (jaP ⟨3,⟨#[]⟩,A,E⟩)
    rw[<-Q]at H9 ⊢;have e7:=Hd Q;clear h9 Q;go_wp2_with fail
    go_ret
    exact⟨w.heap.size,rfl,by rw[HT.o, <-e7.o];exact H9.o.part,H9.o.row.ext⟩
theorem jkp:∀ (f:Nat) (l:vL),jas f l->l.length<=1000->jie l (jac (f+1) l)
 | f,l,hok,hln=>by
  by_cases h0:l.length=0
  ·exact jqg f l h0
  by_cases h1:l.length=1
  ·exact jrO f l h1 hok
  have e:2<=l.length:=vO
  cases f with
  | zero =>
   exfalso
   obtain⟨a,A⟩:∃ a,l[0]?=some a:=⟨_,bA vO⟩
   obtain⟨b,hb⟩:∃ b,l[1]?=some b:=⟨_,bA vO⟩
   have o:=jca hok.rise vO A hb
   have:=(hok.size b (bI hb)).1
   rw[show b.l=[]from bD (by show b.1.size=0;omega)]at o;exact not_lt_nil _ o
  | succ f =>
   by_cases hk:0 < comK l
   ·exact jrN f l e hln hok hk (jkp f _ ((jb9 (comK l) hok (fun p z q E=>((jbl hok e p z).1).trans (jbl hok e q E).1.symm) (fun p z=>(jbl hok e p z).2)).mono vO) (by rw[jaJ];exact hln))
   ·exact jlI f l e hln hok hk (fun i _=>jkp f _ (jdq i hok) (by rw[jaJ];exact bK (dQ _ _) hln))
theorem jmm(b:vU):(b >>> 4).toNat=b.toNat / 16:=by
 have:∀ c:Fin 256,(UInt8.ofNat c.1 >>> 4).toNat=c.1 / 16:=by decide
 have h:=this ⟨b.toNat,b.toNat_lt⟩;simpa using h
theorem jmn(b:vU):(b &&& 15).toNat=b.toNat % 16:=by
 have:∀ c:Fin 256,(UInt8.ofNat c.1 &&& 15).toNat=c.1 % 16:=by decide
 have h:=this ⟨b.toNat,b.toNat_lt⟩;simpa using h
theorem jsR:∀ (a b:vN),Lt a b->Lt (jcv a) (jcv b)
 | a,[],h=>absurd h (not_lt_nil _)
 | [],y :: b,_=>rfl
 | x :: a,y :: b,h=>by
  show Lt ((x >>> 4) ::(x &&& 15) :: jcv a) ((y >>> 4) ::(y &&& 15) :: jcv b);have e:=jmm x;have o:=jmm y;have z:=jmn x;have A:=jmn y;rcases jbG.1 h with h |⟨he,h2⟩
  ·have h:=dD.1 h
   by_cases hh:x.toNat / 16 < y.toNat / 16
   ·exact jbG.2 (.inl (dD.2 vO))
   ·refine jbG.2 (.inr ⟨dP.1 vO,jbG.2 (.inl (dD.2 vO))⟩)
  ·subst he;exact jbG.2 (.inr ⟨rfl,jbG.2 (.inr ⟨rfl,jsR a b h2⟩)⟩)
theorem jex(s:vB):jaB (jbu s)=true:=by
 unfold jaB jbu;rw[fB];intro x e;have e:x∈jcv s.data.toList:=e;unfold jcv at e
 obtain⟨b,_,hb⟩:=cR.1 e
 have z:=jmm b;have A:=jmn b;have E:=b.toNat_lt;have o:(15:vU).toNat=15:=rfl;refine decide_eq_true (dY.2 ?_);rcases bM.1 hb with rfl | hb
 ·omega
 ·rw[bZ.1 hb];omega
theorem jgQ(s:vB):(jbu s).size=2 * s.size:=by
 show (jcv s.data.toList).length=2 * s.data.toList.length;unfold jcv;induction s.data.toList with
 | nil=>rfl
 | cons x r ih=>rw[cH,bC,ih,bF,bF,bF,cF];omega
structure jux(l:vL):Prop where
 size:∀ p∈l,0 < p.1.size/\p.1.size<=6/\0 < p.2.size/\p.2.size<=80
 rise:l.Pairwise fun p q=>Lt p.l q.l
 len:l.length<=40
theorem jdk:∀ (a b c:vN),Lt a b->Lt b c->Lt a c
 | a,b,[],_,h=>absurd h (not_lt_nil _)
 | a,[],z :: c,h,_=>absurd h (not_lt_nil _)
 | [],y :: b,z :: c,_,_=>rfl
 | x :: a,y :: b,z :: c,h1,h2=>by
  rcases jbG.1 h1 with h |⟨rfl,h⟩
  ·rcases jbG.1 h2 with h' |⟨rfl,h'⟩
   ·exact jbG.2 (.inl (UInt8.lt_trans h h'))
   ·exact jbG.2 (.inl h)
  ·rcases jbG.1 h2 with h' |⟨rfl,h'⟩
   ·exact jbG.2 (.inl h')
   ·exact jbG.2 (.inr ⟨rfl,jdk a b c h h'⟩)
theorem jaA{l:vL}(h:jaw l=0):jux l:=by
 unfold jaw at h;split at h
 ·cases h
 rename_i hb
 split at h
 ·cases h
 rename_i hl
 have E:∀ i,i < l.length->badN l i=false:=fun i o=>by
  cases hbi:badN l i with
  | false=>rfl
  | true=>exact absurd (fO.2 ⟨i,dW.2 o,hbi⟩) hb
 refine⟨fun p Q=>?_,?_,by omega⟩
 ·obtain⟨i,o⟩:=gR Q
  have z:=E i (bP.1 o).1;have X:l.getD i (⟨#[]⟩,⟨#[]⟩)=p:=by rw[bG,o];rfl
  unfold badN at z;rw[X]at z;simp only[gT,Bool.not_eq_false']at z;have A:=z.1.1;have J:=z.1.2;unfold jcj at A;unfold jbS at J;simp only[decide_eq_true_eq]at A J
  exact⟨A.1,A.2,J.1,J.2⟩
 ·have H:∀ i,i+1 < l.length->Lt (l.getD i pd).l (l.getD (i+1) pd).l:=fun i o=>by
   have z:=E (i+1) o;unfold badN at z;simp only[gT,Bool.and_eq_false_iff,Bool.not_eq_false']at z;rcases z.2 with A | A
   ·simp at A
   ·rw[Nat.add_sub_cancel]at A
    have:Op.bytesLess (l.getD i pd).1.toList (l.getD (i+1) pd).1.toList=true:=A
    rw[bO,bO]at this;exact this
  rw[gU];intro i j o Z a0;have e:∀ k (O:k < l.length),l.getD k pd=l[k]:=fun k O=>by rw[bG,bA O];rfl
  have K:∀ d,∀ i,i+d+1 < l.length->Lt (l.getD i pd).l (l.getD (i+d+1) pd).l:=by
   intro d;induction d with
   | zero=>exact fun i o=>H i o
   | succ d ih=>exact fun i o=>jdk _ _ _ (ih i vO) (H (i+d+1) o)
  have:=K (j - i - 1) i vO
  rw[show i+(j - i - 1)+1=j by omega,e i o,e j Z]at this;exact this
theorem jbw{l:vL}(h:jux l):jas 12 (jaR l):=by
 refine⟨fun p e=>?_,?_⟩
 ·obtain⟨q,o,rfl⟩:=bJ.1 e
  obtain⟨E,H,z,A⟩:=h.size q o
  have J:=jgQ q.1
  exact⟨by show (jbu q.1).size<=_;omega,by show (jbu q.1).size<=_;omega,jex _,z,A⟩
 ·unfold jaR
  rw[List.pairwise_map];exact h.rise.imp fun {p q} h=>jsR _ _ h
def jaF(l:vL):PT:=jac 13 (jaR l)
section
attribute [local go_sem] Oper.semAt_some
inductive AT where
 | mk (b:Nat) (text:vB) (v:vV) (kids:List AT)
def AT.root:AT->Nat | .mk b _ _ _=>b
mutual
def AtIs(A:Nat->Prop):AT->vW->Prop
 | .mk b t v ks,W=>A b/\Blk W b (.cells #[.string t,v] 90)/\RdQ A W v (ks.map AT.root)/\jeE A ks W
def jeE(A:Nat->Prop):List AT->vW->Prop
 | [],_=>True
 | k :: ks,W=>AtIs A k W/\jeE A ks W
end
mutual
def AT.pt:AT->PT
 | .mk _ t _ ks=>.mk t (AT.pts ks)
def AT.pts:List AT->List PT
 | []=>[]
 | k :: ks=>AT.pt k :: AT.pts ks
end
mutual
def jax:PT->vM
 | .mk t ks=>t :: jaH ks
def jaH:List PT->vM
 | []=>[]
 | k :: ks=>jax k++jaH ks
end
mutual
theorem jzD{A:Nat->Prop}{W:vW}:∀ (T:PT) (b:Nat),jbN A T b W->∃ a:AT,a.root=b/\a.pt=T/\AtIs A a W
 | .mk t ks,b,h=>by
  unfold jbN at h
  obtain⟨e,v,o,z,E,H⟩:=h
  obtain⟨J,K,O,Q⟩:=jwI ks o H
  exact⟨.mk b t v J,rfl,by unfold AT.pt;rw[O],by unfold AtIs;exact⟨e,z,by rw[K];exact E,Q⟩⟩
theorem jwI{A:Nat->Prop}{W:vW}:∀ (ks:List PT) (bs:List Nat),jaY A ks bs W->∃ e:List AT,e.map AT.root=bs/\AT.pts e=ks/\jeE A e W
 | [],bs,h=>by
  unfold jaY at h;subst h
  exact⟨[],rfl,by unfold AT.pts;rfl,by unfold jeE;trivial⟩
 | x :: ks,bs,h=>by
  unfold jaY at h
  obtain⟨b,r,rfl,o,z⟩:=h
  obtain⟨a,E,H,J⟩:=jzD x b o
  obtain⟨e,K,O,Q⟩:=jwI ks r z
  exact⟨a :: e,by rw[bV,E,K],by unfold AT.pts;rw[H,O],by unfold jeE;exact⟨J,Q⟩⟩
end
mutual
theorem AtIs.keeps{A:Nat->Prop}{F:BSet}{W W':vW}(k:jaf F W W')(hF:∀ x,A x->¬ F x):∀ (a:AT),AtIs A a W->AtIs A a W'
 | .mk b t v ks,h=>by
  unfold AtIs at *
  obtain⟨e,o,z,E⟩:=h
  exact⟨e,o.keeps k (hF b e),z.keeps k hF,jeE.keeps k hF ks E⟩
theorem jeE.keeps{A:Nat->Prop}{F:BSet}{W W':vW}(k:jaf F W W')(hF:∀ x,A x->¬ F x):∀ (ks:List AT),jeE A ks W->jeE A ks W'
 | [],_=>by unfold jeE;trivial
 | x :: ks,h=>by
  unfold jeE at *
  exact⟨AtIs.keeps k hF x h.1,jeE.keeps k hF ks h.2⟩
end
theorem jeE.get{A:Nat->Prop}{W:vW}:∀ (ks:List AT) (j:Nat) (a:AT),jeE A ks W->ks[j]?=some a->AtIs A a W
 | [],j,a,_,h=>by simp at h
 | x :: ks,0,a,h,hj=>by simp at hj;subst hj;unfold jeE at h;exact h.1
 | x :: ks,j+1,a,h,hj=>by unfold jeE at h;exact jeE.get ks j a h.2 (by simpa using hj)
theorem jl0:∀ (ks:List AT) (j:Nat) (a:AT),ks[j]?=some a->jaH (AT.pts (ks.take (j+1)))=jaH (AT.pts (ks.take j))++jax a.pt
 | [],j,a,h=>by simp at h
 | x :: ks,0,a,h=>by
  simp at h;subst h;simp[AT.pts,jaH]
 | x :: ks,j+1,a,h=>by
  have:=jl0 ks j a (by simpa using h)
  simp only[dZ,AT.pts,jaH,this,cD]
theorem joQ:∀ (ks:List AT) (j:Nat),∃ r,jaH (AT.pts ks)=jaH (AT.pts (ks.take j))++r
 | ks,0=>⟨jaH (AT.pts ks),by simp[AT.pts,jaH]⟩
 | [],j+1=>⟨[],by simp[AT.pts,jaH]⟩
 | x :: ks,j+1=>by
  obtain⟨r,h⟩:=joQ ks j
  exact⟨r,by simp only[dZ,AT.pts,jaH,h,cD]⟩
def jek(L m:vM)(p:Nat):Prop:=∀ j x,m[j]?=some x->L[p+j]?=some x
theorem jek.left{L m n:vM}{p:Nat}(h:jek L (m++n) p):jek L m p:=fun j x e=>h j x (by rw[dB (bP.1 e).1];exact e)
theorem jek.right{L m n:vM}{p:Nat}(h:jek L (m++n) p):jek L n (p+m.length):=fun j x e=>by
 have:=h (m.length+j) x (by rw[cV vO,Nat.add_sub_cancel_left];exact e)
 rw[Nat.add_assoc];exact this
theorem jek.le{L m:vM}{p:Nat}(h:jek L m p)(hm:m≠[]):p+m.length<=L.length:=by
 have e:0 < m.length:=gB.2 hm
 have:=h (m.length - 1) _ (bA vO)
 have:=(bP.1 this).1
 omega
theorem jvk(T:PT):1<=(jax T).length:=by cases T;unfold jax;simp
theorem joP:∀ (ks:List AT),ks.length<=(jaH (AT.pts ks)).length
 | []=>by simp
 | x :: ks=>by
  have:=joP ks
  have:=jvk x.pt
  simp only[AT.pts,jaH,bC,bF];omega
def jki(C Cx:Nat->vW->Prop)(n N:Nat)(e:Ending)(W':vW):Prop:=(e=.returned (.bool true)/\C n W')\/(e=.returned (.bool false)/\∃ q,0 < q/\q<=N/\Cx q W')
def jxk(C:Nat->vW->Prop)(p:Nat)(ks:List AT)(v:vV)(wr:vW):Prop:=∃ j:Nat,j<=ks.length/\v=.int .i64 j/\C (p+1+(jaH (AT.pts (ks.take j))).length) wr
theorem juf(A:Nat->Prop)(l:Nat)(C Cx:Nat->vW->Prop)(hC:∀ k,St (C k))(L:vM)(hLn:L.length<=1000000)
  (hY:∀ j z,j < L.length->C j z->jrm Tryz.prog l #[.string (L.getD j ⟨#[]⟩)] z (C (j+1)) (Cx (j+1)))
  (b:Nat) (t:vB) (v:vV) (ks:List AT)
  (IHk:∀ a∈ks,∀ (p:Nat) (W:vW),jek L (jax a.pt) p->(∀ j z,C j z->AtIs A a z)->C p W ->
   CallsIn Fence.wide 0 Tryz.prog 55 #[ptrV a.root,.func (.yield l) #[] #[]] W (jki C Cx (p+(jax a.pt).length) L.length))
  (p:Nat) (W:vW) (hL:jek L (jax (AT.mk b t v ks).pt) p) (hS:∀ j z,C j z->AtIs A (.mk b t v ks) z) (h0:C p W) :
   CallsIn Fence.wide 0 Tryz.prog 55 #[ptrV b,.func (.yield l) #[] #[]] W (jki C Cx (p+(jax (AT.mk b t v ks).pt).length) L.length):=by
  have e1:jax (AT.pt (.mk b t v ks))=t :: jaH (AT.pts ks):=by unfold AT.pt jax;rfl
  rw[e1]at hL ⊢;have hp:p < L.length:=by have:=hL 0 t rfl;exact (bP.1 this).1
  have hg:L.getD p ⟨#[]⟩=t:=by rw[bG];have:=hL 0 t rfl;rw[fR]at this;rw[this];rfl
  have J:∀ j z,C j z->Blk z b (.cells #[.string t,v] 90)/\RdQ A z v (ks.map AT.root)/\jeE A ks z:=fun j z h=>by
   have:=hS j z h;unfold AtIs at this;exact this.2
  obtain⟨fn,tm,b5,bd,Z,a4⟩:=hY p W hp h0
  rw[hg]at Z;have q0:=(J p W h0).1.cell (i:=0) (v:=.string t) vF
  obtain⟨av,cv,hv⟩:=(J p W h0).2.1.sl
  rw[cC]at hv;subst hv;have b6:ks.length<=1000000:=by
   have h1:=joP ks;have h2:=hL.le (by simp);simp only[bF]at h2;omega
  have a5:=Hd a4;have HS:=Hd J;have HY:=Hd hY;have HC:=Hd hC;have a6:=Hd IHk;have HL:=Hd hL;clear J hS a4 hg h0 e1 hL hY hC IHk;unfold ptrV;refine callsIn_of_wp Tryz.func55 rfl trivial ?_ rfl;simp only[Tryz.ntmps55,dL,bF,cF,Nat.reduceAdd,Nat.reduceSub,dO,dN,fC,dS,cP,cZ];gi_wp2_with fail
  refine⟨rfl,a5.o.mono ?_⟩
  rintro e w5 (⟨rfl,C5⟩ |⟨rfl,C5⟩)
  ·have q1:=(HS.o _ _ C5).1.cell (i:=1) (v:=.slice av ks.length cv) vF
   have K:=Hd C5;clear C5 q0 Z;gi_wp2_with fail
   gi_loopw [19] (fun v wr=>jxk C p ks v wr) (fun v _=>ks.length - (intOf v).toNat)
   case atStart=>exact⟨0,by omega,rfl,by simpa [AT.pts,jaH]using K.o⟩
   case round =>
    obtain⟨j,hj,rfl,E⟩:=hrel
    by_cases hlt:j < ks.length
    ·obtain⟨a7,a0,a8⟩:=HS.o _ _ E
     obtain⟨a,ha⟩:∃ a,ks[j]?=some a:=⟨_,bA hlt⟩
     have O:a∈ks:=bI ha;have a1:=jl0 ks j a ha
     obtain⟨a3,Q⟩:=joQ ks (j+1)
     have X:jek L (jax a.pt) (p+1+(jaH (AT.pts (ks.take j))).length):=by
      have h1:jek L ([t]++(jaH (AT.pts (ks.take j))++(jax a.pt++a3))) p:=by
       have:=HL.o
       rw[Q,a1,cD]at this;exact this
      exact (h1.right.right).left
     rcases a0 with⟨_,h0⟩ |⟨g,c,hh,_,_,_,_,hcell⟩
     ·rw[List.map_eq_nil_iff]at h0;rw[h0]at hlt;cases hlt
     obtain⟨rfl,a9,b0⟩:=cW hh
     clear a9 b0;have qj:wr.cell? ⟨g,j,none⟩=some (ptrV a.root):=hcell j a.root (by rw[cA,ha];rfl)
     obtain⟨ar,a2⟩:=vE a.root
     rw[<-a2]at qj;have b1:(j:Int) < (ks.length:Int):=vO
     have ih:=a6.o a O _ wr X (fun j' z h=>jeE.get ks j a (HS.o j' z h).2.2 ha) E;rw[<-a2]at ih;have IH:=Hd ih;have b2:=Hd a1;unfold ptrV at qj;clear a7 a8 hcell hh Q X ih a1 E ha a2 q1 O K;gi_wp2_with fail
     refine⟨trivial,rfl,IH.o.mono ?_⟩
     rintro e w6 (⟨rfl,C6⟩ |⟨rfl,q',a0,b3,C6⟩)
     ·have H:=Hd C6
      clear C6;gi_wp2_with fail
      go_roundw
      case rel=>exact⟨j+1,by omega,by go_num,by rw[b2.o,bC, <-Nat.add_assoc];exact H.o⟩
      case measure=>exact vJ
     ·have H:=Hd C6
      clear C6;gi_wp2_with fail
      go_ret;exact .inr ⟨rfl,q',a0,b3,H.o⟩
    ·have b4:j=ks.length:=vO
     subst b4;rw[cJ]at E;have H:=Hd E;clear E;gi_wp2_with fail
     go_ret;exact .inl ⟨rfl,by rw[show p+((jaH (AT.pts ks)).length+1)=p+1+(jaH (AT.pts ks)).length by omega];exact H.o⟩
  ·have K:=Hd C5
   clear C5 q0 Z;gi_wp2_with fail
   go_ret;exact .inr ⟨rfl,p+1,by omega,by omega,K.o⟩
theorem jue(A:Nat->Prop)(l:Nat)(C Cx:Nat->vW->Prop)(hC:∀ k,St (C k))(L:vM)(hLn:L.length<=1000000)
  (hY:∀ j W',j < L.length->C j W'->jrm Tryz.prog l #[.string (L.getD j ⟨#[]⟩)] W' (C (j+1)) (Cx (j+1))) :
  ∀ (a:AT) (p:Nat) (W:vW),jek L (jax a.pt) p->(∀ j W',C j W'->AtIs A a W')->C p W ->
   CallsIn Fence.wide 0 Tryz.prog 55 #[ptrV a.root,.func (.yield l) #[] #[]] W (jki C Cx (p+(jax a.pt).length) L.length)
 | .mk b t v ks,p,W,hL,hS,h0=>juf A l C Cx hC L hLn hY b t v ks (fun a e=>jue A l C Cx hC L hLn hY a) p W hL hS h0
termination_by a=>SizeOf.sizeOf a
decreasing_by
 have:=List.sizeOf_lt_of_mem e
 simp
 omega
def jrq(L:vM)(k:Nat):Array vV:=#[.string (L.getD k ⟨#[]⟩)]
theorem jzA(A:Nat->Prop)(bx:Nat)(a:AT)(hLn:(jax a.pt).length<=1000000):juw Tryz.prog 54 #[.pointer (some ⟨bx,0,none⟩)] (jax a.pt).length (jrq (jax a.pt)) (fun W=>Blk W bx (.cells #[ptrV a.root] 62)/\AtIs A a W):=by
 intro l C Cx hC z E W hY H;have hT:=jue A l C Cx hC (jax a.pt) hLn (fun j J hj hc=>hY j J hj hc) a 0 W (fun j x hx=>by rw[cG];exact hx) (fun j J h=>(E j J h).2) H;have q0:=(E 0 W H).1.cell (i:=0) (v:=ptrV a.root) vF;have HT:=Hd hT;clear hT hY hC z E H;unfold ptrV at q0
 obtain⟨r,K⟩:=vE a.root
 rw[<-K]at q0 HT;have HR:=Hd K;clear K;refine callsIn_of_wp Tryz.func54 rfl trivial ?_ rfl;simp only[Tryz.ntmps54,dL,bF,cF,Nat.reduceAdd,Nat.reduceSub,dO,dN,fC,dS,cP,cZ];gi_wp2_with fail
 refine⟨trivial,rfl,HT.o.mono ?_⟩
 rintro e w5 (⟨rfl,C5⟩ |⟨rfl,q',O,Q,C6⟩)
 ·have X:=Hd C5
  clear C5;gi_wp2_with fail
  refine bodyPost_end (results_none rfl _ _ _) rfl ?_
  exact⟨⟨_,rfl⟩,.inl (by have:=X.o;rw[cG]at this;exact this)⟩
 ·have Z:=Hd C6
  clear C6;gi_wp2_with fail
  refine bodyPost_end (results_none rfl _ _ _) rfl ?_
  exact⟨⟨_,rfl⟩,.inr ⟨q',Q,O,Z.o⟩⟩
theorem jBl(w:vW)(k:Nat):vQ 27 #[ptrV k] w fun e w'=>e=.returned (.func (.func 54) #[] #[.pointer (some ⟨w.heap.size,0,none⟩)])/\Blk w' w.heap.size (.cells #[ptrV k] 62)/\Ext w w':=by
 unfold ptrV;unfold vQ;go_in;go_wp2_with fail
 go_ret
 exact⟨rfl,Blk.new w _,(ExtR w).alloc _⟩
def memB(acc:vM)(x:vB):Bool:=(acc.map (·.data.toList)).contains x.data.toList
theorem jfH(acc:vM)(x:vB):memB acc x=true↔x∈acc:=by
 unfold memB;rw[dC,bJ]
 exact⟨fun ⟨y,o,e⟩=>by rw[<-show y=x from ByteArray.ext (Array.ext' e)];exact o,fun h=>⟨x,h,rfl⟩⟩
def addF(acc:vM)(x:vB):vM:=if memB acc x=true then acc else acc++[x]
def jbf(l:vM):vM:=l.foldl addF []
theorem juA(acc:vM)(x y:vB):y∈addF acc x↔y∈acc\/y=x:=by
 unfold addF;split
 ·rename_i h;exact⟨.inl,fun o=>o.elim id (fun e=>e ▸ (jfH _ _).1 h)⟩
 ·simp
theorem jaX(l:vM)(y:vB):y∈jbf l↔y∈l:=by
 unfold jbf
 suffices ∀ e,y∈l.foldl addF e↔y∈e\/y∈l by simpa using this []
 induction l with
 | nil=>intro e;simp
 | cons x r ih=>intro e;rw[dE,ih,juA,bM];exact or_assoc
theorem jga(l:vM)(x:vB):jbf (l++[x])=addF (jbf l) x:=by
 unfold jbf;rw[dX];rfl
theorem jhj(l:vM):(jbf l).length<=l.length:=by
 unfold jbf
 suffices ∀ e,(l.foldl addF e).length<=e.length+l.length by simpa using this []
 induction l with
 | nil=>intro e;simp
 | cons x r ih =>
  intro e;rw[dE,bF];have o:=ih (addF e x);have z:(addF e x).length<=e.length+1:=by unfold addF;split <;> simp
  omega
theorem jcZ{K:Type}[DecidableEq K](k:K)(v:vV)(n:Nat)(k':K):∀ (l:List (Ent K)),jaZ (jbs l k v n) k'=if k'=k then some v else jaZ l k'
 | []=>by
  by_cases h:k'=k
  ·subst h;simp[jbs,jaZ]
  ·simp[jbs,jaZ,h]
 | x :: r=>by
  have A:=jcZ k v n k' r;unfold jbs
  by_cases hk:k=x.1
  ·rw[if_pos hk]
   by_cases h:k'=k
   ·subst h;simp[jaZ]
   ·have o:¬ k'=x.1:=fun e=>h (e.trans hk.symm)
    simp[jaZ,h,o]
  ·rw[if_neg hk]
   by_cases h:k'=x.1
   ·have o:¬ k'=k:=fun e=>hk (e.symm.trans h)
    rw[if_neg o];simp[jaZ,h]
   ·have z:∀ l,jaZ (x :: l) k'=jaZ l k':=fun l=>by simp[jaZ,h]
    rw[z,z,A]
def cntB(l:vM)(x:vB):Nat:=(l.map (·.data.toList)).count x.data.toList
def cntV(n:Nat):Option vV:=if n=0 then none else some (.int .i64 (n:Int))
theorem Tryz.uMapSI:Tryz.prog.underlying 61=some (.map 9 3):=vY
noncomputable abbrev Tryz.ES:ja9 Tryz.prog 9 (vN):=jz9 Tryz.uStr
theorem Tryz.zeroI(w:vW):(zeroValue 3).run Tryz.prog w=.ok (.int .i64 0) w:=vY
structure NodS(w:World)(g m:Nat)(A:Nat->Prop)(bx:Nat)(a:AT)(L:vM)(k:Nat)(W:World):Prop where
 ext:Ext w W
 var:∃ v n,Blk W g (.cells #[v] 28)/\W.ownsRow 0 9 1 v n ((jbf (L.take k)).map Value.string)/\n<=k/\∀ b,v.ownBlock=some b->m+2<=b
 tab:∃ es ck,Blk W (g+1) (.map (Tryz.ES.arr es) ck)/\∀ x:vB,jaZ es x.data.toList=cntV (cntB (L.take k) x)
 mv:Blk W (g+2) (.cells #[.map (some (g+1))] 61)
 box:Blk W bx (.cells #[ptrV a.root] 62)
 at':AtIs A a W
theorem NodS.st{w:vW}{g m:Nat}{A:Nat->Prop}{bx:Nat}{a:AT}{L:vM}{k:Nat}{W W':vW}(h:NodS w g m A bx a L k W)(e:Ext W W'):NodS w g m A bx a L k W':=
 let ⟨v,n,h1,h2,h3,h4⟩:=h.var
 let ⟨es,ck,h5,h6⟩:=h.tab
 ⟨h.ext.trans e,⟨v,n,h1.keeps e (fun h=>h),jbo h2 e,h3,h4⟩,⟨es,ck,h5.keeps e (fun h=>h),h6⟩,h.mv.keeps e (fun h=>h),h.box.keeps e (fun h=>h),AtIs.keeps e (fun _ _ h=>h) a h.at'⟩
theorem NodS.put{w:vW}{g m:Nat}{A:Nat->Prop}{bx:Nat}{a:AT}{L:vM}{k:Nat}{W:vW}(h:NodS w g m A bx a L k W){r:Nat}(hr:w.heap.size<=r)(h1:g+2 < r)(h2:r < m+2)(h3:bx≠r)(h4:∀ x,A x->x≠r)(o:Obj):NodS w g m A bx a L k (W.putObj r o):=
 let ⟨v,n,h5,h6,h7,h8⟩:=h.var
 let ⟨es,ck,h9,h10⟩:=h.tab
 ⟨h.ext.putObj (.inr hr) _,⟨v,n,h5.put_other vO _,jbc h6 (jaf.onePut W r o) (fun b hb e=>by have:=h8 b hb;omega),h7,h8⟩,⟨es,ck,h9.put_other vO _,h10⟩,h.mv.put_other vO _,h.box.put_other h3 _,
  AtIs.keeps (jaf.onePut W r o) (fun x z e=>h4 x z e) a h.at'⟩
end
def jdf(l:vL):Nat->Nat
 | 0=>0
 | n+1=>jdf l n+(cutL n l).length
def hN(L:vN)(n:Nat):Nat:=match L with | []=>0 | a :: _=>if a.toNat < n then 1 else 0
theorem jxN(p:Pair)(n:Nat):hN p.l (n+1)=hN p.l n+(if jeU n p=true then 1 else 0):=by
 have e:jeU n p=match p.l with | []=>false | a :: _=>a.toNat == n:=rfl
 rw[e];cases p.l with
 | nil=>rfl
 | cons a r =>
  simp only[hN,beq_iff_eq]
  by_cases h1:a.toNat=n
  ·rw[if_pos vO,if_neg vO,if_pos h1]
  ·by_cases h3:a.toNat < n
   ·rw[if_pos vO,if_pos h3,if_neg h1]
   ·rw[if_neg vO,if_neg h3,if_neg h1]
theorem jz6(L:vN)(n:Nat):hN L n<=1:=by
 cases L with
 | nil=>exact cE _
 | cons a r=>simp only[hN];split <;> omega
theorem jf5(p:Pair)(l:vL):∀ n,jdf (p :: l) n=jdf l n+hN p.l n
 | 0=>by
  have:hN p.l 0=0:=by cases p.l <;> simp[hN]
  rw[this];rfl
 | n+1=>by
  have h:(cutL n (p :: l)).length=(cutL n l).length+(if jeU n p=true then 1 else 0):=by
   unfold cutL;rw[dH];split <;> simp
  unfold jdf;rw[jf5 p l n,h,jxN];omega
theorem je9:∀ (l:vL) (n:Nat),jdf l n<=l.length
 | [],n=>by
  have:∀ n,jdf [] n=0:=fun n=>by induction n with
   | zero=>rfl
   | succ n ih=>unfold jdf;rw[ih];rfl
  rw[this];exact cE _
 | p :: l,n=>by
  rw[jf5,bF]
  have:=je9 l n
  have:=jz6 p.l n
  omega
theorem jdy:∀ (a b:List PT),jaH (a++b)=jaH a++jaH b
 | [],b=>by simp[jaH]
 | x :: a,b=>by simp only[cZ,jaH,jdy a b,cD]
theorem jiI(T:PT):(jaH (jbF T)).length<=(jax T).length:=by
 unfold jbF;split <;> simp[jaH]
theorem jAb(B:vL->PT)(F:Nat)(l:vL)(hB:∀ i,(cutL i l).length≠0->(jax (B (jak 1 (cutL i l)))).length<=F * (cutL i l).length):∀ n,(jaH (ksK B l n)).length<=F * jdf l n
 | 0=>by simp[ksK,jaH,jdf]
 | n+1=>by
  rw[jh5,jdy,bC];unfold jdf;rw[Nat.mul_add]
  have:=jAb B F l hB n
  by_cases h0:(cutL n l).length=0
  ·rw[if_pos h0];simp[jaH];omega
  ·rw[if_neg h0]
   have e:=hB n h0;have o:=jiI (B (jak 1 (cutL n l)));omega
theorem jnJ:∀ (f:Nat) (l:vL),l≠[]->(jax (jac (f+1) l)).length<=(f+1) * l.length
 | f,l,hl=>by
  have A:1<=l.length:=gB.2 hl;show (jax (.mk (jaP (jap (jac f) l)) (jav (jac f) l))).length<=_;unfold jax;rw[bF];have E:(jaH (jav (jac f) l)).length<=f * l.length:=by
   unfold jav;split
   ·simp[jaH]
   ·split
    ·cases f with
     | zero =>
      have h:=jiI (jac 0 (jak (comK l) l));have H:jbF (jac 0 (jak (comK l) l))=[]:=rfl;rw[H];simp[jaH]
     | succ f =>
      have h:=jiI (jac (f+1) (jak (comK l) l));have o:=jnJ f (jak (comK l) l) (fun e=>by have:=jaJ (comK l) l;rw[e]at this;simp at this;omega);rw[jaJ]at o;omega
    ·cases f with
     | zero =>
      have:∀ n,ksK (jac 0) l n=[]:=fun n=>by
       induction n with
       | zero=>rfl
       | succ n o =>
        rw[jh5,o];split
        ·rfl
        ·rfl
      have z:=this 16;unfold ksK at z;rw[z];simp[jaH]
     | succ f =>
      have h:=jAb (jac (f+1)) (f+1) l (fun i O=>by
       have o:=jnJ f (jak 1 (cutL i l)) (fun e=>by have:=jaJ 1 (cutL i l);rw[e]at this;simp at this;omega)
       rwa [jaJ]at o) 16
      have J:=Nat.mul_le_mul_left (f+1) (je9 l 16);have K:ksK (jac (f+1)) l 16=(List.range 16).flatMap fun i=>if (cutL i l).length=0 then []else jbF (jac (f+1) (jak 1 (cutL i l))):=rfl
      rw[<-K];exact bK h J
  have:(f+1) * l.length=f * l.length+l.length:=by rw[Nat.succ_mul]
  omega
theorem jpW{l:vL}(h:jux l):(jax (jaF l)).length<=13 * l.length+1:=by
 by_cases h0:l=[]
 ·subst h0
  show (jax (.mk (jaP (jap (jac 12) [])) (jav (jac 12) []))).length<=_
  have:jav (jac 12) []=[]:=rfl
  rw[this];simp[jax,jaH]
 ·have o:(jax (jaF l)).length<=13 * (jaR l).length:=jnJ 12 (jaR l) (fun e=>h0 (by unfold jaR at e;simpa using e))
  have z:(jaR l).length=l.length:=by unfold jaR;rw[cC]
  rw[z]at o;omega
section
attribute [local go_sem] Oper.semAt_some
theorem Tryz.makeMapSI(W:vW):(Instr.makeMap 61 none).run Tryz.prog W=.ok (.map (some W.heap.size)) (W.alloc (.map #[] 0)):=vY
theorem jpn(w:vW)(v:vV)(l:vL)(hc:jbY w)(hv:RdP w v l)(h:jaw l=0):vQ 6 #[v] w fun e w'=>∃ u n,e=.returned (.tuple #[u,.int .i64 0])/\SRow w w' u n (jbf (jax (jaF l))):=by
 have hm:=jaA h
 obtain⟨a,c,rfl⟩:=hv.sl;have HV:=Hd hv;have HM:=Hd hm;have HC:=Hd hc;have H:=Hd h;have HL:=Hd hm.len
 obtain⟨T,hT⟩:=vE (jaF l)
 rw[<-hT];have d0:=Hd hT;clear hv hm hc h hT;refine (callsIn_wide (n:=0)).1 ?_;refine callsIn_of_wp_marks Tryz.func6 rfl trivial ?_ rfl;simp only[Tryz.ntmps6,dL,bF,cF,Nat.reduceAdd,Nat.reduceSub,dO,dN,fC,dS,cP,cZ];gi_wp2_with fail
 refine⟨trivial,rfl,CallsIn.mono (callsIn_wide.2 (jhc w _ l HV.o (by have:=HL.o;omega) (fun p hp=>by have:=HM.o.size p hp;omega))) ?_⟩
 rintro e w1 ⟨rfl,E⟩;rw[H.o];have HE:=Hd E;have h7:=E.size;clear E;have f2:(Instr.makeMap 61 none).run Tryz.prog (w1.alloc (.cells #[.slice none 0 0] 28))=.ok (.map (some (w1.heap.size+1))) ((w1.alloc (.cells #[.slice none 0 0] 28)).alloc (.map #[] 0)):=by
  rw[<-bR w1 (.cells #[.slice none 0 0] 28)];exact Tryz.makeMapSI _
 gi_wp2_with fail
 obtain⟨W6,Q⟩:=vE (((w1.alloc (.cells #[.slice none 0 0] 28)).alloc (.map #[] 0)).alloc (.cells #[.map (some (w1.heap.size+1))] 61))
 rw[<-Q];have h8:W6.heap.size=w1.heap.size+3:=by rw[Q];simp
 have E6:Ext w1 W6:=by rw[Q];exact (((ExtR w1).alloc _).alloc _).alloc _
 have B5:Blk W6 w1.heap.size (.cells #[.slice none 0 0] 28):=by rw[Q];exact ((Blk.new w1 _).alloc _).alloc _
 have BM:Blk W6 (w1.heap.size+1) (.map #[] 0):=by
  rw[Q];have:=(Blk.new (w1.alloc (.cells #[.slice none 0 0] 28)) (.map #[] 0)).alloc (.cells #[.map (some (w1.heap.size+1))] 61);rwa [bR]at this
 have B6:Blk W6 (w1.heap.size+2) (.cells #[.map (some (w1.heap.size+1))] 61):=by
  rw[Q];have:=Blk.new ((w1.alloc (.cells #[.slice none 0 0] 28)).alloc (.map #[] 0)) (.cells #[.map (some (w1.heap.size+1))] 61);rwa [bR,bR]at this
 clear Q f2
 refine⟨trivial,rfl,CallsIn.mono (callsIn_wide.2 (jw0 W6 _ l ((HV.o.ext HE.o).ext E6) (by have:=HL.o;omega) (fun p hp=>by have:=HM.o.size p hp;omega))) ?_⟩
 rintro e w7 ⟨u,rfl,hr⟩;have HR:=Hd hr.rd;have X:Ext W6 w7:=hr.ext;clear hr
 obtain⟨a2,c2,hu⟩:=HR.o.sl
 subst hu;have f3:=Hd X;have d1:=Hd (B5.keeps X (fun h=>h));have d2:=Hd (BM.keeps X (fun h=>h));have d3:=Hd (B6.keeps X (fun h=>h));have b6:=Hd ((HE.o.trans E6).trans X);have i1:=X.size;clear B5 BM B6 E6 X;gi_wp2_with fail
 refine⟨trivial,rfl,CallsIn.mono (callsIn_wide.2 (jkp 12 (jaR l) (jbw HM.o) (by unfold jaR;rw[cC];have:=HL.o;omega) w7 _ (HC.o.ext b6.o) HR.o)) ?_⟩
 rintro e w8 ⟨k,rfl,hk,E⟩;have hk:=jbN.mono (A':=fun x=>w7.heap.size<=x/\x < w8.heap.size) (fun x h1 h2=>⟨h1,h2⟩) _ _ hk
 obtain⟨z,d4,d5,d6⟩:=jzD _ _ hk
 have i2:=E.size;have a4:=Hd (d1.o.keeps E (fun h=>h));have a5:=Hd (d2.o.keeps E (fun h=>h));have a6:=Hd (d3.o.keeps E (fun h=>h));have d7:=Hd (b6.o.trans E);have d8:=Hd d6;have a1:=Hd d5;rw[<-d4];clear hk d4 d5 d6 E d1 d2 d3 b6 f3 HR HE;gi_wp2_with fail
 refine⟨trivial,rfl,CallsIn.mono (callsIn_wide.2 (jBl w8 z.root)) ?_⟩
 rintro e w9 ⟨rfl,b7,E⟩;have b8:z.pt=T:=a1.o.trans d0.o.symm;have a7:(jax z.pt).length<=1000000:=by
  rw[b8,d0.o];have:=jpW HM.o;have:=HL.o;omega
 have i3:=b7.lt
 obtain⟨A,hA⟩:∃ A:Nat->Prop,A=fun x=>w7.heap.size<=x/\x < w8.heap.size:=⟨_,rfl⟩
 have S0:NodS w w1.heap.size w9.heap.size A w8.heap.size z (jax z.pt) 0 w9:=
  ⟨d7.o.trans E,⟨_,0,a4.o.keeps E (fun h=>h),by simpa [jbf]using gA _ _ _ _,bL _,fun b hb=>by cases hb⟩,⟨[],0,a5.o.keeps E (fun h=>h),fun x=>by simp[jaZ,cntB,cntV]⟩,a6.o.keeps E (fun h=>h),b7,by rw[hA];exact AtIs.keeps E (fun _ _ h=>h) _ d8.o⟩
 have b3:=Hd S0;have a8:∀ x,A x->w1.heap.size+2 < x/\x < w9.heap.size:=fun x hx=>by rw[hA]at hx;omega
 have g6:w1.heap.size+2 < w8.heap.size:=vO
 obtain⟨L,b9⟩:=vE (jax z.pt)
 have c0:=jzA A w8.heap.size z a7;rw[<-b9]at c0 a7 b3;have f4:=Hd c0;have f5:=Hd b9;have J:=Hd a8;have c9:=Hd b8;clear S0 E b7 hA d7 a4 a5 a6 d8 a1 b8 b9 c0 a8;unfold ptrV;gi_wp2_with fail
 refine jeD (N:=L.length) (gf:=54) (lb:=#[.pointer (some ⟨w8.heap.size,0,none⟩)]) rfl (vX 54) f4.o
  (fun k=>rfl) (NodS w w1.heap.size w9.heap.size A w8.heap.size z L) (fun _ _ _=>False) (fun k W W' h e=>h.st e) (fun _ _ _ _ h _=>h) (fun k W h=>⟨h.box,h.at'⟩)
  (fun k W o h=>h.put vO vO vO vO (fun x hx=>by have:=J.o x hx;omega) _)
  (fun k W o h=>h.put vO vO vO vO (fun x hx=>by have:=J.o x hx;omega) _) (fun _ _ _ _ h=>h)
  b3.o (fun k=>{ tmps:=#[.slice a l.length c,undef,.slice none 0 0,.int .i64 0,.int .i64 0,.pointer (some ⟨w1.heap.size,0,none⟩),.pointer (some ⟨w1.heap.size+1+1,0,none⟩),.string (L.getD k ⟨#[]⟩),.slice a l.length c,.int .i64 0,.int .i64 0,.bool false,undef,.map (some (w1.heap.size+1)),.slice a l.length c,.slice a2 (jaR l).length c2,.pointer (some ⟨z.root,0,none⟩),.func (.func 54) #[] #[.pointer (some ⟨w8.heap.size,0,none⟩)],.string (L.getD k ⟨#[]⟩),undef,undef,undef,undef,undef,undef,undef,undef,undef,undef,undef,undef,undef],defers:=[] })
  ?hassign ?hbody ?hdone ?hstop
 case hassign =>
  intro l2 j W K hK;unfold jrq;rw[jz5];simp only[dM,dF];gi_wp2;exact hK
 case hbody =>
  intro l2 k W hk h i4
  obtain⟨v,n,h1,h2,h3,h4⟩:=h.var
  obtain⟨ad,cp,rfl⟩:=jaU h2
  obtain⟨es,ck,h5,h6⟩:=h.tab
  obtain⟨x,hx⟩:=vE (L.getD k ⟨#[]⟩)
  rw[<-hx];have c1:L.take (k+1)=L.take k++[x]:=by
   rw[cT hk,hx,bG,bA hk];rfl
  obtain⟨cn,a3⟩:=vE (cntB (L.take k) x)
  have i5:cn<=1000000:=by
   rw[a3];unfold cntB;refine bK jI ?_;rw[cC,cQ];omega
  have e6:=h6 x;rw[<-a3]at e6;have d9:(Instr.lookup 61 (.map (some (w1.heap.size+1))) (.string x) false).run Tryz.prog W=.ok (.int .i64 (cn:Int)) W:=by
   have:=jcw Tryz.ES Tryz.uMapSI h5 (Tryz.zeroI W) x.data.toList false
   rw[e6]at this;unfold cntV at this
   by_cases h0:cn=0
   ·rw[if_pos h0]at this;rw[h0];exact this
   ·rw[if_neg h0]at this;exact this
  obtain⟨b4,Z⟩:=vE (jbs es x.data.toList (.int .i64 ((cn:Int)+1)) ck)
  obtain⟨c3,a9⟩:=vE (if (jaZ es x.data.toList).isSome then ck else ck+1)
  obtain⟨O,b5⟩:=vE (W.putObj (w1.heap.size+1) (.map (Tryz.ES.arr b4) c3))
  have e0:(Instr.mapUpdate 61 (.map (some (w1.heap.size+1))) (.string x) (.int .i64 ((cn:Int)+1))).run Tryz.prog W=.ok () O:=by
   have:=jb2 Tryz.ES Tryz.uMapSI h5 x.data.toList (.int .i64 ((cn:Int)+1))
   rw[<-Z, <-a9, <-b5]at this;exact this
  have B2:Blk O (w1.heap.size+1) (.map (Tryz.ES.arr b4) c3):=by rw[b5];exact h5.put_same _
  have e7:∀ y:vB,jaZ b4 y.data.toList=cntV (cntB (L.take (k+1)) y):=fun y=>by
   rw[Z,jcZ,h6 y,c1];have hc:cntB (L.take k++[x]) y=cntB (L.take k) y+(if x.data.toList=y.data.toList then 1 else 0):=by
    unfold cntB;rw[cB,List.count_append,bV,iO,List.count_singleton]
    simp
   rw[hc]
   by_cases hxy:y.data.toList=x.data.toList
   ·have f6:y=x:=ByteArray.ext (Array.ext' hxy)
    subst f6;rw[if_pos rfl,if_pos rfl, <-a3];unfold cntV;rw[if_neg vO];simp
   ·rw[if_neg hxy,if_neg (fun e=>hxy e.symm)];rfl
  have b0:(Instr.lookup 61 (.map (some (w1.heap.size+1))) (.string x) false).run Tryz.prog O=.ok (.int .i64 ((cn:Int)+1)) O:=by
   have:=jcw Tryz.ES Tryz.uMapSI B2 (Tryz.zeroI O) x.data.toList false
   rw[Z,jcZ,if_pos rfl]at this;exact this
  have K2:jaf (fun b=>b=w1.heap.size+1) W O:=by rw[b5];exact jaf.onePut _ _ _
  have q6:W.cell? ⟨w1.heap.size+1+1,0,none⟩=some (.map (some (w1.heap.size+1))):=h.mv.cell (i:=0) vF;have M2:=h.mv.keeps K2 vO;have i6:O.cell? ⟨w1.heap.size+1+1,0,none⟩=some (.map (some (w1.heap.size+1))):=M2.cell (i:=0) vF;have V2:=h1.keeps K2 vO;have O2:=jbc h2 K2 (fun b hb e=>by have:=h4 b hb;omega);have X2:=h.box.keeps K2 vO;have A2:=AtIs.keeps K2 (fun y hy e=>by have:=J.o y hy;omega) _ h.at';have E2:=h.ext.trans' K2 (fun y hy e=>by omega);have i7:=V2.cell (i:=0) (v:=.slice ad n cp) vF;have g7:O.frozen? ⟨w1.heap.size,0,none⟩=false:=V2.frozen;have b1:=Hd (show memB (jbf (L.take k)) x=true↔cn≠0 from by
   rw[jfH,jaX,a3];unfold cntB;rw[<-Nat.pos_iff_ne_zero,gX,bJ]
   exact⟨fun hm=>⟨x,hm,rfl⟩,fun ⟨y,hy,e⟩=>by rw[<-show y=x from ByteArray.ext (Array.ext' e)];exact hy⟩)
  have e1:=Hd (show jbf (L.take (k+1))=addF (jbf (L.take k)) x by rw[c1,jga]);have b2:=Hd (show ∃ es ck,Blk O (w1.heap.size+1) (.map (Tryz.ES.arr es) ck)/\∀ y:vB,jaZ es y.data.toList=cntV (cntB (L.take (k+1)) y)from⟨b4,c3,B2,e7⟩);have c4:=Hd K2;have e2:=Hd M2;have e3:=Hd V2;have e4:=Hd O2;have e5:=Hd X2;have a1:=Hd A2;have e8:=Hd E2;have H4:=Hd h4;clear h h1 h2 h4 h5 h6 hx c1 a3 e6 Z a9 b5 B2 e7 K2 M2 V2 O2 X2 A2 E2 b3
  obtain⟨i0,hi,f7,f8,f9⟩:=info_parts Tryz.infoStr
  by_cases hc0:cn=0
  ·subst hc0
   have e9:memB (jbf (L.take k)) x=false:=by
    cases hm:memB (jbf (L.take k)) x with
    | false=>rfl
    | true=>exact absurd rfl (b1.o.1 hm)
   have c5:=Hd e9;have g8:(Instr.lookup 61 (.map (some (w1.heap.size+1))) (.string x) false).run Tryz.prog W=.ok (.int .i64 0) W:=d9;have g9:(Instr.mapUpdate 61 (.map (some (w1.heap.size+1))) (.string x) (.int .i64 1)).run Tryz.prog W=.ok () O:=e0;have f1:(Instr.lookup 61 (.map (some (w1.heap.size+1))) (.string x) false).run Tryz.prog O=.ok (.int .i64 1) O:=b0;clear e9 d9 e0 b0;gi_wp2_with (gi_at_builtin;refine jb3 _ rfl (.tmp 27) (.tmp 29) 28 rfl 9 i0 _ 1 16 Tryz.uStrs hi f7 f8 f9 rfl vI (.slice ad n cp) n _ rfl (jbo e4.o ((ExtR O).alloc _)) ⟨O.heap.size,0,none⟩ 1 1 [.string x] rfl rfl (jaI (Blk.new O _)) (by simp[Value.oneCell']) (by unfold maxLen;omega) vO ?_;intro v' w6 r1 r2 r3;obtain⟨c6,c7,rfl⟩:=jaU r1;have c8:=(e3.o.alloc _).keeps r2 (fun e=>by have:=H4.o _ e;omega);have i8:w6.cell? ⟨w1.heap.size,0,none⟩=some (.slice ad n cp):=c8.cell (i:=0) vF;have i9:w6.frozen? ⟨w1.heap.size,0,none⟩=false:=c8.frozen)
   have a0:jbf (L.take (k+1))=jbf (L.take k)++[x]:=by rw[e1.o];unfold addF;rw[if_neg (by rw[c5.o];simp)]
   have g0:w6.ownsRow 0 9 1 (.slice c6 (n+1) c7) (n+1) ((jbf (L.take (k+1))).map Value.string):=by rw[a0,cB];exact r1
   have K6:jaf (fun b=>(Value.slice ad n cp).ownBlock=some b) O w6:=((jaf.refl _ O).alloc _).trans r2;have f0:∀ b,(Value.slice c6 (n+1) c7).ownBlock=some b->w9.heap.size+2<=b:=fun b hb=>by
    rcases r3 with r3 | r3
    ·exact H4.o b (r3 ▸ hb)
    ·have h9:=r3 b hb;have:=c4.o.size;rw[bR]at h9;omega
   have K7:jaf (fun b=>b=w1.heap.size) w6 (w6.setCell ⟨w1.heap.size,0,none⟩ (.slice c6 (n+1) c7)):=jaf.oneSet w6 ⟨w1.heap.size,0,none⟩ _;have nO:∀ b,b < w9.heap.size+2->¬(Value.slice ad n cp).ownBlock=some b:=fun b hb e=>by have:=H4.o b e;omega
   refine⟨((c4.o.mono (fun y _ e=>?_)).trans (K6.mono (fun y _ e=>?_))).trans (K7.mono (fun y _ e=>?_)),?_⟩
   ·have e:y=_:=e;show y≠_/\y≠_;omega
   ·have:=H4.o y e;show y≠_/\y≠_;omega
   ·have e:y=_:=e;show y≠_/\y≠_;omega
   ·obtain⟨g1,g2,g3,g4⟩:=b2.o
    exact⟨(e8.o.trans' K6 (fun y hy e=>by have:=H4.o y e;omega)).trans' K7 (fun y hy e=>by have e:y=_:=e;omega),
     ⟨_,n+1,c8.set_same (i:=0) _,jbc g0 K7 (fun b hb e=>by have:=f0 b hb;omega),by omega,f0⟩,
     ⟨g1,g2,(g3.keeps K6 (nO _ vO)).keeps K7 vO,g4⟩,(e2.o.keeps K6 (nO _ vO)).keeps K7 vO,(e5.o.keeps K6 (nO _ vO)).keeps K7 vO,
     AtIs.keeps K7 (fun y hy e=>by have:=J.o y hy;omega) _ (AtIs.keeps K6 (fun y hy=>nO y (by have:=J.o y hy;omega)) _ a1.o)⟩
  ·have j0:¬((cn:Int)+1=1):=vO
   have j1:(((cn:Int)+1) == 1)=false:=by simp;omega
   have hm:=b1.o.2 hc0;have c5:=Hd hm;clear hm;gi_wp2_with fail
   have a0:jbf (L.take (k+1))=jbf (L.take k):=by rw[e1.o];unfold addF;rw[if_pos c5.o]
   refine⟨c4.o.mono (fun y _ e=>?_),?_⟩
   ·have e:y=_:=e;show y≠_/\y≠_;omega
   ·exact⟨e8.o,⟨_,n,e3.o,by rw[a0];exact e4.o,by omega,H4.o⟩,b2.o,e2.o,e5.o,a1.o⟩
 case hdone =>
  intro W h hd
  obtain⟨v,n,h1,h2,h3,h4⟩:=h.var
  obtain⟨ad,cp,rfl⟩:=jaU h2
  have q5:W.cell? ⟨w1.heap.size,0,none⟩=some (.slice ad n cp):=h1.cell (i:=0) vF;rw[cJ,f5.o]at h2;have H2:=Hd h2;have H4:=Hd h4;have HX:=Hd h.ext;have HD:=Hd hd;have g5:Hid (z.pt=T):=c9.o;clear h h1 h2 h4 hd b3;gi_wp2_with fail
  refine⟨by simp,.inl ⟨_,_,rfl,run_takeDeferred HD.o,?_⟩⟩
  refine⟨_,results_tmp2 rfl _ _ _,?_⟩
  have hK:=jaf.onePut W w9.heap.size (.deferred none)
  refine⟨.slice ad n cp,n,rfl,⟨_,_,rfl⟩,by rw[<-g5.o];exact jbc H2.o hK (fun b hb e=>by have:=H4.o b hb;omega),HX.o.putObj (.inr vO) _,fun b hb=>by have:=H4.o b hb;omega⟩
 case hstop=>intro c k W _ _ h;exact h.elim
end
theorem jnI(x:vB)(r:vM):(jbf (x :: r))[0]?=some x:=by
 unfold jbf;rw[dE];have h:∀ (r e:vM),e[0]?=some x->(r.foldl addF e)[0]?=some x:=by
  intro r;induction r with
  | nil=>intro e h;exact h
  | cons y r ih =>
   intro e h;rw[dE];refine ih _ ?_;unfold addF;split
   ·exact h
   ·rw[dB (bP.1 h).1];exact h
 exact h r _ (by simp[addF,memB])
theorem jjN(T:PT):(jbf (jax T))[0]?=some T.text:=by
 obtain⟨t,ks⟩:=T
 unfold jax;exact jnI t _
theorem jd6(x y:vB):(x.toList == y.toList)=decide (x=y):=by
 by_cases h:x=y
 ·simp[h]
 ·have e:¬ x.toList=y.toList:=fun o=>h (jdL o)
  simp only[h,decide_false];exact beq_eq_false_iff_ne.2 e
theorem jbD{t:vB}:∀ {ks:List PT},t∈jaH ks↔∃ T∈ks,t∈jax T
 | []=>by simp[jaH]
 | T :: ks=>by
  unfold jaH;rw[bT,jbD (ks:=ks)];constructor
  ·rintro (h |⟨z,e,o⟩)
   ·exact⟨T,bH,h⟩
   ·exact⟨z,bE _ e,o⟩
  ·rintro⟨z,e,o⟩
   rcases bM.1 e with rfl | e
   ·exact .inl o
   ·exact .inr ⟨z,e,o⟩
theorem jBk{P:Program}{f:FuncId}{args:Array vV}{w:vW}{R R':vV->vW->Prop}
  (h:Calls P f args w fun | .returned v,w'=>R v w' | _,_=>False) (h':Calls P f args w fun | .returned v,w'=>R' v w' | _,_=>False) (hi:P.inits.idxOf? f=none) :
  ∃ v w',R v w'/\R' v w':=by
 obtain⟨n,v,w1,e,o⟩:=h.done hi
 obtain⟨m,E,H,z,A⟩:=h'.done hi
 have a:=runN_ended e m;have b:=runN_ended z n;rw[gL,a]at b;injection b with ho hw;injection ho with hv;subst hv hw
 exact⟨_,_,o,A⟩
theorem juB{P:Program}{f:FuncId}{args:Array vV}{w:vW}{a b:vV}{R R':vW->Prop}
  (h:Calls P f args w fun e w'=>e=.returned a/\R w') (h':Calls P f args w fun e w'=>e=.returned b/\R' w') (hi:P.inits.idxOf? f=none):a=b:=by
 obtain⟨v,w',z,A⟩:=jBk (R:=fun v _=>v=a) (R':=fun v _=>v=b)
  (h.mono fun e w' o=>by obtain⟨rfl,_⟩:=o;rfl) (h'.mono fun e w' o=>by obtain⟨rfl,_⟩:=o;rfl) hi
 exact z.symm.trans A
theorem jtb{n m:jad}(h:n.V=m.V):n=m:=by
 obtain⟨k,p,v,z⟩:=n
 obtain⟨A,O,Q,e⟩:=m
 unfold jad.V jad.cells at h;injection h with h;have h:=congrArg Array.toList h;simp only[List.toList_toArray,List.cons.injEq,Value.int.injEq,Value.string.injEq]at h
 obtain⟨⟨_,o⟩,E,H,J⟩:=h
 have K:z=e:=by
  have:∀ a b:vM,a.map Value.string=b.map Value.string->a=b:=fun a=>by
   induction a with
   | nil=>intro b hb;cases b with | nil=>rfl | cons x y=>cases hb
   | cons x r ih =>
    intro b hb;cases b with
    | nil=>cases hb
    | cons y t =>
     simp only[bV,List.cons.injEq,Value.string.injEq]at hb;rw[hb.1,ih t hb.2]
  exact this _ _ J
 have o:k=A:=vO
 subst o E H K;rfl
theorem jdl(w:vW){f g:Nat}{n m:jad}(hn:jbT (InlD f) n)(hm:jbT (InlD g) m)(h:jaP n=jaP m):n=m:=by
 have e:=jjP (inlP f) w n hn;have o:=jjP (inlP g) w m hm;rw[h]at e
 have:=juB e o vY
 injection this with this
 have:=congrArg Array.toList this
 simp only[List.toList_toArray,List.cons.injEq]at this;exact jtb this.1
theorem jke{a b:vB}(ha:a.size=32)(hb:b.size=32)(h:jan a=jan b):a=b:=by
 obtain⟨r,e,o⟩:=jdU a ha
 obtain⟨s,z,A⟩:=jdU b hb
 rw[h]at e o;rw[e]at z;obtain rfl:=bS z;rw[o]at A;exact bS A
theorem jfM{T:PT}(h:T.text.size < 32):refB T.text=T.text:=by unfold refB;rw[if_pos h]
theorem jgS{T:PT}(h:¬ T.text.size < 32):refB T.text=jan (shaB T.text):=by unfold refB;rw[if_neg h]
theorem jhm{f:Nat}{T:PT}{n:jad}(h:jdO f T n)(hs:T.text.size < 32):jax T=[T.text]:=by
 have e:=h.small hs
 obtain⟨x,ks⟩:=T
 have e:ks=[]:=e;subst e;unfold jax jaH;rfl
theorem jgF{T:PT}(h:¬ T.text.size < 32):jaH (jbF T)=jax T:=by
 unfold jbF;rw[if_neg h];simp[jaH]
theorem jbX(T:PT):T.text∈jax T:=by cases T;unfold jax;exact bH
theorem jbI{l:vL}(h:jas 0 l):l.length<=1:=by
 rcases fQ l.length 2 with h2 | h2
 ·omega
 ·obtain⟨a,o⟩:∃ a,l[0]?=some a:=⟨_,bA vO⟩
  obtain⟨b,hb⟩:∃ b,l[1]?=some b:=⟨_,bA vO⟩
  have e:=jca h.rise vO o hb
  have:=(h.size b (bI hb)).1
  rw[show b.l=[]from bD (by show b.1.size=0;omega)]at e;exact absurd e (not_lt_nil _)
theorem jbC{a b:vB}(h:a.data.toList=b.data.toList):a=b:=by
 obtain⟨⟨a⟩⟩:=a
 obtain⟨⟨b⟩⟩:=b
 simp only at h;subst h;rfl
def jcM(r:vB):Option vB:=(cutN r).bind (jfc r)
def jaM(n:jad):vM:=n.refs.filterMap jcM
theorem jfd:jcM ⟨#[]⟩=none:=by
 unfold jcM cutN;rw[dif_neg vI];rfl
theorem jeq{h:vB}(hs:h.size=32):jcM (jan h)=some h:=by
 obtain⟨r,e,o⟩:=jdU h hs
 unfold jcM;rw[e];exact o
theorem jdT{I:vB->jad->Prop}(HI:InlP I){r:vB}{m:jad}(h:I r m):jcM r=none:=by
 obtain⟨q,e,o⟩:=HI.nohash r m h
 unfold jcM;rw[e];exact o
theorem jl6{f:Nat}{T:PT}{n:jad}(h:jdO f T n):(jcM (refB T.text)).toList=(jbF T).map fun k=>shaB k.text:=by
 by_cases hs:T.text.size < 32
 ·rw[jdT (inlP (f+1)) (h.may.2 hs)]
  unfold jbF;rw[if_pos hs];rfl
 ·rw[jgS hs,jeq (jbk _)]
  unfold jbF;rw[if_neg hs];rfl
theorem jer(k:Nat):(jam k).filterMap jcM=[]:=by
 unfold jam;rw[List.filterMap_eq_nil_iff];intro r e;rw[fZ e,jfd]
theorem jiF{α:Type}(g:α->vB)(k:α->List PT):∀ L:List α,(∀ i∈L,(jcM (g i)).toList=(k i).map fun k=>shaB k.text)->(L.map g).filterMap jcM=(L.flatMap k).map fun k=>shaB k.text
 | [],_=>rfl
 | x :: L,h=>by
  rw[bV,cH,cB, <-jiF g k L fun i e=>h i (bE _ e), <-h x bH,gC];cases jcM (g x) <;> rfl
theorem jd5(f:Nat)(l:vL)(h:jas f l):jaM (jap (jac f) l)=(jav (jac f) l).map fun k=>shaB k.text:=by
 unfold jaM
 by_cases h0:l.length=0
 ·have z:jap (jac f) l=jaG:=by unfold jap;rw[if_pos h0]
  have A:jav (jac f) l=[]:=by unfold jav;rw[if_pos vO]
  rw[z,A];exact jer 16
 by_cases h1:l.length=1
 ·have z:jap (jac f) l=⟨1,(l.getD 0 pd).1,(l.getD 0 pd).2,jam 16⟩:=by unfold jap;rw[if_neg h0,if_pos h1]
  have A:jav (jac f) l=[]:=by unfold jav;rw[if_pos vO]
  rw[z,A];exact jer 16
 have O:2<=l.length:=vO
 cases f with
 | zero=>have:=jbI h;omega
 | succ f =>
  by_cases hk:0 < comK l
  ·have o:=jbl h O
   have E:jas f (jak (comK l) l):=(jb9 (comK l) h (fun p H q Q=>(o p H).1.trans (o q Q).1.symm) (fun p H=>(o p H).2)).mono vO;have J:jak (comK l) l≠[]:=fun e=>by have:=jaJ (comK l) l;rw[e]at this;simp at this;omega
   have K:=(good f _ E).2.1 J;have z:jap (jac (f+1)) l=⟨2,(l.getD 0 pd).1.extract 0 (comK l),⟨#[]⟩,refB (jac (f+1) (jak (comK l) l)).text :: jam 15⟩:=by unfold jap;rw[if_neg h0,if_neg h1,if_pos hk]
   have A:jav (jac (f+1)) l=jbF (jac (f+1) (jak (comK l) l)):=by unfold jav;rw[if_neg vO,if_pos hk]
   rw[z,A, <-jl6 K];show (refB (jac (f+1) (jak (comK l) l)).text :: jam 15).filterMap jcM=_;rw[gC,jer];cases jcM (refB (jac (f+1) (jak (comK l) l)).text) <;> rfl
  ·have z:(jap (jac (f+1)) l).refs=(List.range 16).map fun i=>if (cutL i l).length=0 then ⟨#[]⟩else refB (jac (f+1) (jak 1 (cutL i l))).text:=by unfold jap;rw[if_neg h0,if_neg h1,if_neg hk]
   have A:jav (jac (f+1)) l=(List.range 16).flatMap fun i=>if (cutL i l).length=0 then []else jbF (jac (f+1) (jak 1 (cutL i l))):=by unfold jav;rw[if_neg vO,if_neg hk]
   rw[z,A];refine jiF _ _ _ fun i X=>?_
   by_cases hc:(cutL i l).length=0
   ·rw[if_pos hc,if_pos hc,jfd];rfl
   ·rw[if_neg hc,if_neg hc]
    exact jl6 ((good f _ (jdq i h)).2.1 (fun e=>by have:=jaJ 1 (cutL i l);rw[e]at this;simp at this;omega))
theorem jig{f:Nat}{l:vL}(h:jas f l){K:PT}(o:K∈jav (jac f) l):∃ g m,f=g+1/\K=jac (g+1) m/\jas g m/\32<=K.text.size:=by
 have A:∀ {T:PT},K∈jbF T->K=T/\32<=K.text.size:=fun {T} h=>by
  unfold jbF at h;split at h
  ·cases h
  ·rw[bZ]at h;subst h;exact⟨rfl,by omega⟩
 unfold jav at o
 by_cases h1:l.length<=1
 ·rw[if_pos h1]at o;cases o
 rw[if_neg h1]at o;cases f with
 | zero=>have:=jbI h;omega
 | succ f =>
  by_cases hk:0 < comK l
  ·rw[if_pos hk]at o
   have z:=jbl h vO;have E:jas f (jak (comK l) l):=(jb9 (comK l) h (fun p H q O=>(z p H).1.trans (z q O).1.symm) (fun p H=>(z p H).2)).mono vO
   obtain⟨e,J⟩:=A o
   exact⟨f,_,rfl,e,E,J⟩
  ·rw[if_neg hk]at o
   obtain⟨i,_,o⟩:=cR.1 o
   split at o
   ·cases o
   ·obtain⟨e,J⟩:=A o
    exact⟨f,_,rfl,e,jdq i h,J⟩
def jbr(t:vB)(n:jad):Prop:=t=jaP n/\∃ g,jbT (InlD g) n
structure jrf(L B:vM):Prop where
 node:∀ t∈L,∃ n,jbr t n/\∀ h∈jaM n,∃ t'∈L,h=shaB t'
 told:∀ t∈B,32<=t.size/\∃ t'∈L,∃ n,jbr t' n/\shaB t∈jaM n
theorem jwL:∀ (f:Nat) (l:vL),jas f l->jrf (jax (jac (f+1) l)) (jaH (jav (jac f) l)):=by
 intro f;induction f with
 | zero =>
  intro l h;have e2:jav (jac 0) l=[]:=by have:=jbI h;unfold jav;rw[if_pos vO]
  have Q:jax (jac (0+1) l)=[jaP (jap (jac 0) l)]:=by
   show jax (.mk (jaP (jap (jac 0) l)) (jav (jac 0) l))=_;rw[jax,e2];simp[jaH]
  have X:=jd5 0 l h;rw[e2]at X;rw[Q,e2]
  refine⟨fun t o=>?_,fun t o=>by simp[jaH]at o⟩
  rw[bZ]at o
  exact⟨_,⟨o,0,(good 0 l h).1⟩,fun x J=>by rw[X]at J;cases J⟩
 | succ f ih =>
  intro l h;have Q:jax (jac (f+1+1) l)=jaP (jap (jac (f+1)) l) :: jaH (jav (jac (f+1)) l):=by
   show jax (.mk (jaP (jap (jac (f+1)) l)) (jav (jac (f+1)) l))=_;rw[jax]
  have X:=jd5 (f+1) l h;have A:jbr (jaP (jap (jac (f+1)) l)) (jap (jac (f+1)) l):=⟨rfl,f+1,(good (f+1) l h).1⟩;have E:∀ {K:PT},K∈jav (jac (f+1)) l->∀ t∈jax K,t∈jax (jac (f+1+1) l):=fun {K} z t o=>by
   rw[Q];exact bE _ (jbD.2 ⟨K,z,o⟩)
  have H:∀ {K:PT},K∈jav (jac (f+1)) l->∃ m,K=jac (f+1) m/\jas f m/\32<=K.text.size:=fun {K} z=>by
   obtain⟨g,m,e,Z,h2,h3⟩:=jig h z
   obtain rfl:f=g:=vO
   exact⟨m,Z,h2,h3⟩
  constructor
  ·intro t o
   rw[Q]at o;rcases bM.1 o with rfl | o
   ·refine⟨_,A,fun x J=>?_⟩
    rw[X]at J
    obtain⟨K,z,rfl⟩:=bJ.1 J
    exact⟨_,E z _ (jbX K),rfl⟩
   ·obtain⟨K,z,o⟩:=jbD.1 o
    obtain⟨m,rfl,hm,_⟩:=H z
    obtain⟨n,Z,h2⟩:=(ih m hm).node t o
    exact⟨n,Z,fun x J=>by obtain⟨t',O,e⟩:=h2 x J;exact⟨t',E z _ O,e⟩⟩
  ·intro t o
   obtain⟨K,z,o⟩:=jbD.1 o
   obtain⟨m,rfl,hm,a0⟩:=H z
   have eK:jax (jac (f+1) m)=jaP (jap (jac f) m) :: jaH (jav (jac f) m):=by
    show jax (.mk (jaP (jap (jac f) m)) (jav (jac f) m))=_;rw[jax]
   rw[eK]at o;rcases bM.1 o with rfl | o
   ·refine⟨a0,_,?_,_,A,?_⟩
    ·rw[Q];exact bH
    ·rw[X];exact bJ.2 ⟨_,z,rfl⟩
   ·obtain⟨Z,t',O,n,h2,h3⟩:=(ih m hm).told t o
    exact⟨Z,t',E z _ O,n,h2,h3⟩
theorem jhI(l:vM):(jbf l).Nodup:=by
 unfold jbf
 have:∀ (l o:vM),o.Nodup->(l.foldl addF o).Nodup:=fun l=>by
  induction l with
  | nil=>exact fun _ h=>h
  | cons x r ih =>
   intro o h;rw[dE];refine ih _ ?_;unfold addF;split
   ·exact h
   ·rename_i hn
    have z:x ∉ o:=fun A=>hn ((jfH o x).2 A);rw[fD]
    exact⟨h,by simp,fun a E b hb e=>by simp at hb;subst hb;subst e;exact z E⟩
 exact this l [] (by simp)
structure jzw(L:vM)(top:vB):Prop where
 head:L[0]?=some top
 nodup:L.Nodup
 node:∀ t∈L,∃ n,jbr t n/\∀ h∈jaM n,∃ t'∈L,h=shaB t'
 told:∀ (i:Nat) t,L[i+1]?=some t->32<=t.size/\∃ t'∈L,∃ n,jbr t' n/\shaB t∈jaM n
theorem jhT{l:vL}(h:jaw l=0):jzw (jbf (jax (jaF l))) (jaF l).text:=by
 have H:=jwL 12 (jaR l) (jbw (jaA h));have X:jax (jaF l)=(jaF l).text :: jaH (jav (jac 12) (jaR l)):=by
  show jax (.mk (jaP (jap (jac 12) (jaR l))) (jav (jac 12) (jaR l)))=_;rw[jax];rfl
 have H:jrf (jax (jaF l)) (jaH (jav (jac 12) (jaR l))):=H;have z:=jhI (jax (jaF l))
 refine⟨jjN _,z,fun t J=>?_,fun i t J=>?_⟩
 ·obtain⟨n,A,E⟩:=H.node t ((jaX _ _).1 J)
  exact⟨n,A,fun x Z=>by obtain⟨O,o,e⟩:=E x Z;exact⟨O,(jaX _ _).2 o,e⟩⟩
 ·have K:=(jaX _ _).1 (bI J)
  have Q:t≠(jaF l).text:=fun e=>by
   have h0:=jjN (jaF l)
   obtain⟨A,e1⟩:=bP.1 J
   obtain⟨E,e2⟩:=bP.1 h0
   exact gU.1 z 0 (i+1) E A vO (e2.trans (e.symm.trans e1.symm))
  rw[X]at K;rcases bM.1 K with e | K
  ·exact absurd e Q
  ·obtain⟨A,O,o,n,E⟩:=H.told t K
   exact⟨A,O,(jaX _ _).2 o,n,E⟩
theorem jet(w:vW){t:vB}{n m:jad}(h:jbr t n)(k:jbr t m):n=m:=by
 obtain⟨e,f,o⟩:=h
 obtain⟨z,g,A⟩:=k
 exact jdl w o A (e.symm.trans z)
section
section mixr
variable {P:Program} {l:List Oper} {lr:Nat} {R:Act->vW->Prop}
def jel(R:Act->vW->Prop):Exit->Act->vW->Prop:=fun e a w=>e=.normal/\R a w
theorem jjV:¬ LetsOut (jel R):=fun ⟨_,_,h,_⟩=>by cases h
theorem jhE{o:Oper}{a:Act}{w:vW}{K K':Act->vW->Prop}{Q:Exit->Act->vW->Prop}(hd:∀ c,o.op≠.defer c)(hK:∀ a w,K a w->K' a w)(h:o.wp P a w K (jel R)) :
  o.wpIn (Fence.wide.inRound lr) 0 P a w K' Q:=by
 unfold Oper.wp at h
 refine⟨fun _ _=>trivial,?_⟩
 rw[Oper.semAt_eq _ _ _ hd];generalize (execOp a.eval o).run P w=r at *;cases r with
 | ok x w' =>
  cases x with
  | value v=>exact hK _ _ h
  | skip=>exact hK _ _ h
  | defer d=>exact hK _ _ h
  | enter f args =>
   refine bB (fun z=>absurd z (by simp[Fence.wide])) (CallsIn.inRound lr (callsIn_wide.2 (Calls.mono h fun e E A=>?_)));cases e with
   | returned v=>exact hK _ _ A
   | panicked c=>cases A.1
   | outgrown=>exact absurd A jjV
  | row r args=>exact bB (fun z=>absurd z (by simp[Fence.wide])) (fun c cs _=>let ⟨v,w',r,s⟩:=h c cs;⟨v,w',hK _ _ r,stepsIn_wide.2 s⟩)
  | round l f t a b=>exact h.elim
  | _=>exact h.elim
 | halt x w' =>
  cases x <;> first | exact h.elim | cases h.1
theorem jlB(hnd:jkO l.toArray=true):∀ (z:Nat) (e:Array Bool) (a:Act) (w:vW),wpAny P .any l.toArray (jel R) z e a w->wpAnyIn (Fence.wide.inRound lr) 0 P .any l.toArray (jel R) z e a w:=by
 have H:∀ (i:Nat) (o:Oper),l.toArray[i]?=some o->∀ c,o.op≠.defer c:=by
  intro i o E c J;unfold jkO at hnd;rw[fB]at hnd
  have:=hnd o (by simpa using bI (by simpa using E))
  rw[J]at this;simp at this
 intro z;induction z with
 | zero=>exact fun _ _ _ h=>h
 | succ z ih =>
  intro e a w h
  refine⟨h.1,fun i K=>?_⟩
  have A:=h.2 i K;unfold wpOp at A;unfold wpOpIn;split
  ·rename_i E;simp only[E]at A;exact ih _ _ _ A
  ·rename_i o E
   simp only[E]at A;split
   ·rename_i hw;simp only[hw,if_true]at A
    rcases A with A | A
    ·exact jhE (H i o E) (fun a w h=>ih _ a w h) A
    ·exact absurd A.2 jjV
   ·rename_i hw;simp only[hw]at A
    exact⟨fun _ _=>trivial,ih _ _ _ A⟩
theorem jlo(hm:P.follows .mixedOrders=true)(hnd:jkO l.toArray=true){id:Nat}{Q:Exit->Act->vW->Prop}{a:Act}{w:vW}(hq:∀ a w,R a w->Q .normal a w)
  (h:wpAny P .any l.toArray (jel R) l.toArray.size (Array.replicate l.toArray.size false) a w.drew):(Code.region id l.toArray true).wpIn (Fence.wide.inRound lr) 0 P Q a w:=
 wpIn_mono (wpIn_region_any hm (jlB hnd _ _ _ _ h)) fun e a w ⟨o,z⟩=>by subst o;exact hq _ _ z
theorem jhF(ord hd:List Nat)(E:vW->vW->Prop)(hE:∀ w,E w w)(hT:∀ x y z,E x y->E y z->E x z){id:Nat}{Q:Exit->Act->vW->Prop}{a:Act}{w:vW}
  (hm:P.follows .mixedOrders=true) (hnd:jkO l.toArray=true) (hs:Region.noSelect l.toArray=true) (hl:ord.length=l.toArray.size)
  (h:Mix P l hd E (fun a w=>Q .normal a w) ord [] a w.drew):(Code.region id l.toArray true).wpIn (Fence.wide.inRound lr) 0 P Q a w:=by
 refine jlo (R:=fun a w=>Q .normal a w) hm hnd (fun _ _ h=>h) ?_;rw[<-hl]
 have:=jeG hE hT hs ord _ _ _ h
 unfold jbj at this;rw[hl]at this ⊢;exact jg6 hE (fun _ _ h=>⟨rfl,h⟩) _ _ _ _ this
theorem jm8{ops:Array Oper}{rest:List Oper}{o:Oper}{a:Act}{w:vW}{Q:Exit->Act->vW->Prop}{T:TypeId}{cs:List vV}(hrun:∀ w,(Instr.alloc T true (.tuple #[])).run P w=.ok (.pointer (some ⟨w.heap.size,0,none⟩)) (w.alloc (.cells cs.toArray T)))(hgd:o.guard=none)(ho:o.op=.alloc T)
  (h:∀ W,Blk W w.heap.size (.cells cs.toArray T)->Ext w W->wpListIn (Fence.wide.inRound lr) 0 P ops Q rest (a.put o.dst (.pointer (some ⟨w.heap.size,0,none⟩))) W):wpListIn (Fence.wide.inRound lr) 0 P ops Q (o :: rest) a w:=
 wpListIn_plain hgd fun K e=>jhE (R:=fun _ _=>False) (by rw[ho];intro c z;cases z) (fun _ _ h=>h) (jcb (v:=.pointer (some ⟨w.heap.size,0,none⟩)) (w':=w.alloc (.cells cs.toArray T)) (by simp only[execOp,ho,bX,hrun,Result.andThen,cO]) (e _ _ (h _ (Blk.new w _) ((ExtR w).alloc _))))
theorem jlp{ops:Array Oper}{rest:List Oper}{o:Oper}{a:Act}{w:vW}{Q:Exit->Act->vW->Prop}{T T2:TypeId}{x y:Operand}{b:Nat}{old vs:List vV}(hgd:o.guard=none)(ho:o.op=.store T x y)(hx:a.eval x=.pointer (some ⟨b,0,none⟩))(hy:a.eval y=.agg vs.toArray)
  (hB:Blk w b (.cells old.toArray T2)) (hl:old.length=vs.length) (hi:(P.info? T).map (·.size)=some vs.length) (h1:∀ v∈vs,v.oneCell'=true)
  (h:∀ W,Blk W b (.cells vs.toArray T2)->jaf (fun z=>z=b) w W->wpListIn (Fence.wide.inRound lr) 0 P ops Q rest (a.put o.dst undef) W):wpListIn (Fence.wide.inRound lr) 0 P ops Q (o :: rest) a w:=by
 refine wpListIn_plain hgd fun K e=>jhE (R:=fun _ _=>False) (by rw[ho];intro c A;cases A) (fun _ _ h=>h) ?_;refine wp_store_mid T x y ho b 0 vs.toArray hx hy (by have:=jlh hB;rw[hl]at this;simpa using this) (by simpa using hi) (all_oneCell_toArray h1) (e _ _ (h _ ?_ (jaf.oneSetCells b vs 0 w)))
 have:=Blk.setCells vs 0 w old hB vO
 rw[iC vO]at this;simpa using this
end mixr
end
