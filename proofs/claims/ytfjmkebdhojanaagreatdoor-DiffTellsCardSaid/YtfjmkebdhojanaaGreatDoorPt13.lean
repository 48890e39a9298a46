/- Lemmas; each is under no condition but those that it states. -/
import Derived.Test.YtfjmkebdhojanaaGreatDoorPt12
import Derived.Laws.Cover1
namespace Go.Proofs.YtfjmkebdhojanaaGreatDoor
set_option linter.unusedSimpArgs false
set_option linter.unusedVariables false
set_option maxRecDepth 100000
set_option maxHeartbeats 16000000
open Go Go.RowKit
abbrev Pair:=vB × vB
abbrev vL:=List Pair
def jcB(k:vB):Bool:=decide (0 < k.size/\k.size<=6)
def jbY(k:vB):Bool:=decide (0 < k.size/\k.size<=80)
theorem jby{s:vB}(h:s.size=0):s=⟨#[]⟩:=by
 obtain⟨⟨l⟩⟩:=s
 cases l with
 | nil=>rfl
 | cons x y=>exact absurd h (iI _)
theorem jhl(w:vW)(k:vB)(hs:k.size<=9223372036854775807):vQ 66 #[.string k] w fun e w'=>e=.returned (.bool (jcB k))/\w'=w:=by
 by_cases h0:k.size=0
 ·have:=jby h0
  subst this;unfold vQ;go_in;go_wp2_with fail
  go_ret
  exact⟨rfl,rfl⟩
 ·have A:=jbe (s:=k) vO
  by_cases h6:k.size<=6
  ·have c:(k.size:Int)<=6:=vO
   have e:jcB k=true:=by unfold jcB;simp;omega
   have E:=Hd e;clear e;unfold vQ;go_in;go_wp2_with fail
   go_ret
   exact⟨by rw[E.o];rfl,rfl⟩
  ·have c:¬(k.size:Int)<=6:=vO
   have e:jcB k=false:=by unfold jcB;simp;omega
   have E:=Hd e;clear e;unfold vQ;go_in;go_wp2_with fail
   go_ret
   exact⟨by rw[E.o];rfl,rfl⟩
theorem jgW(w:vW)(k:vB)(hs:k.size<=9223372036854775807):vQ 67 #[.string k] w fun e w'=>e=.returned (.bool (jbY k))/\w'=w:=by
 by_cases h0:k.size=0
 ·have:=jby h0
  subst this;unfold vQ;go_in;go_wp2_with fail
  go_ret
  exact⟨rfl,rfl⟩
 ·have A:=jbe (s:=k) vO
  by_cases h6:k.size<=80
  ·have c:(k.size:Int)<=80:=vO
   have e:jbY k=true:=by unfold jbY;simp;omega
   have E:=Hd e;clear e;unfold vQ;go_in;go_wp2_with fail
   go_ret
   exact⟨by rw[E.o];rfl,rfl⟩
  ·have c:¬(k.size:Int)<=80:=vO
   have e:jbY k=false:=by unfold jbY;simp;omega
   have E:=Hd e;clear e;unfold vQ;go_in;go_wp2_with fail
   go_ret
   exact⟨by rw[E.o];rfl,rfl⟩
def RdP(w:vW)(v:vV)(xs:vL):Prop:=
 (∃ a c,v=.slice a 0 c/\xs=[])\/∃ b o c,v=.slice (some ⟨b,o,none⟩) xs.length c/\b < w.heap.size/\xs.length<=c/\∀ (j:Nat) x,xs[j]?=some x->w.cell? ⟨b,o+j * 2,none⟩=some (.string x.1)/\w.cell? ⟨b,o+j * 2+1,none⟩=some (.string x.2)
theorem RdP.ext{w w':vW}{v:vV}{xs:vL}(h:RdP w v xs)(k:Ext w w'):RdP w' v xs:=by
 rcases h with h |⟨b,o,c,h1,h2,h3,h4⟩
 ·exact .inl h
 ·exact .inr ⟨b,o,c,h1,bQ h2 k.size,h3,fun j x e=>⟨jaa (h4 j x e).1 k,jaa (h4 j x e).2 k⟩⟩
theorem RdP.sl{w:vW}{v:vV}{xs:vL}(h:RdP w v xs):∃ a c,v=.slice a xs.length c:=by
 rcases h with⟨a,c,h1,h2⟩ |⟨b,o,c,h1,_⟩
 ·exact⟨a,c,by rw[h1,h2];rfl⟩
 ·exact⟨_,c,h1⟩
def Pair.V(p:Pair):vV:=.agg #[.string p.1,.string p.2]
def badN(l:vL)(i:Nat):Bool := !jcB (l.getD i (⟨#[]⟩,⟨#[]⟩)).1 || !jbY (l.getD i (⟨#[]⟩,⟨#[]⟩)).2 ||(decide (0 < i) && !jbc (l.getD (i - 1) (⟨#[]⟩,⟨#[]⟩)).1 (l.getD i (⟨#[]⟩,⟨#[]⟩)).1)
def jaz(l:vL):Int:=if (List.range l.length).any (badN l)then 1 else if 40 < l.length then 12 else 0
def jyU(w:vW)(l:vL)(i:vV)(wr:vW):Prop:=∃ k:Nat,k<=l.length/\i=.int .i64 k/\Ext w wr/\(List.range k).any (badN l)=false
theorem jg8(w:vW)(v:vV)(l:vL)(hv:RdP w v l)(hn:l.length<=9223372036854775807)(hs:∀ p∈l,p.1.size<=9223372036854775807/\p.2.size<=9223372036854775807):vR 36 #[v] w (.int .i64 (jaz l)):=by
 obtain⟨a,c,b3⟩:=hv.sl
 have HV:=Hd hv;have HS:=Hd hs;subst b3;clear hv hs;unfold vR vQ;go_in;go_wp2_with fail
 go_loopw [7] (fun i wr=>jyU w l i wr) (fun i _=>l.length - (intOf i).toNat)
 case atStart=>exact⟨0,by omega,rfl,ExtR w,rfl⟩
 case round =>
  obtain⟨k,hk,rfl,hE,a7⟩:=hrel
  have HE:=Hd hE;have a2:=Hd a7;clear hE a7
  by_cases hlt:k < l.length
  ·rcases HV.o with⟨_,_,_,h0⟩ |⟨b,o,c',hh,hb,hc,hcell⟩
   ·rw[h0]at hlt;cases hlt
   cases hh
   obtain⟨p,hp⟩:∃ p,l[k]?=some p:=⟨_,bA hlt⟩
   obtain⟨q1,q2⟩:=hcell k p hp
   have q1:=jaa q1 HE.o;have q2:=jaa q2 HE.o;have b1:(k:Int) < (l.length:Int):=vO
   obtain⟨x,y⟩:=p
   simp only at q1 q2;have O:l.getD k (⟨#[]⟩,⟨#[]⟩)=(x,y):=by rw[bH,hp];rfl
   have a1:=HS.o (x,y) (bI hp);have a6:=Hd a1.1;have a8:=Hd a1.2;have a3:(wr.alloc (.cells #[.string x,.string y] 42)).cell? ⟨wr.heap.size,0,none⟩=some (.string x):=(Blk.new wr _).cell vF;have a4:(wr.alloc (.cells #[.string x,.string y] 42)).cell? ⟨wr.heap.size,1,none⟩=some (.string y):=(Blk.new wr _).cell vF;have Q0:=Hd a3;have Q1:=Hd a4;have H:badN l k=true->jaz l=1:=fun h=>by
    unfold jaz;rw[if_pos (fP.2 ⟨k,fA.2 hlt,h⟩)]
   have J:badN l k=false->(List.range (k+1)).any (badN l)=false:=fun h=>by
    rw[fR,List.any_append,a2.o];simp[h]
   cases hk1:jcB x with
   | false =>
    have Z:=Hd (H (by unfold badN;rw[O,hk1];rfl));have HK:=Hd hk1;clear hk1 O a1 a3 a4 H J hcell hp;go_wp2_with fail
    refine jag (List.range 25) Ext ExtR ExtT vY vY vY ?_;simp only[List.range,List.range.loop]
    refine vK ?_
    refine qKL ⟨wr.heap.size,0,none⟩ _ rfl (fun Q A=>jab Tryz.uStr rfl (jaa (by exact Q0.o) A)) ?_;refine vS ?_;refine qKC _ 66 #[.string x] (.bool false) rfl (fun w1=>jat (vX 66) vY) (fun w1 K=>(jhl w1 x (by have:=a6.o;omega)).mono (fun e Q ⟨K,A⟩=>⟨by rw[K,HK.o],A ▸ ExtR w1⟩)) ?_;refine vS ?_;iterate 2 refine vK ?_
    iterate 4 (refine qKS _ rfl ?_;refine vS ?_)
    iterate 2 refine vK ?_
    iterate 3 (refine qKS _ rfl ?_;refine vS ?_)
    iterate 9 (refine qKS _ rfl ?_;refine vS ?_)
    (refine qKS _ rfl ?_;refine vS ?_)
    refine vK ?_
    refine qKE (fun w3 he=>?_);have X:=Hd (((HE.o.alloc _).trans (jai _)).trans he);clear he;go_wp2_with fail
    go_ret
    exact⟨by rw[Z.o];rfl,X.o⟩
   | true =>
    cases hv1:jbY y with
    | false =>
     have Z:=Hd (H (by unfold badN;rw[O,hk1,hv1];rfl));have HK:=Hd hk1;have a5:=Hd hv1;clear hk1 hv1 O a1 a3 a4 H J hcell hp;go_wp2_with fail
     refine jag (List.range 25) Ext ExtR ExtT vY vY vY ?_;simp only[List.range,List.range.loop]
     refine vK ?_
     refine qKL ⟨wr.heap.size,0,none⟩ _ rfl (fun Q A=>jab Tryz.uStr rfl (jaa (by exact Q0.o) A)) ?_;refine vS ?_;refine qKC _ 66 #[.string x] (.bool true) rfl (fun w1=>jat (vX 66) vY) (fun w1 K=>(jhl w1 x (by have:=a6.o;omega)).mono (fun e Q ⟨K,A⟩=>⟨by rw[K,HK.o],A ▸ ExtR w1⟩)) ?_;refine vS ?_;iterate 3 refine vK ?_
     refine qKL ⟨wr.heap.size,1,none⟩ _ rfl (fun Q A=>jab Tryz.uStr rfl (jaa (by exact Q1.o) A)) ?_;refine vS ?_;refine qKC _ 67 #[.string y] (.bool false) rfl (fun w1=>jat (vX 67) vY) (fun w1 K=>(jgW w1 y (by have:=a8.o;omega)).mono (fun e Q ⟨K,A⟩=>⟨by rw[K,a5.o],A ▸ ExtR w1⟩)) ?_;refine vS ?_;iterate 3 refine vK ?_
     iterate 3 (refine qKS _ rfl ?_;refine vS ?_)
     iterate 9 (refine qKS _ rfl ?_;refine vS ?_)
     (refine qKS _ rfl ?_;refine vS ?_)
     refine vK ?_
     refine qKE (fun w3 he=>?_);have X:=Hd (((HE.o.alloc _).trans (jai _)).trans he);clear he;go_wp2_with fail
     go_ret
     exact⟨by rw[Z.o];rfl,X.o⟩
    | true =>
     by_cases hk0:k=0
     ·have a0:=Hd (J (by unfold badN;rw[O,hk1,hv1,hk0];rfl))
      subst hk0;rw[gI,fN]at q1 q2;have HK:=Hd hk1;have a5:=Hd hv1;clear hk1 hv1 O a1 a3 a4 H J hcell hp;go_wp2_with fail
      refine jag (List.range 25) Ext ExtR ExtT vY vY vY ?_;simp only[List.range,List.range.loop]
      refine vK ?_
      refine qKL ⟨wr.heap.size,0,none⟩ _ rfl (fun Q A=>jab Tryz.uStr rfl (jaa (by exact Q0.o) A)) ?_;refine vS ?_;refine qKC _ 66 #[.string x] (.bool true) rfl (fun w1=>jat (vX 66) vY) (fun w1 K=>(jhl w1 x (by have:=a6.o;omega)).mono (fun e Q ⟨K,A⟩=>⟨by rw[K,HK.o],A ▸ ExtR w1⟩)) ?_;refine vS ?_;iterate 3 refine vK ?_
      refine qKL ⟨wr.heap.size,1,none⟩ _ rfl (fun Q A=>jab Tryz.uStr rfl (jaa (by exact Q1.o) A)) ?_;refine vS ?_;refine qKC _ 67 #[.string y] (.bool true) rfl (fun w1=>jat (vX 67) vY) (fun w1 K=>(jgW w1 y (by have:=a8.o;omega)).mono (fun e Q ⟨K,A⟩=>⟨by rw[K,a5.o],A ▸ ExtR w1⟩)) ?_;refine vS ?_;iterate 6 refine vK ?_
      iterate 9 (refine qKS _ rfl ?_;refine vS ?_)
      iterate 2 refine vK ?_
      refine qKE (fun w3 he=>?_);have X:=Hd (((HE.o.alloc _).trans (jai _)).trans he);clear he;go_wp2_with fail
      go_roundw
      case rel=>exact⟨0+1,by omega,by go_num,X.o,a0.o⟩
      case measure=>exact vJ
     ·obtain⟨pp,a9⟩:∃ p,l[k - 1]?=some p:=⟨_,bA vO⟩
      obtain⟨z,zy⟩:=pp
      have b2:=jaa (jaa (hcell (k - 1) (z,zy) a9).1 HE.o) ((ExtR wr).alloc (.cells #[.string x,.string y] 42));have QP:=Hd b2;have b0:l.getD (k - 1) (⟨#[]⟩,⟨#[]⟩)=(z,zy):=by rw[bH,a9];rfl
      have c0:(0:Int) < (k:Int):=vO
      have d0:0 < k:=vO
      have c1:(0:Int)<=(k:Int) - 1:=vO
      have c2:(k:Int) - 1 < (l.length:Int):=vO
      have c3:((k:Int) - 1).toNat=k - 1:=vO
      have HK:=Hd hk1;have a5:=Hd hv1;cases hls:Op.bytesLess z.toList x.toList with
      | false =>
       have Z:=Hd (H (by unfold badN jbc;rw[O,hk1,hv1,b0];simp only;rw[hls];simp;omega));clear hk1 hv1 O a1 a3 a4 H J hcell hp hk0 a9 b2 b0;go_wp2_with fail
       refine jag (List.range 25) Ext ExtR ExtT vY vY vY ?_;simp only[List.range,List.range.loop]
       refine vK ?_
       refine qKL ⟨wr.heap.size,0,none⟩ _ rfl (fun Q A=>jab Tryz.uStr rfl (jaa (by exact Q0.o) A)) ?_;refine vS ?_;refine qKC _ 66 #[.string x] (.bool true) rfl (fun w1=>jat (vX 66) vY) (fun w1 K=>(jhl w1 x (by have:=a6.o;omega)).mono (fun e Q ⟨K,A⟩=>⟨by rw[K,HK.o],A ▸ ExtR w1⟩)) ?_;refine vS ?_;iterate 3 refine vK ?_
       refine qKL ⟨wr.heap.size,1,none⟩ _ rfl (fun Q A=>jab Tryz.uStr rfl (jaa (by exact Q1.o) A)) ?_;refine vS ?_;refine qKC _ 67 #[.string y] (.bool true) rfl (fun w1=>jat (vX 67) vY) (fun w1 K=>(jgW w1 y (by have:=a8.o;omega)).mono (fun e Q ⟨K,A⟩=>⟨by rw[K,a5.o],A ▸ ExtR w1⟩)) ?_;refine vS ?_;iterate 11 refine vK ?_
       refine qKL ⟨b,o+(k - 1) * 2,none⟩ _ rfl (fun Q A=>jab Tryz.uStr rfl (jaa (by exact QP.o) A)) ?_;refine vS ?_
       refine vK ?_
       refine qKL ⟨wr.heap.size,0,none⟩ _ rfl (fun Q A=>jab Tryz.uStr rfl (jaa (by exact Q0.o) A)) ?_;refine vS ?_;iterate 3 refine vK ?_
       refine qKE (fun w3 he=>?_);have X:=Hd (((HE.o.alloc _).trans (jai _)).trans he);clear he;go_wp2_with fail
       go_ret
       exact⟨by rw[Z.o];rfl,X.o⟩
      | true =>
       have a0:=Hd (J (by unfold badN jbc;rw[O,hk1,hv1,b0];simp only;rw[hls];simp));clear hk1 hv1 O a1 a3 a4 H J hcell hp hk0 a9 b2 b0;go_wp2_with fail
       refine jag (List.range 25) Ext ExtR ExtT vY vY vY ?_;simp only[List.range,List.range.loop]
       refine vK ?_
       refine qKL ⟨wr.heap.size,0,none⟩ _ rfl (fun Q A=>jab Tryz.uStr rfl (jaa (by exact Q0.o) A)) ?_;refine vS ?_;refine qKC _ 66 #[.string x] (.bool true) rfl (fun w1=>jat (vX 66) vY) (fun w1 K=>(jhl w1 x (by have:=a6.o;omega)).mono (fun e Q ⟨K,A⟩=>⟨by rw[K,HK.o],A ▸ ExtR w1⟩)) ?_;refine vS ?_;iterate 3 refine vK ?_
       refine qKL ⟨wr.heap.size,1,none⟩ _ rfl (fun Q A=>jab Tryz.uStr rfl (jaa (by exact Q1.o) A)) ?_;refine vS ?_;refine qKC _ 67 #[.string y] (.bool true) rfl (fun w1=>jat (vX 67) vY) (fun w1 K=>(jgW w1 y (by have:=a8.o;omega)).mono (fun e Q ⟨K,A⟩=>⟨by rw[K,a5.o],A ▸ ExtR w1⟩)) ?_;refine vS ?_;iterate 11 refine vK ?_
       refine qKL ⟨b,o+(k - 1) * 2,none⟩ _ rfl (fun Q A=>jab Tryz.uStr rfl (jaa (by exact QP.o) A)) ?_;refine vS ?_
       refine vK ?_
       refine qKL ⟨wr.heap.size,0,none⟩ _ rfl (fun Q A=>jab Tryz.uStr rfl (jaa (by exact Q0.o) A)) ?_;refine vS ?_;iterate 3 refine vK ?_
       refine qKE (fun w3 he=>?_);have X:=Hd (((HE.o.alloc _).trans (jai _)).trans he);clear he;go_wp2_with fail
       go_roundw
       case rel=>exact⟨k+1,by omega,by go_num,X.o,a0.o⟩
       case measure=>exact vJ
  ·have b4:k=l.length:=vO
   subst b4
   by_cases h40:40 < l.length
   ·have c4:(40:Int) < (l.length:Int):=vO
    have e:jaz l=12:=by unfold jaz;rw[if_neg (by rw[a2.o];simp),if_pos h40]
    have E:=Hd e;clear e;go_wp2_with fail
    go_ret
    exact⟨by rw[E.o];rfl,HE.o⟩
   ·have c4:¬(40:Int) < (l.length:Int):=vO
    have e:jaz l=0:=by unfold jaz;rw[if_neg (by rw[a2.o];simp),if_neg h40]
    have E:=Hd e;clear e;go_wp2_with fail
    go_ret
    exact⟨by rw[E.o];rfl,HE.o⟩
section
section mixd
variable {P:Program} {l:List Oper} {E D:vW->vW->Prop}
def jcE(P:Program)(ops:Array Oper)(E D:vW->vW->Prop)(w:vW)(o:Oper)(v:vV)(a:Act):Prop:=
 (Region.wanted o (yielded ops a.tmps)=true/\∀ w1,D w w1->joi P E w1 v ((execOp a.eval o).run P w1))\/(Region.wanted o (yielded ops a.tmps)=false/\v=undef)
theorem jcE.of_same{ops:Array Oper}{w:vW}{o:Oper}{v:vV}{a a':Act}(hy:jcE P ops E D w o v a)(he:execOp a'.eval o=execOp a.eval o)
  (hw:Region.wanted o (yielded ops a'.tmps)=Region.wanted o (yielded ops a.tmps)):jcE P ops E D w o v a':=by
 unfold jcE at *;rw[he,hw];exact hy
theorem jcE.st(hT:∀ x y z,D x y->D y z->D x z){ops:Array Oper}{w w1:vW}{o:Oper}{v:vV}{a:Act}(hy:jcE P ops E D w o v a)(h:D w w1):jcE P ops E D w1 o v a:=
 hy.imp (fun ⟨e,A⟩=>⟨e,fun H J=>A H (hT _ _ _ h J)⟩) id
theorem jcE.wpOp{ops:Array Oper}{i:Nat}{o:Oper}{v:vV}{a:Act}{w:vW}(hi:ops[i]?=some o)(hy:jcE P ops E D w o v a){K:Act->vW->Prop}{w1:vW}(J:D w w1)(hE:∀ w,E w w)
  (h:∀ w',E w1 w'->K (a.put o.dst v) w'):wpOp P ops NoQ i K a w1:=by
 unfold Go.wpOp;simp only[hi];rcases hy with⟨hw,hv⟩ |⟨hw,rfl⟩
 ·simp only[hw,if_true]
  refine .inl ?_;have A:=hv w1 J;unfold Oper.wp;generalize (execOp a.eval o).run P w1=r at *;cases r with
  | ok n w' =>
   cases n <;> simp only[joi]at A <;> simp only[Oper.upon]
   case value u=>obtain⟨H,O⟩:=A;rw[H,O];exact h _ (hE w1)
   case skip=>obtain⟨H,O⟩:=A;rw[H, <-O];exact h _ (hE w1)
   case enter f args =>
    obtain⟨H,Q⟩:=A;rw[H]
    exact Q.mono fun e X ⟨Z,J⟩=>by subst Z;exact h _ J
  | halt x w'=>simp only[joi]at A
 ·simp only[hw,cR,if_false];exact h _ (hE w1)
def anyD(P:Program)(ops:Array Oper)(hd:List Nat)(E D:vW->vW->Prop)(Q:Act->vW->Prop):Nat->Array Bool->Act->vW->Prop
 | 0,listed,a,w=>∀ w1,E w w1->Region.ready .any ops listed=[]/\Q a w1
 | fuel+1,listed,a,w=>∀ w1,E w w1 ->
  (Region.ready .any ops listed=[]->Q a w1) /\
  ∀ i∈Region.ready .any ops listed,wpOp P ops NoQ i (fun a' w'=>D w1 w'/\(i ∉ hd->E w1 w')/\anyD P ops hd E D Q fuel (listed.setIfInBounds i true) a' w') a w1
theorem jrt(hT:∀ x y z,E x y->E y z->E x z){ops:Array Oper}{hd:List Nat}{Q:Act->vW->Prop}:∀ (fuel:Nat) (listed:Array Bool) (a:Act) (w w1:vW),anyD P ops hd E D Q fuel listed a w->E w w1->anyD P ops hd E D Q fuel listed a w1
 | 0,_,_,_,_,h,he=>fun e o=>h e (hT _ _ _ he o)
 | _+1,_,_,_,_,h,he=>fun e o=>h e (hT _ _ _ he o)
theorem jjw(hE:∀ w,E w w){ops:Array Oper}{hd:List Nat}{Q:Act->vW->Prop}{Q':Exit->Act->vW->Prop}(hQ:∀ a w,Q a w->Q' .normal a w) :
  ∀ (fuel:Nat) (listed:Array Bool) (a:Act) (w:vW),anyD P ops hd E D Q fuel listed a w->wpAny P .any ops Q' fuel listed a w
 | 0,_,_,w,h=>let ⟨h1,h2⟩:=h w (hE w);⟨h1,hQ _ _ h2⟩
 | fuel+1,_,_,w,h=>let ⟨h1,h2⟩:=h w (hE w)
  ⟨fun e=>hQ _ _ (h1 e),fun i o=>jh9 (fun A w' ⟨_,_,H⟩=>jjw hE hQ fuel _ A w' H) (h2 i o)⟩
theorem jqe(hE:∀ w,E w w)(hT:∀ x y z,E x y->E y z->E x z)(hD:∀ x y z,D x y->D y z->D x z)(hED:∀ x y,E x y->D x y){ops:Array Oper}{hd:List Nat}{Q:Act->vW->Prop}{i:Nat}{oi:Oper}{v:vV}(hi:ops[i]?=some oi)(hsel:∀ (j:Nat) (o:Oper) cs b,ops[j]?=some o->o.op≠.select cs b) :
  ∀ (J:Nat) (A:Array Bool) (a:Act) (w:vW),
   (∀ j oj,ops[j]?=some oj->j≠i->A.getD j true=false->(∀ e∈oj.after,Region.binds .any e=true->e.on≠i)->oi.apart ops oj=true) ->
   i∈Region.ready .any ops A->jcE P ops E D w oi v a ->
   anyD P ops hd E D Q J (A.setIfInBounds i true) (a.put oi.dst v) w->anyD P ops hd E D Q (J+1) A a w:=by
 intro J;induction J with
 | zero =>
  intro A a w _ hr hy H w1 X
  refine⟨fun h=>(by rw[h]at hr;cases hr),fun j hj=>?_⟩
  by_cases hji:j=i
  ·subst hji;exact hy.wpOp hi (hED _ _ X) hE (fun w' K=>⟨hED _ _ K,fun _=>K,jrt hT _ _ _ _ _ H (hT _ _ _ X K)⟩)
  ·have:=ready_mono hj hji
   rw[(H w1 X).1]at this;cases this
 | succ J ih =>
  intro A a w O hr hy H w1 X
  refine⟨fun h=>(by rw[h]at hr;cases hr),fun j hj=>?_⟩
  by_cases hji:j=i
  ·subst hji;exact hy.wpOp hi (hED _ _ X) hE (fun w' K=>⟨hED _ _ K,fun _=>K,jrt hT _ _ _ _ _ H (hT _ _ _ X K)⟩)
  ·have K:=(H w1 X).2 j (ready_mono hj hji)
   obtain⟨a0,oj,a3,a4⟩:=mem_ready.1 hj
   have a5:∀ e∈oj.after,Region.binds .any e=true->e.on≠i:=fun e X hb a7=>by
    have K:=a4 e X hb;have h0:=(mem_ready.1 hr).1;rw[a7]at K;rcases fQ i A.size with h' | h'
    ·simp[h']at h0 K;rw[h0]at K;cases K
    ·simp[gP h']at K
   have h2:=jfy (v:=v) (Y:=fun a'=>execOp a'.eval oi=execOp a.eval oi/\Region.wanted oi (yielded ops a'.tmps)=Region.wanted oi (yielded ops a.tmps)) a3 (O j oj a3 hji a0 a5) (fun cs b=>hsel i oi cs b hi) (fun cs b=>hsel j oj cs b a3)
    (fun a1 a2 h e1 e2=>⟨e1.trans h.1,e2.trans h.2⟩) ⟨rfl,rfl⟩ K
   have Z:∀ k ok,ops[k]?=some ok->k≠i->(A.setIfInBounds j true).getD k true=false ->
     (∀ e∈ok.after,Region.binds .any e=true->e.on≠i)->oi.apart ops ok=true:=fun k ok hk a8 a6 a9=>by
    refine O k ok hk a8 ?_ a9
    by_cases hjk:j=k
    ·subst hjk;exact a0
    ·rw[getD_set_ne true hjk]at a6;exact a6
   refine wpOp_mono (fun a' w' h3=>⟨h3.2.1,h3.2.2.1,?_⟩) h2
   obtain⟨⟨e1,e2⟩,h4,_,h5⟩:=h3
   have b0:jcE P ops E D w' oi v a':=(hy.of_same e1 e2).st hD (hD _ _ _ (hED _ _ X) h4);refine ih (A.setIfInBounds j true) a' w' Z (ready_mono hr (Ne.symm hji)) b0 ?_;rw[gX _ _ hji];exact h5
def MixD(P:Program)(l:List Oper)(hd:List Nat)(E D:vW->vW->Prop)(Q:Act->vW->Prop):List Nat->List Nat->Act->vW->Prop
 | [],done,a,w=>∀ w1,E w w1->Region.ready .any l.toArray (jbj l done)=[]/\Q a w1
 | k :: ord,done,a,w =>
  (k∈Region.ready .any l.toArray (jbj l done)/\Region.free .any l.toArray (jbj l done) k=true/\∃ o v,l[k]?=some o/\jcE P l.toArray E D w o v a/\MixD P l hd E D Q ord (k :: done) (a.put o.dst v) w) \/
  (Region.ready .any l.toArray (jbj l done)=[k]/\k∈hd/\∀ w1,E w w1->wpOp P l.toArray NoQ k (fun a' w'=>D w1 w'/\MixD P l hd E D Q ord (k :: done) a' w') a w1)
theorem jf1(hE:∀ w,E w w)(hT:∀ x y z,E x y->E y z->E x z)(hD:∀ x y z,D x y->D y z->D x z)(hED:∀ x y,E x y->D x y)(hs:Region.noSelect l.toArray=true){hd:List Nat}{Q:Act->vW->Prop}:∀ (ord:List Nat) (done:List Nat) (a:Act) (w:vW),
  MixD P l hd E D Q ord done a w->anyD P l.toArray hd E D Q ord.length (jbj l done) a w
 | [],_,_,_,h=>h
 | k :: ord,done,a,w,h=>by
  rcases h with⟨hr,hf,o,v,ho,hy,h⟩ |⟨hr,hk,h⟩
  ·have e:l.toArray[k]?=some o:=by simpa using ho
   exact jqe hE hT hD hED e (iK hs) ord.length (jbj l done) a w (iU e hf) hr hy (jf1 hE hT hD hED hs ord _ _ _ h)
  ·intro w1 K
   refine⟨fun A=>(by rw[hr]at A;cases A),fun i H=>?_⟩
   rw[hr]at H;obtain rfl:i=k:=by simpa using H
   exact wpOp_mono (fun X w' J=>⟨J.1,fun O=>absurd hk O,jf1 hE hT hD hED hs ord _ _ _ J.2⟩) (h w1 K)
theorem jaC(ord hd:List Nat)(E D:vW->vW->Prop)(hE:∀ w,E w w)(hT:∀ x y z,E x y->E y z->E x z)(hD:∀ x y z,D x y->D y z->D x z)(hED:∀ x y,E x y->D x y){id:Nat}{Q:Exit->Act->vW->Prop}{a:Act}{w:vW}
  (hm:P.follows .mixedOrders=true) (hs:Region.noSelect l.toArray=true) (hl:ord.length=l.toArray.size)
  (h:MixD P l hd E D (fun a w=>Q .normal a w) ord [] a w.drew):(Code.region id l.toArray true).wp P Q a w:=by
 refine wp_region_any hm ?_;rw[<-hl]
 have:=jf1 hE hT hD hED hs ord _ _ _ h
 unfold jbj at this;rw[hl]at this ⊢;exact jjw hE (fun _ _ h=>h) _ _ _ _ this
variable {Q:Act->vW->Prop} {ord done hd:List Nat} {a:Act} {w:vW} {k:Nat} {o:Oper}
def headD(l:List Oper)(done:List Nat)(k:Nat):Bool:=(Region.ready .any l.toArray (jbj l done)).contains k && Region.free .any l.toArray (jbj l done) k
def jrr(l:List Oper)(hd done:List Nat)(k:Nat):Bool:=Region.ready .any l.toArray (jbj l done) == [k] && hd.contains k
theorem jsX(o:Oper)(ho:l[k]?=some o)(hk:headD l done k=true)(hw:Region.wanted o (yielded l.toArray a.tmps)=true)(hq:jjW o.op=true)
  (h:∀ K:Act->Prop,(∀ a',MixD P l hd E D Q ord (k :: done) a' w->K a')->o.quiet P a (fun _=>True) K):MixD P l hd E D Q (k :: ord) done a w:=by
 simp only[headD,cY,dC]at hk
 obtain⟨v,H,J⟩:=h _ (fun _ h=>h)
 have A:jcE P l.toArray E D w o v a:=by
  refine .inl ⟨hw,fun w1 _=>?_⟩;have e:=H w1 trivial;unfold Oper.quietAt at e;have O:=fun f args w'=>jk8 (ρ:=a.eval) hq P w1 w' f args;generalize (execOp a.eval o).run P w1=r at *;cases r with
  | ok n w'=>cases n <;> simp only[Oper.quietUpon]at e <;> first | exact e | exact absurd rfl (O _ _ _)
  | halt x w'=>simp only[Oper.quietUpon]at e
 exact .inl ⟨hk.1,hk.2,o,v,ho,A,J⟩
theorem jps(o:Oper)(v:vV)(ho:l[k]?=some o)(hk:headD l done k=true)(hw:Region.wanted o (yielded l.toArray a.tmps)=true)
  (hv:∀ w1,D w w1->(execOp a.eval o).run P w1=.ok (.value v) w1) (h:MixD P l hd E D Q ord (k :: done) (a.put o.dst v) w):MixD P l hd E D Q (k :: ord) done a w:=by
 simp only[headD,cY,dC]at hk;exact .inl ⟨hk.1,hk.2,o,v,ho,.inl ⟨hw,fun w1 e=>by rw[hv w1 e];exact⟨rfl,rfl⟩⟩,h⟩
theorem qDV(o:Oper)(v:vV)(ho:l[k]?=some o)(hv:∀ w1,D w w1->(execOp a.eval o).run P w1=.ok (.value v) w1)(h:MixD P l hd E D Q ord (k :: done) (a.put o.dst v) w)(hk:headD l done k=true:=by kernel_rfl)(hw:Region.wanted o (yielded l.toArray a.tmps)=true:=by rfl):MixD P l hd E D Q (k :: ord) done a w:=jps o v ho hk hw hv h
theorem jsW(p:Addr)(v:vV){t:TypeId}{x:Operand}{d:Option Tmp}{ty:TypeId}{pos:String}{af:Array Edge}{g:Option (Nat × Bool)}(ho:l[k]?=some ⟨d,.load t x,ty,pos,af,g⟩)(hk:headD l done k=true)
  (hw:Region.wanted ⟨d,.load t x,ty,pos,af,g⟩ (yielded l.toArray a.tmps)=true) (hx:a.eval x=.pointer (some p))
  (hv:∀ w1,D w w1->(Instr.loadAt t (.pointer (some p))).run P w1=.ok v w1) (h:MixD P l hd E D Q ord (k :: done) (a.put d v) w):MixD P l hd E D Q (k :: ord) done a w:=by
 refine jps _ v ho hk hw (fun w1 e=>?_) h
 have:=hv w1 e
 simp only[execOp,hx,cA,this,Result.andThen,cO]
theorem qDL{t:TypeId}{x:Operand}{d:Option Tmp}{ty:TypeId}{pos:String}{af:Array Edge}{g:Option (Nat × Bool)}(p:Addr)(v:vV)(ho:l[k]?=some ⟨d,.load t x,ty,pos,af,g⟩)(hv:∀ w1,D w w1->(Instr.loadAt t (.pointer (some p))).run P w1=.ok v w1)(h:MixD P l hd E D Q ord (k :: done) (a.put d v) w)(hk:headD l done k=true:=by kernel_rfl)(hw:Region.wanted ⟨d,.load t x,ty,pos,af,g⟩ (yielded l.toArray a.tmps)=true:=by rfl)(hx:a.eval x=.pointer (some p):=by rfl):MixD P l hd E D Q (k :: ord) done a w:=jsW p v ho hk hw hx hv h
theorem jiP(o:Oper)(f:FuncId)(args:Array vV)(v:vV)(ho:l[k]?=some o)(hk:headD l done k=true)(hw:Region.wanted o (yielded l.toArray a.tmps)=true)
  (hv:∀ w1,(execOp a.eval o).run P w1=.ok (.enter f args) w1) (hc:∀ w1,D w w1->Calls P f args w1 (fun e H=>e=.returned v/\E w1 H))
  (h:MixD P l hd E D Q ord (k :: done) (a.put o.dst v) w):MixD P l hd E D Q (k :: ord) done a w:=by
 simp only[headD,cY,dC]at hk;exact .inl ⟨hk.1,hk.2,o,v,ho,.inl ⟨hw,fun w1 A=>by rw[hv w1];exact⟨rfl,hc w1 A⟩⟩,h⟩
theorem jsV(o:Oper)(ho:l[k]?=some o)(hk:jrr l hd done k=true)(hw:Region.wanted o (yielded l.toArray a.tmps)=true)
  (h:∀ w1,E w w1->∀ K:Act->vW->Prop,(∀ a' w',D w1 w'->MixD P l hd E D Q ord (k :: done) a' w'->K a' w')->o.wp P a w1 K NoQ):MixD P l hd E D Q (k :: ord) done a w:=by
 simp only[jrr,cY,beq_iff_eq,dC]at hk;refine .inr ⟨hk.1,hk.2,fun w1 A=>?_⟩;unfold wpOp;have e:l.toArray[k]?=some o:=by simpa using ho
 simp only[e,hw,if_true];exact .inl (h w1 A _ (fun _ _ H J=>⟨H,J⟩))
theorem qDH(o:Oper)(ho:l[k]?=some o)(h:∀ w1,E w w1->∀ K:Act->vW->Prop,(∀ a' w',D w1 w'->MixD P l hd E D Q ord (k :: done) a' w'->K a' w')->o.wp P a w1 K NoQ)(hk:jrr l hd done k=true:=by kernel_rfl)(hw:Region.wanted o (yielded l.toArray a.tmps)=true:=by rfl):MixD P l hd E D Q (k :: ord) done a w:=jsV o ho hk hw h
theorem jvC(hk:(Region.ready .any l.toArray (jbj l done)).isEmpty=true)(h:∀ w1,E w w1->Q a w1):MixD P l hd E D Q [] done a w:=
 fun w1 e=>⟨by simpa using hk,h w1 e⟩
theorem qDE(h:∀ w1,E w w1->Q a w1)(hk:(Region.ready .any l.toArray (jbj l done)).isEmpty=true:=by kernel_rfl):MixD P l hd E D Q [] done a w:=jvC hk h
end mixd
end
def jca(xs:vL):List vV:=xs.flatMap fun p=>[.string p.1,.string p.2]
theorem jdF(xs:vL):(jca xs).length=xs.length * 2:=by
 induction xs with
 | nil=>rfl
 | cons x r ih=>unfold jca at *;rw[cG,bC,ih];simp;omega
theorem jbb(xs ys:vL):jca (xs++ys)=jca xs++jca ys:=by simp[jca]
theorem jdE:∀ (xs:vL) (j:Nat) (p:Pair),xs[j]?=some p->(jca xs)[j * 2]?=some (.string p.1)/\(jca xs)[j * 2+1]?=some (.string p.2)
 | [],j,p,h=>by simp at h
 | x :: r,0,p,h=>by simp at h;subst h;exact⟨rfl,rfl⟩
 | x :: r,j+1,p,h=>by
  have:=jdE r j p (by simpa using h)
  rw[show (j+1) * 2=j * 2+1+1 by omega];exact this
theorem Tryz.uRows:Tryz.prog.underlying 78=some (.slice 144):=vY
theorem Tryz.infoRow:(Tryz.prog.info? 144).map (fun i=>(i.zero,i.size,i.bytes))=some (some (.agg #[.string ⟨#[]⟩,.string ⟨#[]⟩]),2,32):=vY
theorem Tryz.sRows:jdv Tryz.prog 78 144 2 32:=jdv.mk' Tryz.uRows Tryz.infoRow rfl vI
abbrev PRow(w0 w:vW)(v:vV)(n:Nat)(xs:vL):Prop:=ORow 144 2 w0 w v n (jca xs)
theorem PRow.rd{w0 w:vW}{v:vV}{n:Nat}{xs:vL}(h:PRow w0 w v n xs):RdP w v xs:=by
 have A:xs.length=n:=by have:=h.len;rw[jdF]at this;omega
 obtain⟨_,⟨rfl,Q⟩ |⟨g,e,E,rfl,X,H,J,Z,h7⟩⟩:=h.own
 ·exact .inl ⟨none,0,rfl,bE vO⟩
 ·subst A
  refine .inr ⟨g,0,e,rfl,(dJ.1 H).1,J,fun j x o=>?_⟩;have hj:=(bP.1 o).1
  obtain⟨K,O⟩:=jdE xs j x o
  exact⟨by rw[cH,h.own.cellAt (j * 2) vO,K],by rw[cH,h.own.cellAt (j * 2+1) vO,O]⟩
def jaP(l:vL):vL:=l.map fun p=>(jbv p.1,p.2)
def jxe(w:vW)(l:vL)(v i:vV)(wr:vW):Prop:=∃ k:Nat,k<=l.length/\i=.int .i64 k/\PRow w wr v k ((jaP l).take k)
theorem jx8{w:vW}{T:TypeId}{sz:Nat}{w0:vW}{v:vV}{n:Nat}{xs:List vV}(h:ORow T sz w0 w v n xs):¬ v.ownBlock=some w.heap.size:=fun e=>by have:=h.lt _ e;omega
theorem jwS(w:vW)(v:vV)(l:vL)(hv:RdP w v l)(hn:l.length<=1000000)(hs:∀ p∈l,p.1.size<=1000000):vQ 38 #[v] w fun e w'=>∃ u,e=.returned u/\PRow w w' u l.length (jaP l):=by
 obtain⟨a,c,a5⟩:=hv.sl
 have HV:=Hd hv;have HS:=Hd hs;subst a5;clear hv hs
 obtain⟨i0,hi,a6,a7,a8⟩:=info_parts Tryz.infoRow
 obtain⟨w1,b4,E,X⟩:=run_make_own (P:=Tryz.prog) (w:=w) w.heap.size 78 144 i0 _ 2 Tryz.uRows hi a6 a7 .i64 .i64 l.length (by rw[a8];omega) (by unfold maxLen;omega) (bL _)
 have HO:=Hd E;have HG:=Hd X;clear E X;unfold vQ;go_in;go_wp2_with fail
 go_loopw [3,11] (fun v i wr=>jxe w l v i wr) (fun _ i _=>l.length - (intOf i).toNat)
 case atStart=>exact⟨0,cD _,rfl,ORow.made w HO.o HG.o⟩
 case round =>
  obtain⟨k,hk,rfl,hR⟩:=hrel
  obtain⟨a2,c2,rfl⟩:=hR.sl
  have O:=Hd hR;clear hR
  by_cases hlt:k < l.length
  ·rcases HV.o with⟨_,_,_,h0⟩ |⟨b,o,c',hh,hb,hc,hcell⟩
   ·rw[h0]at hlt;cases hlt
   cases hh
   obtain⟨p,hp⟩:∃ p,l[k]?=some p:=⟨_,bA hlt⟩
   obtain⟨q1,q2⟩:=hcell k p hp
   have q1:=jaa q1 O.o.ext;have q2:=jaa q2 O.o.ext;have H:=HS.o p (bI hp)
   obtain⟨x,y⟩:=p
   simp only at q1 q2 H;have b1:(k:Int) < (l.length:Int):=vO
   have Z:(jaP l).take (k+1)=(jaP l).take k++[(jbv x,y)]:=by
    rw[bW];unfold jaP;rw[bX,hp];rfl
   have a9:=Hd Z;have b0:=Hd H;have Q0:=Hd (show (wr.alloc (.cells #[.string x,.string y] 42)).cell? ⟨wr.heap.size,0,none⟩=some (.string x)from(Blk.new wr _).cell vF);have Q1:=Hd (show (wr.alloc (.cells #[.string x,.string y] 42)).cell? ⟨wr.heap.size,1,none⟩=some (.string y)from(Blk.new wr _).cell vF);have NB:=Hd (jx8 O.o);clear hcell hp H Z;go_wp2_with fail
   refine jaC [0,1,2,3,4,5,6,7,8,9] [7,8] Ext (jae (fun b=>(Value.slice a2 k c2).ownBlock=some b)) ExtR ExtT (fun x y z h k=>jae.trans h k) (fun x y h=>h.mono (fun _ _ h=>h.elim)) vY vY vY ?_;iterate 2 refine vD ?_
   refine qDL ⟨wr.heap.size,0,none⟩ _ rfl (fun Q h2=>jab Tryz.uStr rfl (jam (by exact Q0.o) h2 NB.o)) ?_;refine vS ?_;refine jiP _ 64 #[.string x] (.string (jbv x)) rfl vY rfl (fun w1=>jat (vX 64) vY) (fun w1 h1=>jpC w1 x b0.o) ?_;refine vS ?_
   refine vD ?_
   refine qDL ⟨wr.heap.size,1,none⟩ _ rfl (fun Q h2=>jab Tryz.uStr rfl (jam (by exact Q1.o) h2 NB.o)) ?_;refine vS ?_
   refine vD ?_
   refine qDH _ rfl (fun Q A K hK=>?_);have a0:=Hd (O.o.mono ((((ExtR wr).alloc _).trans (jai _)).trans A));clear A O;go_simp;refine hK _ _ ((jae.refl _ Q).alloc _) ?_;clear hK K;refine qDH _ rfl (fun w3 A K hK=>?_);have a1:=Hd (a0.o.mono (((ExtR Q).alloc _).trans A));have hB:∀ j u,([.string (jbv x),.string y]:List vV)[j]?=some u->w3.cell? ((⟨Q.heap.size,0,none⟩:Addr).add j)=some u:=fun j u hj=>jaa (jaJ (Blk.new Q (.cells [Value.string (jbv x),.string y].toArray 144)) j u hj) A;refine jfz Tryz.sRows a1.o (.tmp 15) (.tmp 22) rfl rfl hB (by intro u hu;simp at hu;rcases hu with rfl | rfl <;> rfl) rfl rfl (by unfold maxLen;omega) vO (fun v' w4 r1 r2 r3=>hK _ _ r2 ?_);have a3:PRow w w4 v' (k+1) ((jaP l).take (k+1)):=by
    unfold PRow;rw[a9.o,jbb];exact r1
   have J:=Hd a3;clear hK K A r1 r2 r3 a3 hB a0 a1
   obtain⟨a4,c4,rfl⟩:=J.o.sl
   refine vS ?_
   refine vD ?_
   refine qDE (fun w5 A=>?_);have b2:=Hd (J.o.mono A);clear A J;go_wp2_with fail
   go_roundw
   case rel=>exact⟨k+1,by omega,by go_num,b2.o⟩
   case measure=>exact vJ
  ·have b3:k=l.length:=vO
   subst b3;go_wp2;go_ret;have h:=O.o;rw[bN (by simp[jaP])]at h
   exact⟨_,rfl,h⟩
def jak(d:Nat)(l:vL):vL:=l.map fun p=>(p.1.extract d p.1.size,p.2)
def jwZ(w:vW)(d:Nat)(l:vL)(v i:vV)(wr:vW):Prop:=∃ k:Nat,k<=l.length/\i=.int .i64 k/\PRow w wr v k ((jak d l).take k)
theorem jnm(w:vW)(v:vV)(d:Nat)(l:vL)(hv:RdP w v l)(hn:l.length<=1000000)(hs:∀ p∈l,d<=p.1.size/\p.1.size<=1000000):vQ 75 #[v,.int .i64 d] w fun e w'=>∃ u,e=.returned u/\PRow w w' u l.length (jak d l):=by
 obtain⟨a,c,a5⟩:=hv.sl
 have HV:=Hd hv;have HS:=Hd hs;subst a5;clear hv hs
 obtain⟨i0,hi,a6,a7,a8⟩:=info_parts Tryz.infoRow
 obtain⟨w1,b4,E,Q⟩:=run_make_own (P:=Tryz.prog) (w:=w) w.heap.size 78 144 i0 _ 2 Tryz.uRows hi a6 a7 .i64 .i64 l.length (by rw[a8];omega) (by unfold maxLen;omega) (bL _)
 have HO:=Hd E;have HG:=Hd Q;clear E Q;unfold vQ;go_in;go_wp2_with fail
 go_loopw [5,13] (fun v i wr=>jwZ w d l v i wr) (fun _ i _=>l.length - (intOf i).toNat)
 case atStart=>exact⟨0,cD _,rfl,ORow.made w HO.o HG.o⟩
 case round =>
  obtain⟨k,hk,rfl,hR⟩:=hrel
  obtain⟨a2,c2,rfl⟩:=hR.sl
  have J:=Hd hR;clear hR
  by_cases hlt:k < l.length
  ·rcases HV.o with⟨_,_,_,h0⟩ |⟨b,o,c',hh,hb,hc,hcell⟩
   ·rw[h0]at hlt;cases hlt
   cases hh
   obtain⟨p,hp⟩:∃ p,l[k]?=some p:=⟨_,bA hlt⟩
   obtain⟨q1,q2⟩:=hcell k p hp
   have q1:=jaa q1 J.o.ext;have q2:=jaa q2 J.o.ext;have X:=HS.o p (bI hp)
   obtain⟨x,y⟩:=p
   simp only at q1 q2 X;have b1:(k:Int) < (l.length:Int):=vO
   have b2:(d:Int)<=(x.size:Int):=vO
   have Z:(jak d l).take (k+1)=(jak d l).take k++[(x.extract d x.size,y)]:=by
    rw[bW];unfold jak;rw[bX,hp];rfl
   have a9:=Hd Z;have Q0:=Hd (show (wr.alloc (.cells #[.string x,.string y] 144)).cell? ⟨wr.heap.size,0,none⟩=some (.string x)from(Blk.new wr _).cell vF);have Q1:=Hd (show (wr.alloc (.cells #[.string x,.string y] 144)).cell? ⟨wr.heap.size,1,none⟩=some (.string y)from(Blk.new wr _).cell vF);have NB:=Hd (jx8 J.o);clear hcell hp X Z;go_wp2_with fail
   refine jaC [0,1,2,3,4,5,6,7,8,9,10] [8,9] Ext (jae (fun b=>(Value.slice a2 k c2).ownBlock=some b)) ExtR ExtT (fun x y z h k=>jae.trans h k) (fun x y h=>h.mono (fun _ _ h=>h.elim)) vY vY vY ?_;iterate 2 refine vD ?_
   refine qDL ⟨wr.heap.size,0,none⟩ _ rfl (fun O h2=>jab Tryz.uStr rfl (jam (by exact Q0.o) h2 NB.o)) ?_;refine vS ?_;iterate 3 refine vD ?_
   refine qDL ⟨wr.heap.size,1,none⟩ _ rfl (fun O h2=>jab Tryz.uStr rfl (jam (by exact Q1.o) h2 NB.o)) ?_;refine vS ?_
   refine vD ?_
   refine qDH _ rfl (fun O A K hK=>?_);have a0:=Hd (J.o.mono ((((ExtR wr).alloc _).trans (jai _)).trans A));clear A J;go_simp;refine hK _ _ ((jae.refl _ O).alloc _) ?_;clear hK K;refine qDH _ rfl (fun w3 A K hK=>?_);have a1:=Hd (a0.o.mono (((ExtR O).alloc _).trans A));have hB:∀ j u,([.string (x.extract d x.size),.string y]:List vV)[j]?=some u->w3.cell? ((⟨O.heap.size,0,none⟩:Addr).add j)=some u:=fun j u hj=>jaa (jaJ (Blk.new O (.cells [Value.string (x.extract d x.size),.string y].toArray 144)) j u hj) A;refine jfz Tryz.sRows a1.o (.tmp 17) (.tmp 25) rfl rfl hB (by intro u hu;simp at hu;rcases hu with rfl | rfl <;> rfl) rfl rfl (by unfold maxLen;omega) vO (fun v' w4 r1 r2 r3=>hK _ _ r2 ?_);have a3:PRow w w4 v' (k+1) ((jak d l).take (k+1)):=by
    unfold PRow;rw[a9.o,jbb];exact r1
   have H:=Hd a3;clear hK K A r1 r2 r3 a3 hB a0 a1
   obtain⟨a4,c4,rfl⟩:=H.o.sl
   refine vS ?_
   refine vD ?_
   refine qDE (fun w5 A=>?_);have b0:=Hd (H.o.mono A);clear A H;go_wp2_with fail
   go_roundw
   case rel=>exact⟨k+1,by omega,by go_num,b0.o⟩
   case measure=>exact vJ
  ·have b3:k=l.length:=vO
   subst b3;go_wp2;go_ret;have h:=J.o;rw[bN (by simp[jak])]at h
   exact⟨_,rfl,h⟩
def jeT(i:Nat)(p:Pair):Bool:=match p.1.data.toList with | []=>false | a :: _=>a.toNat == i
theorem jvQ{x y:vB}(i:Nat)(h:0 < x.size):jeT i (x,y)=(x[0].toNat == i):=by
 obtain⟨⟨l⟩⟩:=x
 cases l with
 | nil=>exact absurd h (Nat.lt_irrefl 0)
 | cons a r=>rfl
theorem juJ(a b:Nat):((a:Int) ==(b:Int))=(a == b):=by
 by_cases h:a=b
 ·subst h;simp
 ·have e:¬(a:Int)=(b:Int):=vO
  rw[beq_eq_false_iff_ne.2 h,beq_eq_false_iff_ne.2 e]
theorem jAe(w:vW)(x y:vB)(gi i:Nat)(hs:x.size<=1000000)(hi:i < 256)(hc:w.cell? ⟨gi,0,none⟩=some (.int .i64 (i:Int))):vR 77 #[.agg #[.string x,.string y],.pointer (some ⟨gi,0,none⟩)] w (.bool (jeT i (x,y))):=by
 have O:=Hd (show (w.alloc (.cells #[.string x,.string y] 144)).cell? ⟨w.heap.size,0,none⟩=some (.string x)from(Blk.new w _).cell vF);have QI:=Hd (jaa hc ((ExtR w).alloc (.cells #[.string x,.string y] 144)));clear hc
 by_cases h0:x.size=0
 ·have:=jby h0
  subst this;have E:Hid (jeT i (⟨#[]⟩,y)=false):=rfl;unfold vR vQ;go_in;go_wp2_with fail
  refine jag [0,1,2,3,4,5,6,7,8,9,10,11] Ext ExtR ExtT vY vY vY ?_
  refine vK ?_
  refine qKL ⟨w.heap.size,0,none⟩ _ rfl (fun Q A=>jab Tryz.uStr rfl (jaa (by exact O.o) A)) ?_;refine vS ?_;iterate 2 refine vK ?_
  iterate 6 (refine qKS _ rfl ?_;refine vS ?_)
  iterate 2 refine vK ?_
  refine qKE (fun w3 J=>?_);have X:=Hd ((((ExtR w).alloc (.cells #[.string ⟨#[]⟩,.string y] 144)).trans (jai _)).trans J);clear J;go_wp2_with fail
  go_ret
  exact⟨by rw[E.o];rfl,X.o⟩
 ·have e:0 < x.size:=vO
  have a2:=jbe (s:=x) e;have c0:(0:Int) < (x.size:Int):=vO
  have c1:=x[0].toNat_lt;have E:=Hd (jvQ (y:=y) i e);have K:((x[0].toNat:Int) ==(i:Int))=(x[0].toNat == i):=juJ _ _;have Z:=Hd K;clear K;unfold vR vQ;go_in;go_wp2_with fail
  refine jag [0,1,2,3,4,5,6,7,8,9,10,11] Ext ExtR ExtT vY vY vY ?_
  refine vK ?_
  refine qKL ⟨w.heap.size,0,none⟩ _ rfl (fun Q A=>jab Tryz.uStr rfl (jaa (by exact O.o) A)) ?_;refine vS ?_;iterate 3 refine vK ?_
  refine qKL ⟨w.heap.size,0,none⟩ _ rfl (fun Q A=>jab Tryz.uStr rfl (jaa (by exact O.o) A)) ?_;refine vS ?_;iterate 2 refine vK ?_
  refine qKL ⟨gi,0,none⟩ _ rfl (fun Q A=>jab Tryz.uInt rfl (jaa (by exact QI.o) A)) ?_;refine vS ?_;iterate 3 refine vK ?_
  refine qKE (fun w3 J=>?_);have a0:=Hd ((((ExtR w).alloc (.cells #[.string x,.string y] 144)).trans (jai _)).trans J);clear J;rw[Z.o, <-E.o]
  obtain⟨bb,H⟩:=vE (jeT i (x,y))
  rw[<-H];have a1:=Hd H;clear H;go_wp2_with fail
  go_ret
  exact⟨by rw[<-a1.o];rfl,a0.o⟩
def cutL(i:Nat)(l:vL):vL:=l.filter (jeT i)
theorem juY(i:Nat)(l:vL){k:Nat}{p:Pair}(h:l[k]?=some p):cutL i (l.take (k+1))=cutL i (l.take k)++(if jeT i p then [p]else []):=by
 unfold cutL;rw[bW,h,gO,Option.toList_some,dR];simp
def jyV(w:vW)(i:Nat)(l:vL)(v j:vV)(wr:vW):Prop:=∃ k n:Nat,k<=l.length/\n<=k/\j=.int .i64 k/\PRow w wr v n (cutL i (l.take k))
theorem jzA(w:vW)(v:vV)(gi i:Nat)(l:vL)(hv:RdP w v l)(hn:l.length<=1000000)(hs:∀ p∈l,p.1.size<=1000000)(hi:i < 256)(hc:w.cell? ⟨gi,0,none⟩=some (.int .i64 (i:Int))):vQ 76 #[v,.func (.func 77) #[] #[.pointer (some ⟨gi,0,none⟩)]] w fun e w'=>∃ u n,e=.returned u/\PRow w w' u n (cutL i l):=by
 obtain⟨a,c,a0⟩:=hv.sl
 have HV:=Hd hv;have HS:=Hd hs;have HC:=Hd hc;subst a0;clear hv hs hc;unfold vQ;go_in;go_wp2_with fail
 go_loopw [5,10] (fun v j wr=>jyV w i l v j wr) (fun _ j _=>l.length - (intOf j).toNat)
 case atStart=>exact⟨0,0,cD _,cD _,rfl,ORow.nil _ _ (ExtR w)⟩
 case round =>
  obtain⟨k,n,hk,a4,rfl,hR⟩:=hrel
  obtain⟨a2,c2,rfl⟩:=hR.sl
  have K:=Hd hR;clear hR
  by_cases hlt:k < l.length
  ·rcases HV.o with⟨_,_,_,h0⟩ |⟨b,o,c',hh,hb,hc,hcell⟩
   ·rw[h0]at hlt;cases hlt
   cases hh
   obtain⟨p,X⟩:∃ p,l[k]?=some p:=⟨_,bA hlt⟩
   obtain⟨Z,q2⟩:=hcell k p X
   have Z:=jaa Z K.o.ext;have q2:=jaa q2 K.o.ext;have O:=HS.o p (bI X);have Q:=juY i l X
   obtain⟨x,y⟩:=p
   simp only at Z q2 O;have b1:(k:Int) < (l.length:Int):=vO
   have A:=Hd Q;clear hcell X Q;go_wp2_with fail
   refine vC (jAe _ x y gi i O hi (jaa HC.o (K.o.ext.trans ((ExtR wr).alloc _)))) fun w3 hE=>?_;have hX:=((ExtR wr).alloc (.cells #[.string x,.string y] 144)).trans hE;have E:=Hd (K.o.mono hX);have H:=(Blk.new wr (.cells #[.string x,.string y] 144)).keeps hE (fun h=>h);have p0:=H.cell (i:=0) (v:=.string x) vF;have p1:=H.cell (i:=1) (v:=.string y) vF;clear hX hE H Z q2 K;cases hpk:jeT i (x,y)with
   | true =>
    rw[hpk,if_pos rfl]at A;go_wp2_with (at_builtin;refine jaO Tryz.sRows (E.o.mono ((ExtR w3).alloc _)) (.tmp 17) (.tmp 19) rfl rfl rfl (jaJ (Blk.new w3 _)) (news:=[.string x,.string y]) (by intro u hu;simp at hu;rcases hu with rfl | rfl <;> rfl) rfl rfl ?c1 ?c2 (fun v' w' r1 r2 r3=>?_))
    case c1=>unfold maxLen;omega
    case c2=>omega
    have J:PRow w w' v' (n+1) (cutL i (l.take (k+1))):=by unfold PRow;rw[A.o,jbb];exact r1
    obtain⟨a5,c5,rfl⟩:=J.sl
    have a1:=Hd J;clear r1 r2 r3 J E;go_wp2_with fail
    go_roundw
    case rel=>exact⟨k+1,n+1,by omega,by omega,by go_num,a1.o⟩
    case measure=>exact vJ
   | false =>
    rw[hpk,if_neg (by simp),bZ]at A;go_wp2_with fail
    go_roundw
    case rel=>exact⟨k+1,n,by omega,by omega,by go_num,by rw[A.o];exact E.o⟩
    case measure=>exact vJ
  ·have a3:k=l.length:=vO
   subst a3;go_wp2;go_ret;have h:=K.o;rw[cL]at h
   exact⟨_,_,rfl,h⟩
theorem jcm{P:Program}{t e ty:TypeId}{i:TypeInfo}(ht:P.underlying t=some (.slice e))(hi:P.info? e=some i)(base:Option Addr)(n c:Nat)(hle:n<=c)(c2:Nat)(w:vW) :
  (Builtin.append_ #[t,t] ty #[.slice base n c,.slice none 0 c2]).run P w=.ok (.slice base n c) w:=by
 have o:(sizeOf e).run P w=.ok i.size w:=by simp[sizeOf,typeInfo,hi]
 have A:∀ w,(Builtin.lenOf (.slice none 0 c2)).run P w=.ok 0 w:=fun w=>rfl;cases base <;> simp[Builtin.append_,cA,Result.andThen,run_underlying ht,o,A,cO,Builtin.firstCells,hle,storeCells]
inductive PT where
 | mk (text:vB) (below:List PT)
def PT.text:PT->vB | .mk t _=>t
def PT.kids:PT->List PT | .mk _ ks=>ks
def ptrV(b:Nat):vV:=.pointer (some ⟨b,0,none⟩)
def RdQ(A:Nat->Prop)(W:vW)(v:vV)(bs:List Nat):Prop:=
 (v=.slice none 0 0/\bs=[])\/∃ g c,v=.slice (some ⟨g,0,none⟩) bs.length c/\bs≠[]/\A g/\g < W.heap.size/\bs.length<=c/\∀ (j:Nat) b,bs[j]?=some b->W.cell? ⟨g,j,none⟩=some (ptrV b)
mutual
def jbN(A:Nat->Prop):PT->Nat->vW->Prop
 | .mk t ks,b,W=>A b/\∃ v bs,Blk W b (.cells #[.string t,v] 142)/\RdQ A W v bs/\jaW A ks bs W
def jaW(A:Nat->Prop):List PT->List Nat->vW->Prop
 | [],bs,_=>bs=[]
 | k :: ks,bs,W=>∃ b r,bs=b :: r/\jbN A k b W/\jaW A ks r W
end
theorem RdQ.keeps{A:Nat->Prop}{F:BSet}{W W':vW}{v:vV}{bs:List Nat}(h:RdQ A W v bs)(k:jae F W W')(hF:∀ x,A x->¬ F x):RdQ A W' v bs:=by
 rcases h with h |⟨g,c,h1,h2,h3,h4,h5,h6⟩
 ·exact .inl h
 ·exact .inr ⟨g,c,h1,h2,h3,bQ h4 k.size,h5,fun j b hb=>jam (h6 j b hb) k (hF g h3)⟩
theorem RdQ.mono{A A':Nat->Prop}{W:vW}{v:vV}{bs:List Nat}(h:RdQ A W v bs)(hA:∀ x,A x->x < W.heap.size->A' x):RdQ A' W v bs:=by
 rcases h with h |⟨g,c,h1,h2,h3,h4,h5,h6⟩
 ·exact .inl h
 ·exact .inr ⟨g,c,h1,h2,hA g h3 h4,h4,h5,h6⟩
mutual
theorem jbN.keeps{A:Nat->Prop}{F:BSet}{W W':vW}(k:jae F W W')(hF:∀ x,A x->¬ F x):∀ (T:PT) (b:Nat),jbN A T b W->jbN A T b W'
 | .mk t ks,b,h=>by
  unfold jbN at *
  obtain⟨e,v,o,E,H,J⟩:=h
  exact⟨e,v,o,E.keeps k (hF b e),H.keeps k hF,jaW.keeps k hF ks o J⟩
theorem jaW.keeps{A:Nat->Prop}{F:BSet}{W W':vW}(k:jae F W W')(hF:∀ x,A x->¬ F x):∀ (ks:List PT) (bs:List Nat),jaW A ks bs W->jaW A ks bs W'
 | [],bs,h=>by unfold jaW at *;exact h
 | x :: ks,bs,h=>by
  unfold jaW at *
  obtain⟨b,r,e,o,E⟩:=h
  exact⟨b,r,e,jbN.keeps k hF x b o,jaW.keeps k hF ks r E⟩
end
mutual
theorem jbN.mono{A A':Nat->Prop}{W:vW}(hA:∀ x,A x->x < W.heap.size->A' x):∀ (T:PT) (b:Nat),jbN A T b W->jbN A' T b W
 | .mk t ks,b,h=>by
  unfold jbN at *
  obtain⟨E,v,e,o,H,J⟩:=h
  exact⟨hA b E o.lt,v,e,o,H.mono hA,jaW.mono hA ks e J⟩
theorem jaW.mono{A A':Nat->Prop}{W:vW}(hA:∀ x,A x->x < W.heap.size->A' x):∀ (ks:List PT) (bs:List Nat),jaW A ks bs W->jaW A' ks bs W
 | [],bs,h=>by unfold jaW at *;exact h
 | x :: ks,bs,h=>by
  unfold jaW at *
  obtain⟨b,r,e,o,E⟩:=h
  exact⟨b,r,e,jbN.mono hA x b o,jaW.mono hA ks r E⟩
end
theorem jaW.append{A:Nat->Prop}{W:vW}:∀ (ks:List PT) (bs:List Nat) (ks':List PT) (bs':List Nat),jaW A ks bs W->jaW A ks' bs' W->jaW A (ks++ks') (bs++bs') W
 | [],bs,ks',bs',h,h'=>by unfold jaW at h;subst h;exact h'
 | x :: ks,bs,ks',bs',h,h'=>by
  unfold jaW at h
  obtain⟨b,r,rfl,e,o⟩:=h
  show jaW A (x ::(ks++ks')) (b ::(r++bs')) W;unfold jaW
  exact⟨b,r++bs',rfl,e,jaW.append ks r ks' bs' o h'⟩
theorem Tryz.uParts:Tryz.prog.underlying 140=some (.slice 76):=vY
theorem Tryz.infoPtr:(Tryz.prog.info? 76).map (fun i=>(i.zero,i.size,i.bytes))=some (some (.pointer none),1,8):=vY
theorem Tryz.sParts:jdv Tryz.prog 140 76 1 8:=jdv.mk' Tryz.uParts Tryz.infoPtr rfl vI
abbrev QRow(w0 w:vW)(v:vV)(bs:List Nat):Prop:=ORow 76 1 w0 w v bs.length (bs.map ptrV)
structure jdL(w0 W:World)(b m:Nat)(t:vB)(ks:List PT)(u:Value)(bs:List Nat):Prop where
 blk:Blk W b (.cells #[.string t,u] 142)
 new:w0.heap.size<=b
 row:QRow w0 W u bs
 nil:bs=[]->u=.slice none 0 0
 nb:¬ u.ownBlock=some b
 bm:m≠b
 mb:¬ u.ownBlock=some m
 mn:w0.heap.size<=m
 ml:m < W.heap.size
 ks:jaW (fun x=>w0.heap.size<=x/\x≠b/\x≠m/\¬ u.ownBlock=some x) ks bs W
theorem jdL.ext{w0 W W':vW}{b m:Nat}{t:vB}{ks:List PT}{u:vV}{bs:List Nat}(h:jdL w0 W b m t ks u bs)(e:Ext W W'):jdL w0 W' b m t ks u bs:=
 ⟨h.blk.keeps e (fun h=>h),h.new,h.row.mono e,h.nil,h.nb,h.bm,h.mb,h.mn,bQ h.ml e.size,jaW.keeps e (fun _ _ h=>h) _ _ h.ks⟩
theorem jdL.other{w0 W W':vW}{b m:Nat}{t:vB}{ks:List PT}{u:vV}{bs:List Nat}(h:jdL w0 W b m t ks u bs)(e:jae (fun x=>x=m) W W'):jdL w0 W' b m t ks u bs:=
 ⟨h.blk.keeps e (fun e=>h.bm e.symm),h.new,h.row.keeps e (fun x o e=>h.mb (by have e:x=m:=e;rw[<-e];exact o)) (fun x o e=>by have e:x=m:=e;have:=h.mn;omega),h.nil,h.nb,h.bm,h.mb,h.mn,bQ h.ml e.size,
  jaW.keeps e (fun x o e=>o.2.2.1 e) _ _ h.ks⟩
theorem jdL.setText{w0 W:vW}{b m:Nat}{t:vB}{ks:List PT}{u:vV}{bs:List Nat}(h:jdL w0 W b m t ks u bs)(t':vB):jdL w0 (W.setCell ⟨b,0,none⟩ (.string t')) b m t' ks u bs:=
 have K:=jae.oneSet W ⟨b,0,none⟩ (.string t')
 ⟨h.blk.set_same (i:=0) (.string t'),h.new,h.row.keeps K (fun x o e=>h.nb (by have e:x=b:=e;rw[<-e];exact o)) (fun x o e=>by have e:x=b:=e;have:=h.new;omega),h.nil,h.nb,h.bm,h.mb,h.mn,bQ h.ml K.size,jaW.keeps K (fun x o e=>o.2.1 e) _ _ h.ks⟩
theorem jdL.part{w0 W:vW}{b m:Nat}{t:vB}{ks:List PT}{u:vV}{bs:List Nat}(h:jdL w0 W b m t ks u bs):jbN (fun x=>w0.heap.size<=x) (.mk t ks) b W:=by
 unfold jbN
 refine⟨h.new,u,bs,h.blk,?_,jaW.mono (fun x o _=>o.1) _ _ h.ks⟩
 by_cases h0:bs=[]
 ·exact .inl ⟨h.nil h0,h0⟩
 ·obtain⟨_,⟨rfl,J⟩ |⟨g,e,A,rfl,K,E,H,O,Q⟩⟩:=h.row.own
  ·exact absurd (bE vO) h0
  ·refine .inr ⟨g,e,rfl,h0,h.row.new g rfl,(dJ.1 E).1,H,fun j b hb=>?_⟩
   have X:=(bP.1 hb).1;rw[h.row.own.cellAt j vO,bX,hb];rfl
def jbp(T:PT):List PT:=if T.text.size < 32 then []else [T]
structure jw4(T:PT):Prop where
 size:T.text.size<=100000
 small:T.text.size < 32->T.kids=[]
 nohash:T.text.size < 32->∃ q,cutN T.text=some q/\jfi T.text q=none
theorem jvr(W:vW)(b:Nat)(a:Option Addr)(c:Nat):vQ 74 #[ptrV b,.slice a 0 c] W fun e w'=>e=.returned (.string ⟨#[]⟩)/\w'=W:=by
 unfold ptrV;unfold vQ;go_in;go_wp2_with fail
 go_ret
 exact⟨rfl,rfl⟩
theorem jdQ{P:Program}{a:Act}{w w':vW}{v:vV}{d:Option Tmp}{args:Array Operand}{ats:Array TypeId}{ty:TypeId}{pos:String}{af:Array Edge}{g:Option (Nat × Bool)}{vs:Array vV}(h:(Builtin.append_ ats ty vs).run P w=.ok v w')(hv:args.map a.eval=vs) :
  (execOp a.eval ⟨d,.call { callee:=.builtin .append,args:=args,argTypes:=ats },ty,pos,af,g⟩).run P w=.ok (.value v) w':=by
 subst hv;simp[execOp,resolve,invoke,Go.builtin,Act.eval,cA,Result.andThen,cO,h]
theorem jdL.add{w0 W w1 w2:vW}{b m:Nat}{t:vB}{ks:List PT}{u u':vV}{bs:List Nat}{k:Nat}{T:PT}(h:jdL w0 W b m t ks u bs)(hk:jbN (fun x=>w1.heap.size<=x) T k W)(h1:b < w1.heap.size)(h1m:m < w1.heap.size)(h2:∀ x,u.ownBlock=some x->x < w1.heap.size)(h3:w0.heap.size<=w1.heap.size)
  (r1:QRow w0 w2 u' (bs++[k])) (r2:jae (fun x=>u.ownBlock=some x) W w2) (r3:u'.ownBlock=u.ownBlock\/∀ x,u'.ownBlock=some x->W.heap.size<=x) :
  jdL w0 (w2.setCell ⟨b,1,none⟩ u') b m t (ks++[T]) u' (bs++[k]):=by
 have K:jae (fun x=>x=b\/u.ownBlock=some x) W (w2.setCell ⟨b,1,none⟩ u'):=(r2.mono (fun x _ o=>.inr o)).setCell (.inl (.inl rfl)) _;have A:=h.blk.lt;have H:¬ u'.ownBlock=some b:=fun e=>by
  rcases r3 with r3 | r3
  ·exact h.nb (r3 ▸ e)
  ·have:=r3 b e;omega
 have E:∀ x,x < W.heap.size->¬ u.ownBlock=some x->¬ u'.ownBlock=some x:=fun x o O e=>by
  rcases r3 with r3 | r3
  ·exact O (r3 ▸ e)
  ·have:=r3 x e;omega
 refine⟨?_,h.new,r1.keeps (jae.oneSet w2 ⟨b,1,none⟩ u') (fun x o e=>H (by have e:x=b:=e;rw[<-e];exact o)) (fun x o e=>by have e:x=b:=e;have:=h.new;omega),fun e=>absurd e (by simp),H,h.bm,E m h.ml h.mb,h.mn,bQ h.ml K.size,?_⟩
 ·have:=(h.blk.keeps r2 h.nb).set_same (i:=1) u'
  exact this
 ·refine jaW.append _ _ _ _ ?_ ?_
  ·refine jaW.keeps K (fun x o e=>?_) _ _ (jaW.mono (A':=fun x=>w0.heap.size<=x/\x≠b/\¬ u.ownBlock=some x/\x≠m/\¬ u'.ownBlock=some x) (fun x o A=>⟨o.1,o.2.1,o.2.2.2,o.2.2.1,E x A o.2.2.2⟩) _ _ h.ks) |> jaW.mono (fun x o _=>⟨o.1,o.2.1,o.2.2.2.1,o.2.2.2.2⟩) _ _
   rcases e with e | e
   ·exact o.2.1 e
   ·exact o.2.2.1 e
  ·unfold jaW
   refine⟨k,[],rfl,?_,by unfold jaW;rfl⟩
   have J:jbN (fun x=>w0.heap.size<=x/\x≠b/\¬ u.ownBlock=some x/\x≠m/\¬ u'.ownBlock=some x) T k W:=jbN.mono (fun x o A=>⟨by omega,by omega,fun e=>by have:=h2 x e;omega,by omega,E x A (fun e=>by have:=h2 x e;omega)⟩) _ _ hk;refine jbN.mono (fun x o _=>⟨o.1,o.2.1,o.2.2.2.1,o.2.2.2.2⟩) _ _ (jbN.keeps K (fun x o e=>?_) _ _ J);rcases e with e | e
   ·exact o.2.1 e
   ·exact o.2.2.1 e
theorem jdL.same{w0 W:vW}{b m:Nat}{t:vB}{ks:List PT}{u:vV}{bs:List Nat}(h:jdL w0 W b m t ks u bs):jdL w0 (W.setCell ⟨b,1,none⟩ u) b m t ks u bs:=
 have K:=jae.oneSet W ⟨b,1,none⟩ u
 ⟨h.blk.set_same (i:=1) u,h.new,h.row.keeps K (fun x o e=>h.nb (by have e:x=b:=e;rw[<-e];exact o)) (fun x o e=>by have e:x=b:=e;have:=h.new;omega),h.nil,h.nb,h.bm,h.mb,h.mn,bQ h.ml K.size,jaW.keeps K (fun x o e=>o.2.1 e) _ _ h.ks⟩
theorem jbN.open{A:Nat->Prop}{T:PT}{b:Nat}{W:vW}(h:jbN A T b W):A b/\∃ v bs,Blk W b (.cells #[.string T.text,v] 142)/\RdQ A W v bs/\jaW A T.kids bs W:=by
 cases T with
 | mk t ks=>unfold jbN at h;exact h
theorem RdQ.sl{A:Nat->Prop}{W:vW}{v:vV}{bs:List Nat}(h:RdQ A W v bs):∃ a c,v=.slice a bs.length c:=by
 rcases h with⟨h1,h2⟩ |⟨g,c,h1,_⟩
 ·exact⟨none,0,by rw[h1,h2];rfl⟩
 ·exact⟨_,c,h1⟩
theorem jwM{w0 W:vW}(hc:jb0 W){b m:Nat}{t:vB}{ks:List PT}{u:vV}{bs:List Nat}(h:jdL w0 W b m t ks u bs)(hbs:bs.length<=100)(v:vV)(l:vL)(hv:RdP W v l)(hl:l≠[])(hln:l.length<=1000000)(T:PT)(hT:jw4 T)
  (hb:vQ 37 #[v] W fun e w'=>∃ k,e=.returned (ptrV k)/\jbN (fun x=>W.heap.size<=x) T k w'/\Ext W w') :
  vQ 74 #[ptrV b,v] W fun e w'=>∃ u' bs',e=.returned (.string (refB T.text))/\jdL w0 w' b m t (ks++jbp T) u' bs'/\bs'.length<=bs.length+1/\Ext w0 w'/\jae (fun x=>x=b\/u.ownBlock=some x) W w':=by
 obtain⟨av,cv,rfl⟩:=hv.sl
 have c2:l.length≠0:=fun e=>hl (bE e);have c0:((l.length:Int) == 0)=false:=by simp;exact hl
 have c1:¬(l.length:Int)=0:=vO
 have HB:=Hd hb;have H:=Hd h;have HC:=Hd hc;have HT:=Hd hT
 obtain⟨s,hs⟩:=vE T.text
 have b2:refB T.text=refB s:=by rw[hs]
 rw[b2];have HS:=Hd hs;clear hb h hc hT hv hl c2 hs b2;unfold ptrV;unfold vQ;go_in;go_wp2_with fail
 refine HB.o.mono ?_;rintro e w1 ⟨k,rfl,hk,E⟩;have HK:=Hd hk
 obtain⟨e0,vk,bk,a4,b3,b4⟩:=hk.open
 have q0:w1.cell? ⟨k,0,none⟩=some (.string s):=by rw[HS.o];exact a4.cell vF
 have H1:=Hd (H.o.ext E);have HE:=Hd E;have c3:=Hd (HC.o.ext E);have c4:=Hd a4;have c6:=Hd b3;have c7:=Hd b4;clear E hk a4 b3 b4;unfold ptrV;go_wp2_with fail
 refine vC (jyh w1 s c3.o) fun w2 E=>?_;have b5:=Hd E;have H2:=Hd (H1.o.ext E)
 by_cases hsm:s.size < 32
 ·have X:T.text.size < 32:=by rw[<-HS.o];exact hsm
  obtain⟨q,J,O⟩:=HT.o.nohash X
  rw[<-HS.o]at J O;have hr:refB s=s:=by unfold refB;rw[if_pos hsm]
  rw[hr];have a2:=HT.o.small X;have a3:=c7.o;rw[a2]at a3;unfold jaW at a3;have a6:=c6.o;rw[a3]at a6;have b6:vk=.slice none 0 0:=by
   rcases a6 with⟨h1,_⟩ |⟨g,c,_,h2,_⟩
   ·exact h1
   ·exact absurd rfl h2
  have A:ks++jbp T=ks:=by unfold jbp;rw[if_pos X,bZ]
  have Q:=Hd A;have a0:=Hd hr;have a7:=Hd J;have a8:=Hd O;have a1:=c4.o.keeps E (fun h=>h);rw[b6]at a1;have QK:=Hd (a1.cell (i:=1) (v:=.slice none 0 0) vF);clear E J O hr a2 a3 a6 b6 a1 A;go_wp2_with fail
  refine vC (je3 w2 s q vO a7.o) fun w3 E=>?_;rw[a8.o];have H3:=Hd (H2.o.ext E);have c8:=Hd (jaa QK.o E);have a9:=Hd ((HE.o.trans b5.o).trans E);clear E
  obtain⟨au,Z,hu⟩:=H3.o.row.sl
  subst hu;unfold optV;simp only;go_wp2_with fail
  have c9:bs.length<=Z:=by
   obtain⟨_,⟨hx,h2⟩ |⟨g,e2,e3,hx,h3,h4,h5,h6,h7⟩⟩:=H3.o.row.own
   ·have:=cN hx;omega
   ·have:=cN hx;omega
  refine jay [0,1,2,3,4,5,6,7,8,9,10,11,12] [12] Ext ExtR ExtT vY vY vY ?_;iterate 2 refine vP ?_
  refine qA _ (.pointer (some ⟨b,0,none⟩)) rfl (fun w1=>by kernel_rfl) ?_;refine vS ?_
  refine vP ?_
  refine qL ⟨b,1,none⟩ _ rfl (fun w1 h1=>jab Tryz.uParts rfl (jaa (by exact H3.o.blk.cell (i:=1) (v:=.slice au bs.length Z) vF) h1)) ?_;refine vS ?_
  refine vP ?_
  refine qA _ (.pointer (some ⟨k,0,none⟩)) rfl (fun w1=>by kernel_rfl) ?_;refine vS ?_
  refine vP ?_
  refine qL ⟨k,1,none⟩ _ rfl (fun w1 h1=>jab Tryz.uParts rfl (jaa (by exact c8.o) h1)) ?_;refine vS ?_
  obtain⟨i0,z0,d0,_⟩:=Tryz.sParts.hi
  refine qA _ (.slice au bs.length Z) rfl (fun w1=>jdQ (jcm Tryz.uParts d0 au bs.length Z c9 0 w1) vY) ?_;refine vS ?_;refine qA _ (.pointer (some ⟨b,0,none⟩)) rfl (fun w1=>by kernel_rfl) ?_;refine vS ?_
  refine vP ?_
  refine qH _ rfl (fun w4 he K hK=>?_);have h4:=H3.o.ext ((jai w3).trans he);have q1:w4.cell? ⟨b,1,none⟩=some (.slice au bs.length Z):=h4.blk.cell (i:=1) vF;have f1:w4.frozen? ⟨b,1,none⟩=false:=h4.blk.frozen;have H4:=Hd h4;have d1:=Hd (a9.o.trans ((jai w3).trans he));clear he h4;go_simp;refine hK _ _ ?_;clear hK K q1 f1;have H5:=Hd H4.o.same;refine qE (fun w5 he=>?_);have H6:=Hd (H5.o.ext he);have d2:=Hd ((((d1.o.mono (G:=fun x=>x=b\/(Value.slice au bs.length Z).ownBlock=some x) (fun _ _ h=>h.elim)).setCell (p:=⟨b,1,none⟩) (.inl (.inl rfl)) (.slice au bs.length Z)).trans (he.mono (fun _ _ h=>h.elim))));clear he H5 H4;go_wp2_with fail
  go_ret
  exact⟨_,bs,by rw[a0.o];rfl,by rw[Q.o];exact H6.o,by omega,H6.o.row.ext,d2.o⟩
 ·have X:¬ T.text.size < 32:=by rw[<-HS.o];exact hsm
  obtain⟨r,hr⟩:=vE (refB s)
  have b0:r=jao (shaB s):=by rw[hr];unfold refB;rw[if_neg hsm]
  obtain⟨q,J,O⟩:=jdT (shaB s) (jbd s)
  rw[<-b0]at J O;have d3:r.size<=1000000000:=by have:=jaN (shaB s);have:=jbd s;rw[b0];omega
  have A:ks++jbp T=ks++[T]:=by unfold jbp;rw[if_neg X]
  rw[<-hr];have Q:=Hd A;have a0:=Hd hr;have a7:=Hd J;have a8:=Hd O;have d4:=Hd (jbN.keeps E (fun _ _ h=>h) _ _ HK.o);clear E J O hr b0 A X;go_wp2_with fail
  refine vC (je3 w2 r q d3 a7.o) fun w3 E=>?_;rw[a8.o];have h3:=H2.o.ext E;have b1:=Hd (jbN.keeps E (fun _ _ h=>h) _ _ d4.o);have b7:=(HE.o.trans b5.o).trans E
  obtain⟨au,Z,hu⟩:=h3.row.sl
  subst hu;have q1:w3.cell? ⟨b,1,none⟩=some (.slice au bs.length Z):=h3.blk.cell (i:=1) vF;have H3:=Hd h3;have d5:=H.o.blk.lt;have b8:=H.o.row.lt;have d6:=Hd b8;have d7:=H.o.row.ext.size;have a9:=Hd b7;clear E h3 b7 b8;unfold optV;simp only;go_wp2_with (at_builtin;refine jaO Tryz.sParts (H3.o.row.mono ((ExtR w3).alloc _)) (.tmp 29) (.tmp 31) rfl rfl rfl (jaJ (Blk.new w3 _)) (news:=[ptrV k]) (by intro u hu;simp at hu;rw[hu];rfl) rfl rfl (by unfold maxLen;omega) vO (fun v' w4 r1 r2 r3=>?_);obtain⟨a5,c5,d8⟩:=r1.sl;subst d8;have b9:=(H3.o.blk.alloc _).keeps r2 H3.o.nb;have qb:w4.cell? ⟨b,1,none⟩=some (.slice au bs.length Z):=b9.cell (i:=1) vF;have fb:w4.frozen? ⟨b,1,none⟩=false:=b9.frozen)
  have e1:QRow w0 w4 (.slice a5 (bs.length+1) c5) (bs++[k]):=by
   unfold QRow;rw[bC,cB];exact r1
  have h5:=jdL.add (w1:=W) (H3.o.ext ((ExtR w3).alloc _)) (jbN.keeps ((ExtR w3).alloc _) (fun _ _ h=>h) _ _ b1.o) d5 H.o.ml d6.o d7 e1 r2 r3;have d9:jae (fun x=>x=b\/(Value.slice au bs.length Z).ownBlock=some x) W (w4.setCell ⟨b,1,none⟩ (.slice a5 (bs.length+1) c5)):=
   ((((a9.o.alloc _).mono (G:=fun x=>x=b\/(Value.slice au bs.length Z).ownBlock=some x) (fun _ _ h=>h.elim)).trans (r2.mono (fun _ _ h=>.inr h)))).setCell (.inl (.inl rfl)) _
  go_ret
  exact⟨_,bs++[k],by rw[<-a0.o];rfl,by rw[Q.o];exact h5,by simp,h5.row.ext,d9⟩
abbrev Lt(a b:vN):Prop:=Op.bytesLess a b=true
theorem jbG{a b:vU}{x y:vN}:Lt (a :: x) (b :: y)↔a < b\/(a=b/\Lt x y):=by
 unfold Lt;rw[Op.bytesLess];simp
theorem not_lt_nil(a:vN):¬ Lt a []:=by
 unfold Lt;cases a <;> simp[Op.bytesLess]
theorem jpu{b:vU}{y:vN}:Lt [] (b :: y):=rfl
theorem lt_irrefl:∀ a:vN,¬ Lt a a
 | [],h=>not_lt_nil _ h
 | a :: x,h=>by
  rcases jbG.1 h with h | h
  ·exact iN a h
  ·exact lt_irrefl x h.2
theorem jbf:∀ (a b:vN),a.take (jaY a b)=b.take (jaY a b)/\jaY a b<=a.length/\jaY a b<=b.length
 | [],b=>by simp[jaY]
 | x :: r,[]=>by simp[jaY]
 | x :: r,y :: t=>by
  unfold jaY;split
  ·rename_i h
   obtain⟨e,o,A⟩:=jbf r t
   subst h;simp only[dV,bF,e]
   exact⟨trivial,by omega,by omega⟩
  ·simp
theorem jih(a b:vN):jaY (a.drop (jaY a b)) (b.drop (jaY a b))=0:=by
 obtain⟨e,o,A⟩:=jbf a b
 have:=jdP a b (jaY a b) e o A
 omega
theorem jrF:∀ (k:Nat) (a m b:vN),Lt a m->Lt m b->a.take k=b.take k->k<=a.length->k<=b.length->m.take k=a.take k/\k<=m.length
 | 0,a,m,b,_,_,_,_,_=>by simp
 | k+1,[],m,b,_,_,_,h,_=>by simp at h
 | k+1,x :: a,m,[],_,_,_,_,h=>by simp at h
 | k+1,x :: a,[],y :: b,h,_,_,_,_=>absurd h (not_lt_nil _)
 | k+1,x :: a,z :: m,y :: b,h1,h2,e,h4,h5=>by
  simp only[dV,List.cons.injEq]at e
  obtain⟨rfl,e⟩:=e
  have o:x=z:=by
   rcases jbG.1 h1 with h | h
   ·rcases jbG.1 h2 with h' | h'
    ·exact absurd (UInt8.lt_trans h h') (iN x)
    ·rw[h'.1]at h;exact absurd h (iN x)
   ·exact h.1
  subst o;have A:Lt a m:=by
   rcases jbG.1 h1 with h | h
   ·exact absurd h (iN x)
   ·exact h.2
  have E:Lt m b:=by
   rcases jbG.1 h2 with h | h
   ·exact absurd h (iN x)
   ·exact h.2
  obtain⟨H,J⟩:=jrF k a m b A E e (by simpa using h4) (by simpa using h5)
  simp only[dV,H,bF]
  exact⟨trivial,by omega⟩
theorem jsO:∀ (k:Nat) (a b:vN),Lt a b->a.take k=b.take k->k<=a.length->k<=b.length->Lt (a.drop k) (b.drop k)
 | 0,a,b,h,_,_,_=>h
 | k+1,[],b,_,_,h,_=>by simp at h
 | k+1,x :: a,[],h,_,_,_=>absurd h (not_lt_nil _)
 | k+1,x :: a,y :: b,h,h1,h2,h3=>by
  simp only[dV,List.cons.injEq]at h1;rcases jbG.1 h with h | h
  ·rw[h1.1]at h;exact absurd h (iN y)
  ·exact jsO k a b h.2 h1.2 (by simpa using h2) (by simpa using h3)
abbrev Pair.l(p:Pair):vN:=p.1.data.toList
structure jap(f:Nat)(l:vL):Prop where
 size:∀ p∈l,p.1.size<=f/\p.1.size<=12/\jaB p.1=true/\0 < p.2.size/\p.2.size<=80
 rise:l.Pairwise fun p q=>Lt p.l q.l
theorem jcR(b:vB)(k n:Nat)(h:b.size<=n):(b.extract k n).data.toList=b.data.toList.drop k:=by
 rw[dB,fM,dZ,bN];rw[dQ];have:b.data.toList.length=b.size:=rfl;omega
theorem ja1(b:vB)(k:Nat):(b.extract k b.size).size=b.size - k:=by rw[cJ];omega
theorem jbw{b:vB}(h:jaB b=true)(k n:Nat):jaB (b.extract k n)=true:=by
 unfold jaB at *;rw[fH]at *;intro x e;refine h x ?_;rw[dB,fM,dZ]at e;exact List.mem_of_mem_drop (gC e)
def pd:Pair:=(⟨#[]⟩,⟨#[]⟩)
def comK(l:vL):Nat:=jal (l.getD 0 pd).1 (l.getD (l.length - 1) pd).1
theorem jcc{l:vL}{R:Pair->Pair->Prop}(h:l.Pairwise R){i j:Nat}{p q:Pair}(hij:i < j)(hi:l[i]?=some p)(hj:l[j]?=some q):R p q:=by
 obtain⟨e,rfl⟩:=bP.1 hi
 obtain⟨o,rfl⟩:=bP.1 hj
 exact gV.1 h i j e o hij
theorem jbi{f:Nat}{l:vL}(h:jap f l)(h2:2<=l.length):∀ p∈l,p.l.take (comK l)=(l.getD 0 pd).l.take (comK l)/\comK l<=p.1.size:=by
 intro p K
 obtain⟨i,e⟩:=iL K
 have O:=(bP.1 e).1
 obtain⟨a,o⟩:∃ a,l[0]?=some a:=⟨_,bA vO⟩
 obtain⟨b,hb⟩:∃ b,l[l.length - 1]?=some b:=⟨_,bA vO⟩
 have A:l.getD 0 pd=a:=by rw[bH,o];rfl
 have Q:l.getD (l.length - 1) pd=b:=by rw[bH,hb];rfl
 have X:comK l=jaY a.l b.l:=by unfold comK jal;rw[A,Q]
 obtain⟨E,H,J⟩:=jbf a.l b.l
 rw[X,A]
 by_cases h0:i=0
 ·subst h0;rw[o]at e;obtain rfl:=bO e;exact⟨rfl,H⟩
 ·by_cases hn:i=l.length - 1
  ·subst hn;rw[hb]at e;obtain rfl:=bO e;exact⟨E.symm,J⟩
  ·exact jrF _ a.l p.l b.l (jcc h.rise vO o e) (jcc h.rise vO e hb) E H J
theorem jcb{f:Nat}{l:vL}(k:Nat)(h:jap f l)(hk:∀ p∈l,∀ q∈l,p.l.take k=q.l.take k)(hs:∀ p∈l,k<=p.1.size):jap (f - k) (jak k l):=by
 refine⟨fun p e=>?_,?_⟩
 ·obtain⟨q,o,rfl⟩:=bK.1 e
  obtain⟨K,O,E,H,J⟩:=h.size q o
  refine⟨?_,?_,jbw E _ _,H,J⟩
  ·show (q.1.extract k q.1.size).size<=_;rw[ja1];omega
  ·show (q.1.extract k q.1.size).size<=_;rw[ja1];omega
 ·unfold jak
  rw[iR];refine List.Pairwise.imp_of_mem (fun {p q} e o A=>?_) h.rise;show Lt (p.1.extract k p.1.size).data.toList (q.1.extract k q.1.size).data.toList;rw[jcR _ _ _ (bL _),jcR _ _ _ (bL _)];exact jsO k _ _ A (hk p e q o) (hs p e) (hs q o)
theorem jbA{i:Nat}{l:vL}{p:Pair}(h:p∈cutL i l):p∈l/\∃ a r,p.l=a :: r/\a.toNat=i:=by
 obtain⟨o,e⟩:=cP.1 h
 refine⟨o,?_⟩
 unfold jeT at e;cases hp:p.1.data.toList with
 | nil=>rw[hp]at e;cases e
 | cons a r=>rw[hp]at e;exact⟨a,r,hp,by simpa using e⟩
theorem jr2{f:Nat}{l:vL}(i:Nat)(h:jap f l):jap f (cutL i l):=
 ⟨fun p e=>h.size p (jbA e).1,List.Pairwise.filter _ h.rise⟩
theorem jcU{f:Nat}{l:vL}(i:Nat)(h:jap f l):jap (f - 1) (jak 1 (cutL i l)):=by
 refine jcb 1 (jr2 i h) (fun p e q E=>?_) (fun p e=>?_)
 ·obtain⟨_,a,r,o,A⟩:=jbA e
  obtain⟨_,b,t,H,J⟩:=jbA E
  rw[o,H,dS.1 (A.trans J.symm)];rfl
 ·obtain⟨_,a,r,o,A⟩:=jbA e
  show 1<=p.1.data.toList.length;rw[show p.1.data.toList=a :: r from o];simp
def jar(B:vL->PT)(l:vL):jad:=
 if l.length=0 then jaH
 else if l.length=1 then ⟨1,(l.getD 0 pd).1,(l.getD 0 pd).2,jan 16⟩
 else if 0 < comK l then ⟨2,(l.getD 0 pd).1.extract 0 (comK l),⟨#[]⟩,refB (B (jak (comK l) l)).text :: jan 15⟩
 else ⟨3,⟨#[]⟩,if (l.getD 0 pd).1.size=0 then (l.getD 0 pd).2 else ⟨#[]⟩,(List.range 16).map fun i=>if (cutL i l).length=0 then ⟨#[]⟩else refB (B (jak 1 (cutL i l))).text⟩
def jas(B:vL->PT)(l:vL):List PT:=
 if l.length<=1 then []
 else if 0 < comK l then jbp (B (jak (comK l) l))
 else (List.range 16).flatMap fun i=>if (cutL i l).length=0 then []else jbp (B (jak 1 (cutL i l)))
def jac:Nat->vL->PT
 | 0,_=>.mk ⟨#[]⟩ []
 | f+1,l=>.mk (jaQ (jar (jac f) l)) (jas (jac f) l)
theorem jap.mono{f g:Nat}{l:vL}(h:jap f l)(hg:f<=g):jap g l:=⟨fun p e=>by obtain⟨A,o⟩:=h.size p e;exact⟨by omega,o⟩,h.rise⟩
theorem ji2:∀ (l:vM) (i j:Nat) (r:vB),l[j]?=some r->r.size≠0->(i+j,r)∈jax i l
 | [],i,j,r,h,_=>by simp at h
 | x :: l,i,0,r,h,h0=>by
  simp at h;subst h;unfold jax;rw[if_neg h0];exact bG ..
 | x :: l,i,j+1,r,h,h0=>by
  have:=ji2 l (i+1) j r (by simpa using h) h0
  rw[show i+(j+1)=i+1+j by omega];unfold jax;split
  ·exact this
  ·exact bD _ this
theorem jAB{α:Type}{a b:α}{l:List α}(ha:a∈l)(hb:b∈l)(h:a≠b):2<=l.length:=by
 match l,ha,hb with
 | [x],ha,hb =>
  rw[bY]at ha hb;exact absurd (ha.trans hb.symm) h
 | x :: y :: r,_,_=>simp
theorem jAb{α:Type}{a:α}{l:List α}(ha:a∈l):1<=l.length:=by cases l <;> simp at ha ⊢
structure jdM(f:Nat)(T:PT)(n:jad):Prop where
 text:T.text=jaQ n
 good:jbS (InlD f) n
 kind:n.kind≠0
 small:T.text.size < 32->T.kids=[]
theorem jdM.may{f:Nat}{T:PT}{n:jad}(h:jdM f T n):MayP (InlD (f+1)) (refB T.text)/\(T.text.size < 32->InlD (f+1) (refB T.text) n):=by
 by_cases hs:T.text.size < 32
 ·have e:refB T.text=jaQ n:=by unfold refB;rw[if_pos hs,h.text]
  have o:InlD (f+1) (refB T.text) n:=by rw[e];exact⟨h.good,rfl,by rw[<-h.text];exact hs,h.kind⟩
  exact⟨.inr ⟨n,o⟩,fun _=>o⟩
 ·exact⟨.inl ⟨shaB T.text,jbd _,by unfold refB;rw[if_neg hs]⟩,fun h=>absurd h hs⟩
theorem MayP.pos{f:Nat}{r:vB}(h:MayP (InlD f) r):r.size≠0:=by
 rcases h with h |⟨m,h⟩
 ·rw[h.size];omega
 ·exact (inlP f).pos r m h
theorem jdM.kid{f:Nat}{T:PT}{n:jad}(h:jdM f T n):jw4 T:=by
 have e:=h.good.one (inlP f)
 refine⟨by have:=jhs n e;rw[h.text];omega,h.small,fun E=>?_⟩
 obtain⟨xs,o,A⟩:=jj0 n e h.kind
 rw[h.text,o];exact jmi xs A
theorem jv0{T:PT}(h:¬ T.text.size < 32):(refB T.text).size=33:=by
 have:jfa (refB T.text):=⟨shaB T.text,jbd _,by unfold refB;rw[if_neg h]⟩
 exact this.size
theorem jhP:∀ (l:vM) (x:vB),x∈l->x.size<=(catB l).size
 | y :: l,x,h=>by
  rw[ja4];rcases bM.1 h with rfl | h
  ·omega
  ·have:=jhP l x h;omega
theorem jkQ(xs:vM):(catB xs).size<=(ja7 xs).size:=by unfold ja7;rw[bV];omega
theorem jjN{k:Nat}{l:vL}{i:Nat}(h:i < l.length):(jak k l).getD i pd=((l.getD i pd).1.extract k (l.getD i pd).1.size,(l.getD i pd).2):=by
 unfold jak;rw[bH,bX,bH,bA h];rfl
theorem jaI(k:Nat)(l:vL):(jak k l).length=l.length:=by simp[jak]
theorem jgt{l:vL}(h:0 < l.length):comK (jak (comK l) l)=0:=by
 have e:comK (jak (comK l) l)=jaY (((l.getD 0 pd).l).drop (comK l)) (((l.getD (l.length - 1) pd).l).drop (comK l)):=by
  conv=>lhs;unfold comK
  rw[jaI,jjN h,jjN vO];unfold jal;simp only;rw[jcR _ _ _ (bL _),jcR _ _ _ (bL _)];rfl
 rw[e];exact jih _ _
theorem jfn{p:Pair}(h:jaB p.1=true){a:vU}{r:vN}(hp:p.l=a :: r):a.toNat < 16:=by
 have:a<=15:=of_decide_eq_true (fH.1 h a (by rw[show p.1.data.toList=a :: r from hp];exact bG ..))
 have:=fB.1 this
 have e:(15:vU).toNat=15:=rfl;omega
theorem good:∀ (f:Nat) (l:vL),jap f l->jbS (InlD f) (jar (jac f) l)/\(l≠[]->jdM f (jac (f+1) l) (jar (jac f) l))/\(2<=l.length->comK l=0->(jar (jac f) l).kind=3):=by
 intro f;induction f with
 | zero =>
  intro l h;have hl:l.length<=1:=by
   rcases fQ l.length 2 with h2 | h2
   ·omega
   ·obtain⟨a,ha⟩:∃ a,l[0]?=some a:=⟨_,bA vO⟩
    obtain⟨b,hb⟩:∃ b,l[1]?=some b:=⟨_,bA vO⟩
    have o:=jcc h.rise vO ha hb
    have:=(h.size b (bI hb)).1
    rw[show b.l=[]from bE (by show b.1.size=0;omega)]at o;exact absurd o (not_lt_nil _)
  by_cases J:l.length=0
  ·have e:jar (jac 0) l=jaH:=by unfold jar;rw[if_pos J]
   rw[e]
   exact⟨.none,fun hn=>absurd (bE J) hn,fun h2=>by omega⟩
  ·have h1:l.length=1:=vO
   obtain⟨p,E⟩:=vE (l.getD 0 pd)
   have e:jar (jac 0) l=⟨1,p.1,p.2,jan 16⟩:=by unfold jar;rw[if_neg J,if_pos h1,E]
   have a2:p∈l:=by rw[E,bH,bA vO];exact dD _
   obtain⟨s1,s2,s3,s4,s5⟩:=h.size p a2
   have K:jbS (InlD 0) ⟨1,p.1,p.2,jan 16⟩:=.leaf p.1 p.2 (by simp[jad.pathOk,s2,s3]) s4 s5;rw[e]
   exact⟨K,fun _=>⟨by unfold jac;rw[e];rfl,K,by simp,fun _=>by unfold jac jas;rw[if_pos vO];rfl⟩,fun h2=>by omega⟩
 | succ f ih =>
  intro l h
  by_cases J:l.length=0
  ·have e:jar (jac (f+1)) l=jaH:=by unfold jar;rw[if_pos J]
   rw[e]
   exact⟨.none,fun hn=>absurd (bE J) hn,fun h2=>by omega⟩
  by_cases h1:l.length=1
  ·obtain⟨p,E⟩:=vE (l.getD 0 pd)
   have e:jar (jac (f+1)) l=⟨1,p.1,p.2,jan 16⟩:=by unfold jar;rw[if_neg J,if_pos h1,E]
   have a2:p∈l:=by rw[E,bH,bA vO];exact dD _
   obtain⟨s1,s2,s3,s4,s5⟩:=h.size p a2
   have K:jbS (InlD (f+1)) ⟨1,p.1,p.2,jan 16⟩:=.leaf p.1 p.2 (by simp[jad.pathOk,s2,s3]) s4 s5;rw[e]
   exact⟨K,fun _=>⟨by unfold jac;rw[e];rfl,K,by simp,fun _=>by unfold jac jas;rw[if_pos vO];rfl⟩,fun h2=>by omega⟩
  have h2:2<=l.length:=vO
  have A:=jbi h h2
  obtain⟨a,ha⟩:∃ a,l[0]?=some a:=⟨_,bA vO⟩
  obtain⟨b,hb⟩:∃ b,l[l.length - 1]?=some b:=⟨_,bA vO⟩
  have ga:l.getD 0 pd=a:=by rw[bH,ha];rfl
  have gb:l.getD (l.length - 1) pd=b:=by rw[bH,hb];rfl
  have o:=jcc h.rise vO ha hb
  obtain⟨c3,c4,b3,c5,b4⟩:=h.size a (bI ha)
  obtain⟨c6,c7,c8,c9,d0⟩:=h.size b (bI hb)
  by_cases hk:0 < comK l
  ·have b5:jap f (jak (comK l) l):=(jcb (comK l) h (fun p E q hq=>(A p E).1.trans (A q hq).1.symm) (fun p E=>(A p E).2)).mono vO
   obtain⟨_,i2,i3⟩:=ih _ b5
   have a8:=i2 (fun e=>by have:=jaI (comK l) l;rw[e]at this;simp at this;omega);have b6:=i3 (by rw[jaI];omega) (jgt vO);have e:jar (jac (f+1)) l=⟨2,a.1.extract 0 (comK l),⟨#[]⟩,refB (jac (f+1) (jak (comK l) l)).text :: jan 15⟩:=by unfold jar;rw[if_neg J,if_neg h1,if_pos hk,ga]
   have d1:=(A a (bI ha)).2;have b7:(a.1.extract 0 (comK l)).size=comK l:=by rw[cJ];omega
   have K:jbS (InlD (f+1)) (jar (jac (f+1)) l):=by
    rw[e];refine .ext _ _ ?_ a8.may.1.pos ?_
    ·simp[jad.pathOk,b7,jbw b3];omega
    ·by_cases hs:(jac (f+1) (jak (comK l) l)).text.size < 32
     ·exact .inr ⟨_,a8.may.2 hs,b6⟩
     ·exact .inl ⟨_,jbd _,by unfold refB;rw[if_neg hs]⟩
   refine⟨K,fun _=>⟨rfl,K,by rw[e];simp,fun O=>?_⟩,fun _ a3=>by omega⟩
   have Q:(jac (f+1+1) l).kids=jbp (jac (f+1) (jak (comK l) l)):=by
    show jas (jac (f+1)) l=_;unfold jas;rw[if_neg vO,if_pos hk]
   rw[Q];unfold jbp;rw[if_pos];rcases fQ (jac (f+1) (jak (comK l) l)).text.size 32 with hx | hx
   ·exact hx
   ·have b8:=jv0 (T:=jac (f+1) (jak (comK l) l)) vO
    have ht:(jac (f+1+1) l).text=extB (jar (jac (f+1)) l):=by show jaQ (jar (jac (f+1)) l)=_;rw[e];rfl
    rw[ht,e]at O
    have:=jkQ [jao (putB (a.1.extract 0 (comK l)) false),refB (jac (f+1) (jak (comK l) l)).text]
    have:=jhP [jao (putB (a.1.extract 0 (comK l)) false),refB (jac (f+1) (jak (comK l) l)).text] _ (bD _ (bG ..))
    have a0:(ja7 [jao (putB (a.1.extract 0 (comK l)) false),refB (jac (f+1) (jak (comK l) l)).text]).size < 32:=O;omega
  ·obtain⟨H,X⟩:=vE ((List.range 16).map fun i=>if (cutL i l).length=0 then (⟨#[]⟩:vB)else refB (jac (f+1) (jak 1 (cutL i l))).text)
   have e:jar (jac (f+1)) l=⟨3,⟨#[]⟩,if a.1.size=0 then a.2 else ⟨#[]⟩,H⟩:=by unfold jar;rw[if_neg J,if_neg h1,if_neg hk,ga,X]
   have a1:∀ i,(cutL i l).length≠0->jdM f (jac (f+1) (jak 1 (cutL i l))) (jar (jac f) (jak 1 (cutL i l))):=fun i hi =>
    (ih _ (jcU i h)).2.1 (fun e=>by have:=jaI 1 (cutL i l);rw[e]at this;simp at this;omega)
   have a9:H.length=16:=by rw[X];simp
   have b0:∀ i,i < 16->H[i]?=some (if (cutL i l).length=0 then (⟨#[]⟩:vB)else refB (jac (f+1) (jak 1 (cutL i l))).text):=fun i hi=>by
    rw[X,bX,dW hi];rfl
   have a5:∀ r∈H,r.size≠0->MayP (InlD (f+1)) r:=by
    intro r hr b1;rw[X]at hr
    obtain⟨i,_,rfl⟩:=bK.1 hr
    by_cases hi:(cutL i l).length=0
    ·rw[if_pos hi]at b1;exact absurd rfl b1
    ·rw[if_neg hi];exact (a1 i hi).may.1
   have a4:∀ (p:Pair) (x:vU) (r:vN),p∈l->p.l=x :: r->∃ y,(x.toNat,y)∈jax 0 H:=by
    intro p x r E b2;have hx:=jfn (h.size p E).2.2.1 b2;have hc:(cutL x.toNat l).length≠0:=by
     intro J;have hm:p∈cutL x.toNat l:=cP.2 ⟨E,by unfold jeT;rw[show p.1.data.toList=x :: r from b2];simp⟩;rw[bE J]at hm;cases hm
    have h5:=b0 x.toNat hx;rw[if_neg hc]at h5
    have:=ji2 H 0 x.toNat _ h5 (a1 _ hc).may.1.pos
    rw[cH]at this
    exact⟨_,this⟩
   have d2:comK l=jaY a.l b.l:=by unfold comK jal;rw[ga,gb]
   have a3:jaY a.l b.l=0:=vO
   have Z:2<=min (if a.1.size=0 then a.2 else (⟨#[]⟩:vB)).size 1+(jax 0 H).length:=by
    cases hal:a.l with
    | nil =>
     have b9:a.1.size=0:=by show a.1.data.toList.length=0;rw[show a.1.data.toList=[]from hal];rfl
     rw[if_pos b9];cases hbl:b.l with
     | nil=>rw[hbl]at o;exact absurd o (not_lt_nil _)
     | cons y r =>
      obtain⟨z,hz⟩:=a4 b y r (bI hb) hbl
      have:=jAb hz
      omega
    | cons x r =>
     cases hbl:b.l with
     | nil=>rw[hbl]at o;exact absurd o (not_lt_nil _)
     | cons y t =>
      obtain⟨z,hz⟩:=a4 a x r (bI ha) hal
      obtain⟨z',c0⟩:=a4 b y t (bI hb) hbl
      have c1:x≠y:=by
       intro e;rw[hal,hbl,e]at a3;simp[jaY]at a3
      have:=jAB hz c0 (fun e=>c1 (dS.1 (Prod.mk.inj e).1))
      omega
   have K:jbS (InlD (f+1)) (jar (jac (f+1)) l):=by
    rw[e];refine .branch _ _ a9 ?_ a5 Z;split
    ·exact b4
    ·exact cD _
   refine⟨K,fun _=>⟨rfl,K,by rw[e];simp,fun O=>?_⟩,fun _ _=>by rw[e]⟩
   have Q:(jac (f+1+1) l).kids=(List.range 16).flatMap fun i=>if (cutL i l).length=0 then []else jbp (jac (f+1) (jak 1 (cutL i l))):=by
    show jas (jac (f+1)) l=_;unfold jas;rw[if_neg vO,if_neg hk]
   rw[Q,List.flatMap_eq_nil_iff];intro i hi;have a6:=fA.1 hi
   by_cases hc:(cutL i l).length=0
   ·rw[if_pos hc]
   ·rw[if_neg hc]
    unfold jbp;rw[if_pos];rcases fQ (jac (f+1) (jak 1 (cutL i l))).text.size 32 with hx | hx
    ·exact hx
    ·have b8:=jv0 (T:=jac (f+1) (jak 1 (cutL i l))) vO
     have ht:(jac (f+1+1) l).text=jec (jar (jac (f+1)) l):=by show jaQ (jar (jac (f+1)) l)=_;rw[e];rfl
     rw[ht,e]at O;have h6:=b0 i a6;rw[if_neg hc]at h6;have c2:jbP ⟨3,⟨#[]⟩,if a.1.size=0 then a.2 else ⟨#[]⟩,H⟩=ja3 H (if a.1.size=0 then a.2 else ⟨#[]⟩):=jdD _ a9;have a7:refB (jac (f+1) (jak 1 (cutL i l))).text∈ja3 H (if a.1.size=0 then a.2 else ⟨#[]⟩):=by
      unfold ja3;refine dH _ (bK.2 ⟨_,bI h6,?_⟩);rw[if_neg vO]
     have h7:=jhP _ _ a7;have h8:=jkQ (ja3 H (if a.1.size=0 then a.2 else ⟨#[]⟩));have a0:(ja7 (jbP ⟨3,⟨#[]⟩,if a.1.size=0 then a.2 else ⟨#[]⟩,H⟩)).size < 32:=O;rw[c2]at a0;omega
def jib(l:vL)(T:PT):Prop:=∀ (w:vW) (v:vV),jb0 w->RdP w v l->vQ 37 #[v] w fun e w'=>∃ k,e=.returned (ptrV k)/\jbN (fun x=>w.heap.size<=x) T k w'/\Ext w w'
theorem jvq(w:vW)(W1 W2:vW)(bn:Nat)(h1:W1=w.alloc (.cells #[.string ⟨#[]⟩,.slice none 0 0] 142))(h2:Ext W1 W2)(h3:bn=W1.heap.size)(h4:bn < W2.heap.size):jdL w W2 w.heap.size bn ⟨#[]⟩ [] (.slice none 0 0) []:=by
 have A:W1.heap.size=w.heap.size+1:=by rw[h1,bT]
 have o:Ext w W2:=(by rw[h1]at h2;exact ((ExtR w).alloc _).trans h2)
 refine⟨?_,bL _,ORow.nil _ _ o,fun _=>rfl,fun e=>(by cases e),by omega,fun e=>(by cases e),by omega,h4,by unfold jaW;rfl⟩
 rw[h1]at h2;exact (Blk.new w _).keeps h2 (fun h=>h)
theorem jqk(f:Nat)(l:vL)(h0:l.length=0):jib l (jac (f+1) l):=by
 intro w v hc hv
 obtain⟨a,c,Q⟩:=hv.sl
 rw[h0]at Q;subst Q;have ht:jac (f+1) l=.mk (jaQ jaH) []:=by
  show PT.mk (jaQ (jar _ l)) (jas _ l)=_;unfold jar jas;rw[if_pos h0,if_pos vO]
 rw[ht];clear hv hc h0
 obtain⟨W1,A⟩:=vE (w.alloc (.cells #[.string ⟨#[]⟩,.slice none 0 0] 142))
 have a0:=Hd A;go_enter Tryz.func37,Tryz.ntmps37;go_wp2_with (first |(refine jaj Tryz.allocNode rfl rfl ?_;intro W3 X J;refine jah (vs:=jaH.cells) rfl rfl rfl rfl X rfl Tryz.szNode (jad.one _) ?_;intro W4 E K;simp only[bT]at E K) |(refine jaf 103 (.tmp 4) rfl rfl _ _ rfl (jaq _ _ jaH rfl E) ?_))
 have H:Ext W1 W4:=by
  rw[<-A]at J;exact J.trans' K (fun x hx e=>by have e:x=w.heap.size+1:=e;rw[A,bT]at hx;omega)
 have HH:=Hd (jvq w W1 W4 (w.heap.size+1) A H (by rw[A,bT]) E.lt);have HG:=Hd (jbS.none (I:=InlD f));clear J K X A a0 ht;unfold jad.V;refine vH (jj2 (inlP f) _ jaH HG.o) fun w9 hE=>?_;have Z:=HH.o.ext hE;have q0:w9.cell? ⟨w.heap.size,0,none⟩=some (.string ⟨#[]⟩):=Z.blk.cell (i:=0) vF;have f0:w9.frozen? ⟨w.heap.size,0,none⟩=false:=Z.blk.frozen;have H9:=Hd (Z.setText (jaQ jaH))
 obtain⟨tx,O⟩:=vE (jaQ jaH)
 rw[<-O]at H9 ⊢;have a1:=Hd O;clear Z O E H;go_wp2_with fail
 go_ret
 exact⟨w.heap.size,rfl,by rw[<-a1.o];exact H9.o.part,H9.o.row.ext⟩
theorem jrM(f:Nat)(l:vL)(H:l.length=1)(hok:jap f l):jib l (jac (f+1) l):=by
 intro w v hc hv
 obtain⟨p,hp⟩:∃ p,l=[p]:=by
  match l,H with
  | [p],_=>exact⟨p,rfl⟩
 have hn:jar (jac f) l=⟨1,p.1,p.2,jan 16⟩:=by unfold jar;rw[if_neg vO,if_pos H,hp];rfl
 have A:=(good f l hok).1;rw[hn]at A;have ht:jac (f+1) l=.mk (jaQ ⟨1,p.1,p.2,jan 16⟩) []:=by
  show PT.mk (jaQ (jar _ l)) (jas _ l)=_;rw[hn];unfold jas;rw[if_pos vO]
 obtain⟨T,hT⟩:=vE (jac (f+1) l)
 rw[<-hT]at ht ⊢;have HT:=Hd ht;rcases hv with⟨_,_,_,h0⟩ |⟨b,o,c,rfl,hb,hcl,hcell⟩
 ·rw[h0]at H;cases H
 obtain⟨q1,q2⟩:=hcell 0 p (by rw[hp];rfl)
 rw[gI,fN]at q1 q2;rw[H]at hcl ⊢
 obtain⟨x,y⟩:=p
 have A:=A;have Q1:=Hd q1;have Q2:=Hd q2;have HG:=Hd A
 obtain⟨W1,E⟩:=vE (w.alloc (.cells #[.string ⟨#[]⟩,.slice none 0 0] 142))
 clear hc H hok hp hn A ht hT hcell q1 q2;go_enter Tryz.func37,Tryz.ntmps37;go_wp2_with (refine jaj Tryz.allocNode rfl rfl ?_;intro W3 a1 X;refine jah (vs:=jaH.cells) rfl rfl rfl rfl a1 rfl Tryz.szNode (jad.one _) ?_;intro W4 J Z;simp only[bT]at J Z)
 have Q:Ext W1 W4:=by
  rw[<-E]at X;exact X.trans' Z (fun x hx e=>by have e:x=w.heap.size+1:=e;rw[E,bT]at hx;omega)
 have hh:=jvq w W1 W4 (w.heap.size+1) E Q (by rw[E,bT]) J.lt;have O:=Hd hh;have a2:=Hd J;clear X Z a1 E J Q hh;refine jay [0,1,2,3,4,5,6,7,8,9] [9] Ext ExtR ExtT vY vY vY ?_;iterate 3 refine vP ?_
 refine qL ⟨b,o,none⟩ _ rfl (fun w1 H=>jab Tryz.uStr rfl (jaa (jaa (by exact Q1.o) (O.o.row.ext.trans (jai _))) H)) ?_;refine vS ?_;iterate 3 refine vP ?_
 refine qL ⟨b,o+1,none⟩ _ rfl (fun w1 H=>jab Tryz.uStr rfl (jaa (jaa (by exact Q2.o) (O.o.row.ext.trans (jai _))) H)) ?_;refine vS ?_
 refine vP ?_
 refine qH _ rfl (fun w5 he K hK=>?_);have hX:=(jai W4).trans he;refine jjk (vs:=jcf 1 x y ⟨#[]⟩) rfl rfl rfl (a2.o.keeps hX (fun h=>h)) rfl Tryz.szNode (jcg _ _ _ _) ?_;intro W6 a3 a4;have H6:=Hd ((O.o.ext hX).other a4);have a5:=Hd (show Blk W6 (w.heap.size+1) (.cells (jad.cells ⟨1,x,y,jan 16⟩).toArray 103)from a3);clear he hX a3 a4 Q1 Q2 a2 O;refine vS ?_;refine hK _ _ ?_;clear hK K;refine qE (fun w7 he=>?_);have HH:=Hd (H6.o.ext he);have a6:=a5.o.keeps he (fun h=>h);clear he a5 H6;go_wp2_with (refine jaf 103 (.tmp 4) rfl rfl _ _ rfl (jaq _ _ ⟨1,x,y,jan 16⟩ rfl a6) ?_)
 refine vH (jj2 (inlP _) _ ⟨1,x,y,jan 16⟩ HG.o) fun w9 hE=>?_;have h9:=HH.o.ext hE;have q0:w9.cell? ⟨w.heap.size,0,none⟩=some (.string ⟨#[]⟩):=h9.blk.cell (i:=0) vF;have f0:w9.frozen? ⟨w.heap.size,0,none⟩=false:=h9.blk.frozen;have H9:=Hd (h9.setText (jaQ ⟨1,x,y,jan 16⟩))
 obtain⟨tx,a0⟩:=vE (jaQ ⟨1,x,y,jan 16⟩)
 rw[<-a0]at H9 ⊢;have a7:=Hd a0;clear h9 a0;go_wp2_with fail
 go_ret
 exact⟨w.heap.size,rfl,by rw[HT.o, <-a7.o];exact H9.o.part,H9.o.row.ext⟩
theorem jrL(f:Nat)(l:vL)(J:2<=l.length)(hln:l.length<=1000)(hok:jap (f+1) l)(hk:0 < comK l)(HB:jib (jak (comK l) l) (jac (f+1) (jak (comK l) l))):jib l (jac (f+1+1) l):=by
 intro w v hc hv
 obtain⟨a,ha⟩:∃ a,l[0]?=some a:=⟨_,bA vO⟩
 obtain⟨z,hz⟩:∃ z,l[l.length - 1]?=some z:=⟨_,bA vO⟩
 have ga:l.getD 0 pd=a:=by rw[bH,ha];rfl
 have gz:l.getD (l.length - 1) pd=z:=by rw[bH,hz];rfl
 obtain⟨f4,f5,d2,f6,f7⟩:=hok.size a (bI ha)
 obtain⟨f8,f9,d3,g0,g1⟩:=hok.size z (bI hz)
 have E:=(good (f+1) l hok).1;have d4:=hv;rcases hv with⟨_,_,_,h0⟩ |⟨b,o,c,rfl,hb,hcl,hcell⟩
 ·rw[h0]at J;simp at J
 obtain⟨q1,b3⟩:=hcell 0 a ha
 rw[gI,fN]at q1 b3
 obtain⟨q2,_⟩:=hcell (l.length - 1) z hz
 obtain⟨A,K⟩:=vE (comK l)
 have b4:A=jal a.1 z.1:=by rw[K];unfold comK;rw[ga,gz]
 obtain⟨x,y⟩:=a
 obtain⟨xb,yb⟩:=z
 simp only at f4 f5 d2 f6 f7 f8 f9 d3 g0 g1 q1 b3 q2 b4;have X:=jcb (comK l) hok (fun p hp q hq=>((jbi hok J p hp).1).trans (jbi hok J q hq).1.symm) (fun p hp=>(jbi hok J p hp).2);have a4:=(jbi hok J (x,y) (bI ha)).2;have d5:∀ p∈l,A<=p.1.size/\p.1.size<=1000000:=fun p hp=>⟨by rw[K];exact (jbi hok J p hp).2,by have:=(hok.size p hp).2.1;omega⟩;rw[<-K]at hk X a4 HB;have a4:A<=x.size:=a4
 obtain⟨T',a5⟩:∃ T',T'=jac (f+1) (jak A l):=⟨_,rfl⟩
 have b5:=(good f _ (X.mono vO)).2.1 (fun e=>by have:=jaI A l;rw[e]at this;simp at this;omega);rw[<-a5]at HB b5
 obtain⟨r,hr⟩:=vE (refB T'.text)
 have hn:jar (jac (f+1)) l=⟨2,x.extract 0 A,⟨#[]⟩,r :: jan 15⟩:=by unfold jar;rw[if_neg vO,if_neg vO, <-K,if_pos hk,ga, <-a5, <-hr]
 rw[hn]at E;have ht:jac (f+1+1) l=.mk (jaQ ⟨2,x.extract 0 A,⟨#[]⟩,r :: jan 15⟩) (jbp T'):=by
  show PT.mk (jaQ (jar _ l)) (jas _ l)=_;rw[hn];unfold jas;rw[if_neg vO, <-K,if_pos hk, <-a5]
 obtain⟨T,hT⟩:=vE (jac (f+1+1) l)
 rw[<-hT]at ht ⊢;have c0:((l.length:Int) == 0)=false:=by simp;exact fun e=>by rw[e]at J;simp at J
 have c1:¬(l.length:Int)=0:=vO
 have c2:((l.length:Int) == 1)=false:=by simp;omega
 have c3:¬(l.length:Int)=1:=vO
 have c4:(0:Int)<=(l.length:Int) - 1:=vO
 have c5:(l.length:Int) - 1 < (l.length:Int):=vO
 have c6:((l.length:Int) - 1).toNat=l.length - 1:=vO
 have c7:(0:Int) < (l.length:Int):=vO
 have d7:0 < l.length:=vO
 have d0:0 < A:=hk;have e0:(0:Int) < (A:Int):=vO
 have e1:(A:Int)<=(x.size:Int):=vO
 have e2:(x.extract 0 A).size=A:=by rw[cJ];omega
 have HT:=Hd ht;have Q1:=Hd q1;have Q2:=Hd q2;have d6:=Hd b4;have HG:=Hd E;have g2:=Hd d4;have g3:=Hd d5;have b9:=Hd b5.kid;have HR:=Hd hr;have g4:=Hd HB;have HC:=Hd hc;have HL:=Hd (show jak A l≠[]from fun e=>by have:=jaI A l;rw[e]at this;simp at this;omega);have g5:=Hd (show (jak A l).length<=1000000 by rw[jaI];omega);clear hc ha hz ga gz hok E d4 hcell q1 b3 q2 K b4 X a4 d5 a5 b5 hr hn ht hT HB d2 d3 e2
 obtain⟨W1,Z⟩:=vE (w.alloc (.cells #[.string ⟨#[]⟩,.slice none 0 0] 142))
 go_enter Tryz.func37,Tryz.ntmps37;go_wp2_with (refine jaj Tryz.allocNode rfl rfl ?_;intro W3 d8 b6;refine jah (vs:=jaH.cells) rfl rfl rfl rfl d8 rfl Tryz.szNode (jad.one _) ?_;intro W4 a6 b7;simp only[bT]at a6 b7)
 have a0:Ext W1 W4:=by
  rw[<-Z]at b6;exact b6.trans' b7 (fun x hx e=>by have e:x=w.heap.size+1:=e;rw[Z,bT]at hx;omega)
 have hh:=jvq w W1 W4 (w.heap.size+1) Z a0 (by rw[Z,bT]) a6.lt;have d9:=Hd hh;have e3:=Hd a6;have Q:=Hd hh.row.ext;clear b6 b7 d8 Z a6 a0 hh;refine jag [0,1,2,3,4,5,6,7,8,9,10,11,12,13] Ext ExtR ExtT vY vY vY ?_;iterate 3 refine vK ?_
 refine qKL ⟨b,o,none⟩ _ rfl (fun w1 O=>jab Tryz.uStr rfl (jaa (jaa (by exact Q1.o) (Q.o.trans (jai _))) O)) ?_;refine vS ?_;iterate 6 refine vK ?_
 refine qKL ⟨b,o+(l.length - 1) * 2,none⟩ _ rfl (fun w1 O=>jab Tryz.uStr rfl (jaa (jaa (by exact Q2.o) (Q.o.trans (jai _))) O)) ?_;refine vS ?_;refine qKC _ 73 #[.string x,.string xb] (.int .i64 (A:Nat)) rfl (fun w1=>jat (vX 73) vY) (fun w1 O=>by rw[d6.o];exact (jfE w1 x xb vO vO).mono (fun e w2 ⟨O,n,J⟩=>⟨O,by rw[J];exact (ExtR w1).drewN n⟩)) ?_;refine vS ?_;iterate 2 refine vK ?_
 refine qKE (fun w5 he=>?_);have a7:=(jai W4).trans he;have e4:=Hd (d9.o.ext a7);have e5:=Hd (e3.o.keeps a7 (fun h=>h));have Q:=Hd (Q.o.trans a7);clear he a7 d9 e3;go_wp2_with fail
 refine jag [0,1,2,3,4,5,6,7,8,9,10,11,12] Ext ExtR ExtT vY vY vY ?_;iterate 3 refine vK ?_
 refine qKL ⟨b,o,none⟩ _ rfl (fun w1 O=>jab Tryz.uStr rfl (jaa (jaa (by exact Q1.o) (Q.o.trans (jai _))) O)) ?_;refine vS ?_;iterate 6 refine vK ?_
 refine qKL ⟨b,o+(l.length - 1) * 2,none⟩ _ rfl (fun w1 O=>jab Tryz.uStr rfl (jaa (jaa (by exact Q2.o) (Q.o.trans (jai _))) O)) ?_;refine vS ?_;refine qKC _ 73 #[.string x,.string xb] (.int .i64 (A:Nat)) rfl (fun w1=>jat (vX 73) vY) (fun w1 O=>by rw[d6.o];exact (jfE w1 x xb vO vO).mono (fun e w2 ⟨O,n,J⟩=>⟨O,by rw[J];exact (ExtR w1).drewN n⟩)) ?_;refine vS ?_
 refine vK ?_
 refine qKE (fun w6 he=>?_);have a9:=(jai w5).trans he;have g6:=Hd (e4.o.ext a9);have e6:=e5.o.keeps a9 (fun h=>h);have Q:=Hd (Q.o.trans a9);have q6:=jaa Q1.o Q.o;clear he a9 e4 e5;go_wp2_with (refine jah (vs:=jcf 2 (x.extract 0 A) ⟨#[]⟩ ⟨#[]⟩) rfl rfl rfl rfl e6 rfl Tryz.szNode (jcg _ _ _ _) ?_;intro W7 e7 e8)
 have e9:=Hd (g6.o.other e8);have g7:=Hd e7;clear e7 e8 e6 q6;have Q:=Hd e9.o.row.ext;refine (jnm W7 _ A l (g2.o.ext Q.o) vO g3.o).mono ?_;rintro e w8 ⟨v8,rfl,b0⟩;have b1:Ext W7 w8:=b0.ext;have g8:=Hd (e9.o.ext b1);have g9:=Hd (g7.o.keeps b1 (fun h=>h));have a1:=Hd b0.rd;have f1:=HC.o.ext (Q.o.trans b1)
 obtain⟨a8,c8,h3⟩:=b0.sl
 subst h3;clear b0 b1;go_wp2_with fail
 refine (jwM f1 g8.o (by simp) _ (jak A l) a1.o HL.o g5.o T' b9.o (g4.o w8 _ f1 a1.o)).mono ?_;rintro e b2 ⟨u,bs,rfl,f2,h5,c9,a2⟩;rw[<-HR.o];have H:=g9.o.keeps a2 (by rintro (h | h) <;> first | omega | cases h);have q3:b2.cell? ⟨w.heap.size+1,3,none⟩=some (.string ⟨#[]⟩):=H.cell (i:=3) vF;have f3:b2.frozen? ⟨w.heap.size+1,3,none⟩=false:=H.frozen;have a3:=H.set_same (i:=3) (.string r);have d1:Hid (Blk (b2.setCell ⟨w.heap.size+1,3,none⟩ (.string r)) (w.heap.size+1) (.cells (jad.cells ⟨2,x.extract 0 A,⟨#[]⟩,r :: jan 15⟩).toArray 103)):=Hd a3;have HH:=Hd (f2.other (jae.oneSet b2 ⟨w.heap.size+1,3,none⟩ (.string r)));clear f2 c9 a2 H a3;go_wp2_with (refine jaf 103 (.tmp 4) rfl rfl _ _ rfl (jaq _ _ ⟨2,x.extract 0 A,⟨#[]⟩,r :: jan 15⟩ rfl d1.o) ?_)
 refine vH (jj2 (inlP _) _ ⟨2,x.extract 0 A,⟨#[]⟩,r :: jan 15⟩ HG.o) fun w9 hE=>?_;have h9:=HH.o.ext hE;have q0:w9.cell? ⟨w.heap.size,0,none⟩=some (.string ⟨#[]⟩):=h9.blk.cell (i:=0) vF;have f0:w9.frozen? ⟨w.heap.size,0,none⟩=false:=h9.blk.frozen;have H9:=Hd (h9.setText (jaQ ⟨2,x.extract 0 A,⟨#[]⟩,r :: jan 15⟩))
 obtain⟨tx,b8⟩:=vE (jaQ ⟨2,x.extract 0 A,⟨#[]⟩,r :: jan 15⟩)
 rw[<-b8]at H9 ⊢;have h4:=Hd b8;clear h9 b8;go_wp2_with fail
 go_ret
 exact⟨w.heap.size,rfl,by rw[HT.o, <-h4.o];exact H9.o.part,H9.o.row.ext⟩
def ksK(B:vL->PT)(l:vL)(k:Nat):List PT:=(List.range k).flatMap fun i=>if (cutL i l).length=0 then []else jbp (B (jak 1 (cutL i l)))
theorem jh1(B:vL->PT)(l:vL)(k:Nat):ksK B l (k+1)=ksK B l k++(if (cutL k l).length=0 then []else jbp (B (jak 1 (cutL k l)))):=by
 unfold ksK;rw[fR,dX];simp
def jyR(w:vW)(bn:Nat)(B:vL->PT)(l:vL)(rs:vM)(i:vV)(wr:vW):Prop:=∃ k:Nat,k<=16/\i=.int .i64 k/\∃ u bs,jdL w wr w.heap.size bn ⟨#[]⟩ (ksK B l k) u bs/\bs.length<=k/\Blk wr bn (.cells (brN rs k).cells.toArray 103)
theorem jbK{P:Program}{o:Oper}{a:Act}{w:vW}{K:Act->vW->Prop}{Q:Exit->Act->vW->Prop}{f:FuncId}{args:Array vV}(hv:(execOp a.eval o).run P w=.ok (.enter f args) w)(h:Calls P f args w (fun e A=>∃ v,e=.returned v/\K (a.put o.dst v) A)):o.wp P a w K Q:=by
 unfold Oper.wp;rw[hv];exact h.mono fun e A ⟨v,E,H⟩=>by subst E;exact H
theorem jlS(f:Nat)(l:vL)(h2:2<=l.length)(hln:l.length<=1000)(hok:jap (f+1) l)(hk:¬ 0 < comK l)(HB:∀ i,(cutL i l).length≠0->jib (jak 1 (cutL i l)) (jac (f+1) (jak 1 (cutL i l)))):jib l (jac (f+1+1) l):=by
 intro w v hc Z
 obtain⟨a,ha⟩:∃ a,l[0]?=some a:=⟨_,bA vO⟩
 obtain⟨z,hz⟩:∃ z,l[l.length - 1]?=some z:=⟨_,bA vO⟩
 have ga:l.getD 0 pd=a:=by rw[bH,ha];rfl
 have gz:l.getD (l.length - 1) pd=z:=by rw[bH,hz];rfl
 obtain⟨h8,i0,f1,i1,i2⟩:=hok.size a (bI ha)
 obtain⟨i3,i4,f3,i5,i6⟩:=hok.size z (bI hz)
 have J:=(good (f+1) l hok).1;have f4:=Z;rcases Z with⟨_,_,_,h0⟩ |⟨b,o,c,rfl,hb,hcl,hcell⟩
 ·rw[h0]at h2;simp at h2
 obtain⟨q1,a3⟩:=hcell 0 a ha
 rw[gI,fN]at q1 a3
 obtain⟨q2,_⟩:=hcell (l.length - 1) z hz
 obtain⟨kk,d1⟩:=vE (comK l)
 have d2:kk=jal a.1 z.1:=by rw[d1];unfold comK;rw[ga,gz]
 obtain⟨x,y⟩:=a
 obtain⟨xb,yb⟩:=z
 simp only at h8 i0 f1 i1 i2 i3 i4 f3 i5 i6 q1 a3 q2 d2
 obtain⟨E,b4⟩:=vE ((List.range 16).map fun i=>if (cutL i l).length=0 then (⟨#[]⟩:vB)else refB (jac (f+1) (jak 1 (cutL i l))).text)
 obtain⟨A,a0⟩:=vE (if x.size=0 then y else (⟨#[]⟩:vB))
 have hn:jar (jac (f+1)) l=⟨3,⟨#[]⟩,A,E⟩:=by unfold jar;rw[if_neg vO,if_neg vO,if_neg hk,ga,b4,a0]
 rw[hn]at J;have ht:jac (f+1+1) l=.mk (jaQ ⟨3,⟨#[]⟩,A,E⟩) (ksK (jac (f+1)) l 16):=by
  show PT.mk (jaQ (jar _ l)) (jas _ l)=_;rw[hn];unfold jas;rw[if_neg vO,if_neg hk];rfl
 obtain⟨T,hT⟩:=vE (jac (f+1+1) l)
 rw[<-hT]at ht ⊢;have f5:E.length=16:=by rw[b4];simp
 have f6:∀ i,i < 16->E[i]?=some (if (cutL i l).length=0 then (⟨#[]⟩:vB)else refB (jac (f+1) (jak 1 (cutL i l))).text):=fun i hi=>by
  rw[b4,bX,dW hi];rfl
 have a9:∀ i,(cutL i l).length≠0->jw4 (jac (f+1) (jak 1 (cutL i l))):=fun i hi =>
  (((good f _ (jcU i hok)).2.1 (fun e=>by have:=jaI 1 (cutL i l);rw[e]at this;simp at this;omega)).kid)
 have d3:∀ p∈l,p.1.size<=1000000:=fun p hp=>by have:=(hok.size p hp).2.1;omega
 have f8:∀ i,∀ p∈cutL i l,1<=p.1.size/\p.1.size<=1000000:=fun i p hp=>by
  obtain⟨hm,a',r',e',_⟩:=jbA hp
  exact⟨by show 1<=p.1.data.toList.length;rw[show p.1.data.toList=a' :: r' from e'];simp,d3 p hm⟩
 have f9:∀ i,(cutL i l).length<=1000:=fun i=>bJ (dF _ _) hln;have c0:((l.length:Int) == 0)=false:=by simp;exact fun e=>by rw[e]at h2;simp at h2
 have c1:¬(l.length:Int)=0:=vO
 have c2:((l.length:Int) == 1)=false:=by simp;omega
 have c3:¬(l.length:Int)=1:=vO
 have c4:(0:Int)<=(l.length:Int) - 1:=vO
 have c5:(l.length:Int) - 1 < (l.length:Int):=vO
 have c6:((l.length:Int) - 1).toNat=l.length - 1:=vO
 have c7:(0:Int) < (l.length:Int):=vO
 have d7:0 < l.length:=vO
 rw[<-d1]at hk;have d0:¬ 0 < kk:=hk;have e0:¬(0:Int) < (kk:Int):=vO
 have HT:=Hd ht;have Q1:=Hd q1;have i7:=Hd a3;have Q2:=Hd q2;have i8:=Hd d2;have HG:=Hd J;have i9:=Hd f4;have j0:=Hd d3;have j1:=Hd f8;have g0:=Hd f9;have e8:=Hd a9;have j2:=Hd f6;have a5:=Hd f5;have b0:=Hd a0;have j3:=Hd HB;have HC:=Hd hc;clear hc ha hz ga gz hok J f4 hcell q1 a3 q2 d1 d2 d3 f8 f9 a9 f6 f5 a0 b4 hn ht hT HB f1 f3
 obtain⟨W1,a6⟩:=vE (w.alloc (.cells #[.string ⟨#[]⟩,.slice none 0 0] 142))
 go_enter Tryz.func37,Tryz.ntmps37;go_wp2_with (refine jaj Tryz.allocNode rfl rfl ?_;intro W3 g1 d4;refine jah (vs:=jaH.cells) rfl rfl rfl rfl g1 rfl Tryz.szNode (jad.one _) ?_;intro W4 b5 d5;simp only[bT]at b5 d5)
 have b2:Ext W1 W4:=by
  rw[<-a6]at d4;exact d4.trans' d5 (fun x hx e=>by have e:x=w.heap.size+1:=e;rw[a6,bT]at hx;omega)
 have hh:=jvq w W1 W4 (w.heap.size+1) a6 b2 (by rw[a6,bT]) b5.lt;have g2:=Hd hh;have g3:=Hd b5;have HX:=Hd hh.row.ext;clear d4 d5 g1 a6 b5 b2 hh;refine jag [0,1,2,3,4,5,6,7,8,9,10,11,12,13] Ext ExtR ExtT vY vY vY ?_;iterate 3 refine vK ?_
 refine qKL ⟨b,o,none⟩ _ rfl (fun w1 h1=>jab Tryz.uStr rfl (jaa (jaa (by exact Q1.o) (HX.o.trans (jai _))) h1)) ?_;refine vS ?_;iterate 6 refine vK ?_
 refine qKL ⟨b,o+(l.length - 1) * 2,none⟩ _ rfl (fun w1 h1=>jab Tryz.uStr rfl (jaa (jaa (by exact Q2.o) (HX.o.trans (jai _))) h1)) ?_;refine vS ?_;refine qKC _ 73 #[.string x,.string xb] (.int .i64 (kk:Nat)) rfl (fun w1=>jat (vX 73) vY) (fun w1 h1=>by rw[i8.o];exact (jfE w1 x xb vO vO).mono (fun e w2 ⟨h1,n,h2⟩=>⟨h1,by rw[h2];exact (ExtR w1).drewN n⟩)) ?_;refine vS ?_;iterate 2 refine vK ?_
 refine qKE (fun w5 H=>?_);have b6:=(jai W4).trans H;have O:=Hd (g2.o.ext b6);have b7:=Hd (g3.o.keeps b6 (fun h=>h));have HX:=Hd (HX.o.trans b6);clear H b6 g2 g3;have q0:=b7.o.cell (i:=0) (v:=.int .i64 0) vF;have f0:w5.frozen? ⟨w.heap.size+1,0,none⟩=false:=b7.o.frozen;have K6:=jae.oneSet w5 ⟨w.heap.size+1,0,none⟩ (.int .i64 3);have b8:=Hd (O.o.other K6);have b9:Hid (Blk (w5.setCell ⟨w.heap.size+1,0,none⟩ (.int .i64 3)) (w.heap.size+1) (.cells (brN E 0).cells.toArray 103)):=Hd (b7.o.set_same (i:=0) (.int .i64 3));clear K6 b7 O HX;go_wp2_with fail
 go_loopw [11] (fun i wr=>jyR w (w.heap.size+1) (jac (f+1)) l E i wr) (fun i _=>16 - (intOf i).toNat)
 case atStart=>exact⟨0,by omega,rfl,_,[],b8.o,by simp,b9.o⟩
 case round =>
  obtain⟨k,e9,rfl,u,bs,hH,k3,X⟩:=hrel
  obtain⟨au,cu,hu⟩:=hH.row.sl
  subst hu;have HH:=Hd hH;have HB:=Hd X;have HX:=Hd hH.row.ext;clear hH X
  by_cases hlt:k < 16
  ·have b1:(k:Int) < 16:=vO
   have k4:=HH.o.ml;have QI:=Hd (show (wr.alloc (.cells #[.int .i64 (k:Int)] 3)).cell? ⟨wr.heap.size,0,none⟩=some (.int .i64 (k:Int))from(Blk.new wr _).cell vF);have g4:=jx8 HH.o.row;have k5:w.heap.size < wr.heap.size:=HH.o.blk.lt;have NF:=Hd (show ¬(wr.heap.size=w.heap.size\/wr.heap.size=w.heap.size+1\/(Value.slice au bs.length cu).ownBlock=some wr.heap.size)from fun h=>by
    rcases h with h | h | h
    ·omega
    ·omega
    ·exact g4 h)
   clear g4;go_wp2_with fail
   refine jaC [0,1,2,3,7,4,5,6,8,9] [4,5,6,9] Ext (jae (fun x=>x=w.heap.size\/x=w.heap.size+1\/(Value.slice au bs.length cu).ownBlock=some x)) ExtR ExtT (fun x y z h k=>jae.trans h k) (fun x y h=>h.mono (fun _ _ h=>h.elim)) vY vY vY ?_;refine qDL ⟨wr.heap.size,0,none⟩ _ rfl (fun w2 h2=>jab Tryz.uInt rfl (jam (by exact QI.o) h2 (by exact NF.o))) ?_;refine vS ?_;iterate 4 refine vD ?_
   refine qDH _ rfl (fun w1 H K hK=>?_);have d6:=(((ExtR wr).alloc (.cells #[.int .i64 (k:Int)] 3)).trans (jai _)).trans H;have g5:=jaa (jaa QI.o (jai _)) H;refine jbK (jat (vX 76) vY) ((jzA w1 _ wr.heap.size k l (i9.o.ext (HX.o.trans d6)) vO j0.o vO g5).mono ?_);rintro e w2 ⟨v2,n2,rfl,a7⟩;have g6:=Hd a7.rd;have g7:=Hd (d6.trans a7.ext)
   refine⟨_,rfl,hK _ _ (a7.ext.mono (fun _ _ h=>h.elim)) ?_⟩
   obtain⟨a2,c2,j4⟩:=a7.rd.sl
   subst j4;clear hK K H d6 g5 a7;refine vS ?_;refine qDH _ rfl (fun w3 H K hK=>?_);refine jbK (jat (vX 75) vY) ((jnm w3 _ 1 (cutL k l) (g6.o.ext H) (by have:=g0.o k;omega) (j1.o k)).mono ?_);rintro e w4 ⟨v4,rfl,a8⟩;have g8:=Hd a8.rd;have j5:=Hd ((g7.o.trans H).trans a8.ext)
   refine⟨_,rfl,hK _ _ (a8.ext.mono (fun _ _ h=>h.elim)) ?_⟩
   obtain⟨a4,g9,j6⟩:=a8.rd.sl
   subst j6;clear hK K H a8 g6 g7;refine vS ?_;refine qDH _ rfl (fun d8 H K hK=>?_);have d9:=Hd (j5.o.trans H);have e1:=Hd (g8.o.ext H);have O:=Hd (HH.o.ext d9.o);have e2:=HC.o.ext (HX.o.trans d9.o)
   obtain⟨rk,c8⟩:=vE (if (cutL k l).length=0 then (⟨#[]⟩:vB)else refB (jac (f+1) (jak 1 (cutL k l))).text)
   refine jbK (f:=74) (args:=#[ptrV w.heap.size,.slice a4 (jak 1 (cutL k l)).length g9]) (jat (vX 74) vY) ((show Calls _ _ _ _ (fun e w'=>∃ u' bs',e=.returned (.string rk)/\jdL w w' w.heap.size (w.heap.size+1) ⟨#[]⟩ (ksK (jac (f+1)) l (k+1)) u' bs'/\bs'.length<=bs.length+1/\Ext w w'/\jae (fun x=>x=w.heap.size\/(Value.slice au bs.length cu).ownBlock=some x) d8 w')from ?hold).mono ?_)
   case hold =>
    rw[jh1]
    by_cases hc0:(cutL k l).length=0
    ·rw[c8,if_pos hc0,if_pos hc0,bZ,jaI,hc0]
     refine (jvr d8 w.heap.size a4 g9).mono ?_;rintro e w6 ⟨rfl,rfl⟩
     exact⟨_,bs,rfl,O.o,by omega,O.o.row.ext,jae.refl _ _⟩
    ·rw[c8,if_neg hc0,if_neg hc0]
     exact jwM e2 O.o vO _ (jak 1 (cutL k l)) e1.o (fun e=>hc0 (by have:=jaI 1 (cutL k l);rw[e]at this;simpa using this.symm)) (by rw[jaI];have:=g0.o k;omega) _ (e8.o k hc0) (j3.o k hc0 d8 _ e2 e1.o)
   rintro e w6 ⟨u6,j7,rfl,h6,k6,j8,e3⟩
   refine⟨_,rfl,hK _ _ (e3.mono (fun x _ h=>h.elim .inl (fun h=>.inr (.inr h)))) ?_⟩
   have h3:=(HB.o.keeps d9.o (fun h=>h)).keeps e3 (fun h=>by
    rcases h with h | h
    ·omega
    ·exact HH.o.mb h)
   have b9:=Hd h3;have b8:=Hd h6;have j9:=Hd ((j2.o k hlt).trans (by rw[<-c8]));clear hK K H h6 j8 e3 h3 e2 c8 g8 e1 O;refine vS ?_
   refine vD ?_
   refine qDH _ rfl (fun w7 H K hK=>?_);have c9:=b9.o.keeps H (fun h=>h)
   obtain⟨old,q7⟩:∃ v,w7.cell? ⟨w.heap.size+1,3+k,none⟩=some v:=⟨_,c9.cellL (bA (by rw[jad.cells_len _ (jrJ a5.o e9)];omega))⟩
   have f7:w7.frozen? ⟨w.heap.size+1,3+k,none⟩=false:=c9.frozen;have e4:=c9.set_same (i:=3+k) (.string rk);rw[show (brN E k).cells.toArray.setIfInBounds (3+k) (.string rk)=((brN E k).cells.set (3+k) (.string rk)).toArray by simp,jrK a5.o hlt rk j9.o]at e4;have h4:=Hd e4;have K8:=jae.oneSet w7 ⟨w.heap.size+1,3+k,none⟩ (.string rk);have h5:=Hd ((b8.o.ext H).other K8);have h7:=Hd (K8.mono (G:=fun x=>x=w.heap.size\/x=w.heap.size+1\/(Value.slice au bs.length cu).ownBlock=some x) (fun x _ e=>.inr (.inl e)));clear H c9 e4 K8 b9 b8;go_simp;refine hK _ _ h7.o ?_;clear hK K q7 f7;refine qDE (fun w9 H=>?_);have k0:=Hd (h5.o.ext H);have k1:=Hd (h4.o.keeps H (fun h=>h));clear H h5 h4 h7;go_wp2_with fail
   go_roundw
   case rel=>exact⟨k+1,by omega,by go_num,u6,j7,k0.o,by omega,k1.o⟩
   case measure=>exact vJ
  ·have b3:k=16:=vO
   subst b3;have e5:brN E 16=⟨3,⟨#[]⟩,⟨#[]⟩,E⟩:=by unfold brN jan;rw[bN (by have:=a5.o;omega)];simp
   have X:=HB.o;rw[e5]at X;have q1:=jaa Q1.o HX.o
   by_cases hx0:x.size=0
   ·have k2:=jby hx0
    have Z:A=y:=by rw[b0.o,if_pos hx0]
    have a3:=jaa i7.o HX.o;subst k2;have q2:wr.cell? ⟨w.heap.size+1,2,none⟩=some (.string ⟨#[]⟩):=X.cellL vF;have f2:wr.frozen? ⟨w.heap.size+1,2,none⟩=false:=X.frozen;have e6:=X.set_same (i:=2) (.string y);rw[show (jad.cells ⟨3,⟨#[]⟩,⟨#[]⟩,E⟩).toArray.setIfInBounds 2 (.string y)=(jad.cells ⟨3,⟨#[]⟩,y,E⟩).toArray by simp[jad.cells]]at e6;have a1:=Hd (show Blk (wr.setCell ⟨w.heap.size+1,2,none⟩ (.string y)) (w.heap.size+1) (.cells (jad.cells ⟨3,⟨#[]⟩,A,E⟩).toArray 103)from by rw[Z];exact e6);have HH:=Hd (HH.o.other (jae.oneSet wr ⟨w.heap.size+1,2,none⟩ (.string y)));have HV:=Hd Z;clear X e6 e5 Z;go_wp2_with (refine jaf 103 (.tmp 4) rfl rfl _ _ rfl (jaq _ _ ⟨3,⟨#[]⟩,A,E⟩ a5.o a1.o) ?_)
    refine vH (jj2 (inlP _) _ ⟨3,⟨#[]⟩,A,E⟩ HG.o) fun w9 hE=>?_;have h9:=HH.o.ext hE;have q0:w9.cell? ⟨w.heap.size,0,none⟩=some (.string ⟨#[]⟩):=h9.blk.cell (i:=0) vF;have f0:w9.frozen? ⟨w.heap.size,0,none⟩=false:=h9.blk.frozen;have H9:=Hd (h9.setText (jaQ ⟨3,⟨#[]⟩,A,E⟩))
    obtain⟨tx,Q⟩:=vE (jaQ ⟨3,⟨#[]⟩,A,E⟩)
    rw[<-Q]at H9 ⊢;have e7:=Hd Q;clear h9 Q;go_wp2_with fail
    go_ret
    exact⟨w.heap.size,rfl,by rw[HT.o, <-e7.o];exact H9.o.part,H9.o.row.ext⟩
   ·have k7:=jbe (s:=x) vO
    have Z:A=⟨#[]⟩:=by rw[b0.o,if_neg hx0]
    rw[<-Z]at X;have a1:=Hd (show Blk wr (w.heap.size+1) (.cells (jad.cells ⟨3,⟨#[]⟩,A,E⟩).toArray 103)from by rw[Z]at X ⊢;exact X);have HV:=Hd Z;clear X e5 Z;go_wp2_with (refine jaf 103 (.tmp 4) rfl rfl _ _ rfl (jaq _ _ ⟨3,⟨#[]⟩,A,E⟩ a5.o a1.o) ?_)
    refine vH (jj2 (inlP _) _ ⟨3,⟨#[]⟩,A,E⟩ HG.o) fun w9 hE=>?_;have h9:=HH.o.ext hE;have q0:w9.cell? ⟨w.heap.size,0,none⟩=some (.string ⟨#[]⟩):=h9.blk.cell (i:=0) vF;have f0:w9.frozen? ⟨w.heap.size,0,none⟩=false:=h9.blk.frozen;have H9:=Hd (h9.setText (jaQ ⟨3,⟨#[]⟩,A,E⟩))
    obtain⟨tx,Q⟩:=vE (jaQ ⟨3,⟨#[]⟩,A,E⟩)
    rw[<-Q]at H9 ⊢;have e7:=Hd Q;clear h9 Q;go_wp2_with fail
    go_ret
    exact⟨w.heap.size,rfl,by rw[HT.o, <-e7.o];exact H9.o.part,H9.o.row.ext⟩
theorem jkw:∀ (f:Nat) (l:vL),jap f l->l.length<=1000->jib l (jac (f+1) l)
 | f,l,hok,hln=>by
  by_cases h0:l.length=0
  ·exact jqk f l h0
  by_cases h1:l.length=1
  ·exact jrM f l h1 hok
  have e:2<=l.length:=vO
  cases f with
  | zero =>
   exfalso
   obtain⟨a,E⟩:∃ a,l[0]?=some a:=⟨_,bA vO⟩
   obtain⟨b,hb⟩:∃ b,l[1]?=some b:=⟨_,bA vO⟩
   have o:=jcc hok.rise vO E hb
   have:=(hok.size b (bI hb)).1
   rw[show b.l=[]from bE (by show b.1.size=0;omega)]at o;exact not_lt_nil _ o
  | succ f =>
   by_cases hk:0 < comK l
   ·exact jrL f l e hln hok hk (jkw f _ ((jcb (comK l) hok (fun p A q H=>((jbi hok e p A).1).trans (jbi hok e q H).1.symm) (fun p A=>(jbi hok e p A).2)).mono vO) (by rw[jaI];exact hln))
   ·exact jlS f l e hln hok hk (fun i _=>jkw f _ (jcU i hok) (by rw[jaI];exact bJ (dF _ _) hln))
theorem jmx(b:vU):(b >>> 4).toNat=b.toNat / 16:=by
 have:∀ c:Fin 256,(UInt8.ofNat c.1 >>> 4).toNat=c.1 / 16:=by decide
 have h:=this ⟨b.toNat,b.toNat_lt⟩;simpa using h
theorem jmy(b:vU):(b &&& 15).toNat=b.toNat % 16:=by
 have:∀ c:Fin 256,(UInt8.ofNat c.1 &&& 15).toNat=c.1 % 16:=by decide
 have h:=this ⟨b.toNat,b.toNat_lt⟩;simpa using h
theorem jsQ:∀ (a b:vN),Lt a b->Lt (jcw a) (jcw b)
 | a,[],h=>absurd h (not_lt_nil _)
 | [],y :: b,_=>rfl
 | x :: a,y :: b,h=>by
  show Lt ((x >>> 4) ::(x &&& 15) :: jcw a) ((y >>> 4) ::(y &&& 15) :: jcw b);have e:=jmx x;have o:=jmx y;have A:=jmy x;have E:=jmy y;rcases jbG.1 h with h |⟨he,h2⟩
  ·have h:=dE.1 h
   by_cases hh:x.toNat / 16 < y.toNat / 16
   ·exact jbG.2 (.inl (dE.2 vO))
   ·refine jbG.2 (.inr ⟨dS.1 vO,jbG.2 (.inl (dE.2 vO))⟩)
  ·subst he;exact jbG.2 (.inr ⟨rfl,jbG.2 (.inr ⟨rfl,jsQ a b h2⟩)⟩)
theorem jex(s:vB):jaB (jbv s)=true:=by
 unfold jaB jbv;rw[fH];intro x e;have e:x∈jcw s.data.toList:=e;unfold jcw at e
 obtain⟨b,_,hb⟩:=cU.1 e
 have A:=jmx b;have E:=jmy b;have H:=b.toNat_lt;have o:(15:vU).toNat=15:=rfl;refine decide_eq_true (fB.2 ?_);rcases bM.1 hb with rfl | hb
 ·omega
 ·rw[bY.1 hb];omega
theorem jgL(s:vB):(jbv s).size=2 * s.size:=by
 show (jcw s.data.toList).length=2 * s.data.toList.length;unfold jcw;induction s.data.toList with
 | nil=>rfl
 | cons x r ih=>rw[cG,bC,ih,bF,bF,bF,cF];omega
structure jus(l:vL):Prop where
 size:∀ p∈l,0 < p.1.size/\p.1.size<=6/\0 < p.2.size/\p.2.size<=80
 rise:l.Pairwise fun p q=>Lt p.l q.l
 len:l.length<=40
theorem jdV:∀ (a b c:vN),Lt a b->Lt b c->Lt a c
 | a,b,[],_,h=>absurd h (not_lt_nil _)
 | a,[],z :: c,h,_=>absurd h (not_lt_nil _)
 | [],y :: b,z :: c,_,_=>rfl
 | x :: a,y :: b,z :: c,h1,h2=>by
  rcases jbG.1 h1 with h |⟨rfl,h⟩
  ·rcases jbG.1 h2 with h' |⟨rfl,h'⟩
   ·exact jbG.2 (.inl (UInt8.lt_trans h h'))
   ·exact jbG.2 (.inl h)
  ·rcases jbG.1 h2 with h' |⟨rfl,h'⟩
   ·exact jbG.2 (.inl h')
   ·exact jbG.2 (.inr ⟨rfl,jdV a b c h h'⟩)
theorem jaD{l:vL}(h:jaz l=0):jus l:=by
 unfold jaz at h;split at h
 ·cases h
 rename_i hb
 split at h
 ·cases h
 rename_i hl
 have H:∀ i,i < l.length->badN l i=false:=fun i o=>by
  cases hbi:badN l i with
  | false=>rfl
  | true=>exact absurd (fP.2 ⟨i,fA.2 o,hbi⟩) hb
 refine⟨fun p X=>?_,?_,by omega⟩
 ·obtain⟨i,o⟩:=iL X
  have A:=H i (bP.1 o).1;have Z:l.getD i (⟨#[]⟩,⟨#[]⟩)=p:=by rw[bH,o];rfl
  unfold badN at A;rw[Z]at A;simp only[gU,Bool.not_eq_false']at A;have E:=A.1.1;have K:=A.1.2;unfold jcB at E;unfold jbY at K;simp only[decide_eq_true_eq]at E K
  exact⟨E.1,E.2,K.1,K.2⟩
 ·have J:∀ i,i+1 < l.length->Lt (l.getD i pd).l (l.getD (i+1) pd).l:=fun i o=>by
   have A:=H (i+1) o;unfold badN at A;simp only[gU,Bool.and_eq_false_iff,Bool.not_eq_false']at A;rcases A.2 with E | E
   ·simp at E
   ·rw[Nat.add_sub_cancel]at E
    have:Op.bytesLess (l.getD i pd).1.toList (l.getD (i+1) pd).1.toList=true:=E
    rw[bR,bR]at this;exact this
  rw[gV];intro i j o hj a0;have e:∀ k (Q:k < l.length),l.getD k pd=l[k]:=fun k Q=>by rw[bH,bA Q];rfl
  have O:∀ d,∀ i,i+d+1 < l.length->Lt (l.getD i pd).l (l.getD (i+d+1) pd).l:=by
   intro d;induction d with
   | zero=>exact fun i o=>J i o
   | succ d ih=>exact fun i o=>jdV _ _ _ (ih i vO) (J (i+d+1) o)
  have:=O (j - i - 1) i vO
  rw[show i+(j - i - 1)+1=j by omega,e i o,e j hj]at this;exact this
theorem jbD{l:vL}(h:jus l):jap 12 (jaP l):=by
 refine⟨fun p e=>?_,?_⟩
 ·obtain⟨q,o,rfl⟩:=bK.1 e
  obtain⟨H,J,A,E⟩:=h.size q o
  have K:=jgL q.1
  exact⟨by show (jbv q.1).size<=_;omega,by show (jbv q.1).size<=_;omega,jex _,A,E⟩
 ·unfold jaP
  rw[iR];exact h.rise.imp fun {p q} h=>jsQ _ _ h
def jaG(l:vL):PT:=jac 13 (jaP l)
section
attribute [local go_sem] Oper.semAt_some
inductive AT where
 | mk (b:Nat) (text:vB) (v:vV) (kids:List AT)
def AT.root:AT->Nat | .mk b _ _ _=>b
mutual
def AtIs(A:Nat->Prop):AT->vW->Prop
 | .mk b t v ks,W=>A b/\Blk W b (.cells #[.string t,v] 142)/\RdQ A W v (ks.map AT.root)/\jeE A ks W
def jeE(A:Nat->Prop):List AT->vW->Prop
 | [],_=>True
 | k :: ks,W=>AtIs A k W/\jeE A ks W
end
mutual
def AT.pt:AT->PT
 | .mk _ t _ ks=>.mk t (AT.pts ks)
def AT.pts:List AT->List PT
 | []=>[]
 | k :: ks=>AT.pt k :: AT.pts ks
end
mutual
def jav:PT->vM
 | .mk t ks=>t :: jaA ks
def jaA:List PT->vM
 | []=>[]
 | k :: ks=>jav k++jaA ks
end
mutual
theorem jzr{A:Nat->Prop}{W:vW}:∀ (T:PT) (b:Nat),jbN A T b W->∃ a:AT,a.root=b/\a.pt=T/\AtIs A a W
 | .mk t ks,b,h=>by
  unfold jbN at h
  obtain⟨e,v,o,E,H,J⟩:=h
  obtain⟨K,O,Q,X⟩:=jwC ks o J
  exact⟨.mk b t v K,rfl,by unfold AT.pt;rw[Q],by unfold AtIs;exact⟨e,E,by rw[O];exact H,X⟩⟩
theorem jwC{A:Nat->Prop}{W:vW}:∀ (ks:List PT) (bs:List Nat),jaW A ks bs W->∃ e:List AT,e.map AT.root=bs/\AT.pts e=ks/\jeE A e W
 | [],bs,h=>by
  unfold jaW at h;subst h
  exact⟨[],rfl,by unfold AT.pts;rfl,by unfold jeE;trivial⟩
 | x :: ks,bs,h=>by
  unfold jaW at h
  obtain⟨b,r,rfl,o,E⟩:=h
  obtain⟨a,H,J,K⟩:=jzr x b o
  obtain⟨e,O,Q,X⟩:=jwC ks r E
  exact⟨a :: e,by rw[bS,H,O],by unfold AT.pts;rw[J,Q],by unfold jeE;exact⟨K,X⟩⟩
end
mutual
theorem AtIs.keeps{A:Nat->Prop}{F:BSet}{W W':vW}(k:jae F W W')(hF:∀ x,A x->¬ F x):∀ (a:AT),AtIs A a W->AtIs A a W'
 | .mk b t v ks,h=>by
  unfold AtIs at *
  obtain⟨e,o,E,H⟩:=h
  exact⟨e,o.keeps k (hF b e),E.keeps k hF,jeE.keeps k hF ks H⟩
theorem jeE.keeps{A:Nat->Prop}{F:BSet}{W W':vW}(k:jae F W W')(hF:∀ x,A x->¬ F x):∀ (ks:List AT),jeE A ks W->jeE A ks W'
 | [],_=>by unfold jeE;trivial
 | x :: ks,h=>by
  unfold jeE at *
  exact⟨AtIs.keeps k hF x h.1,jeE.keeps k hF ks h.2⟩
end
theorem jeE.get{A:Nat->Prop}{W:vW}:∀ (ks:List AT) (j:Nat) (a:AT),jeE A ks W->ks[j]?=some a->AtIs A a W
 | [],j,a,_,h=>by simp at h
 | x :: ks,0,a,h,hj=>by simp at hj;subst hj;unfold jeE at h;exact h.1
 | x :: ks,j+1,a,h,hj=>by unfold jeE at h;exact jeE.get ks j a h.2 (by simpa using hj)
theorem jma:∀ (ks:List AT) (j:Nat) (a:AT),ks[j]?=some a->jaA (AT.pts (ks.take (j+1)))=jaA (AT.pts (ks.take j))++jav a.pt
 | [],j,a,h=>by simp at h
 | x :: ks,0,a,h=>by
  simp at h;subst h;simp[AT.pts,jaA]
 | x :: ks,j+1,a,h=>by
  have:=jma ks j a (by simpa using h)
  simp only[dV,AT.pts,jaA,this,cE]
theorem jo2:∀ (ks:List AT) (j:Nat),∃ r,jaA (AT.pts ks)=jaA (AT.pts (ks.take j))++r
 | ks,0=>⟨jaA (AT.pts ks),by simp[AT.pts,jaA]⟩
 | [],j+1=>⟨[],by simp[AT.pts,jaA]⟩
 | x :: ks,j+1=>by
  obtain⟨r,h⟩:=jo2 ks j
  exact⟨r,by simp only[dV,AT.pts,jaA,h,cE]⟩
def jej(L m:vM)(p:Nat):Prop:=∀ j x,m[j]?=some x->L[p+j]?=some x
theorem jej.left{L m n:vM}{p:Nat}(h:jej L (m++n) p):jej L m p:=fun j x e=>h j x (by rw[cS (bP.1 e).1];exact e)
theorem jej.right{L m n:vM}{p:Nat}(h:jej L (m++n) p):jej L n (p+m.length):=fun j x e=>by
 have:=h (m.length+j) x (by rw[cQ vO,Nat.add_sub_cancel_left];exact e)
 rw[Nat.add_assoc];exact this
theorem jej.le{L m:vM}{p:Nat}(h:jej L m p)(hm:m≠[]):p+m.length<=L.length:=by
 have e:0 < m.length:=gE.2 hm
 have:=h (m.length - 1) _ (bA vO)
 have:=(bP.1 this).1
 omega
theorem jvh(T:PT):1<=(jav T).length:=by cases T;unfold jav;simp
theorem jo1:∀ (ks:List AT),ks.length<=(jaA (AT.pts ks)).length
 | []=>by simp
 | x :: ks=>by
  have:=jo1 ks
  have:=jvh x.pt
  simp only[AT.pts,jaA,bC,bF];omega
def jko(C Cx:Nat->vW->Prop)(n N:Nat)(e:Ending)(W':vW):Prop:=(e=.returned (.bool true)/\C n W')\/(e=.returned (.bool false)/\∃ q,0 < q/\q<=N/\Cx q W')
def jxf(C:Nat->vW->Prop)(p:Nat)(ks:List AT)(v:vV)(wr:vW):Prop:=∃ j:Nat,j<=ks.length/\v=.int .i64 j/\C (p+1+(jaA (AT.pts (ks.take j))).length) wr
theorem juc(A:Nat->Prop)(l:Nat)(C Cx:Nat->vW->Prop)(hC:∀ k,St (C k))(L:vM)(hLn:L.length<=1000000)
  (hY:∀ j E,j < L.length->C j E->jrk Tryz.prog l #[.string (L.getD j ⟨#[]⟩)] E (C (j+1)) (Cx (j+1)))
  (b:Nat) (t:vB) (v:vV) (ks:List AT)
  (IHk:∀ a∈ks,∀ (p:Nat) (W:vW),jej L (jav a.pt) p->(∀ j E,C j E->AtIs A a E)->C p W ->
   CallsIn Fence.wide 0 Tryz.prog 80 #[ptrV a.root,.func (.yield l) #[] #[]] W (jko C Cx (p+(jav a.pt).length) L.length))
  (p:Nat) (W:vW) (hL:jej L (jav (AT.mk b t v ks).pt) p) (hS:∀ j E,C j E->AtIs A (.mk b t v ks) E) (h0:C p W) :
   CallsIn Fence.wide 0 Tryz.prog 80 #[ptrV b,.func (.yield l) #[] #[]] W (jko C Cx (p+(jav (AT.mk b t v ks).pt).length) L.length):=by
  have e1:jav (AT.pt (.mk b t v ks))=t :: jaA (AT.pts ks):=by unfold AT.pt jav;rfl
  rw[e1]at hL ⊢;have hp:p < L.length:=by have:=hL 0 t rfl;exact (bP.1 this).1
  have hg:L.getD p ⟨#[]⟩=t:=by rw[bH];have:=hL 0 t rfl;rw[fN]at this;rw[this];rfl
  have K:∀ j E,C j E->Blk E b (.cells #[.string t,v] 142)/\RdQ A E v (ks.map AT.root)/\jeE A ks E:=fun j E h=>by
   have:=hS j E h;unfold AtIs at this;exact this.2
  obtain⟨fn,tm,b6,bd,a0,a5⟩:=hY p W hp h0
  rw[hg]at a0;have q0:=(K p W h0).1.cell (i:=0) (v:=.string t) vF
  obtain⟨av,cv,hv⟩:=(K p W h0).2.1.sl
  rw[cC]at hv;subst hv;have b7:ks.length<=1000000:=by
   have h1:=jo1 ks;have h2:=hL.le (by simp);simp only[bF]at h2;omega
  have a6:=Hd a5;have HS:=Hd K;have HY:=Hd hY;have HC:=Hd hC;have a7:=Hd IHk;have HL:=Hd hL;clear K hS a5 hg h0 e1 hL hY hC IHk;unfold ptrV;refine callsIn_of_wp Tryz.func80 rfl trivial ?_ rfl;simp only[Tryz.ntmps80,dK,bF,cF,Nat.reduceAdd,Nat.reduceSub,dP,dO,fC,dY,cT,dA];gi_wp2_with fail
  refine⟨rfl,a6.o.mono ?_⟩
  rintro e w5 (⟨rfl,C5⟩ |⟨rfl,C5⟩)
  ·have q1:=(HS.o _ _ C5).1.cell (i:=1) (v:=.slice av ks.length cv) vF
   have O:=Hd C5;clear C5 q0 a0;gi_wp2_with fail
   gi_loopw [19] (fun v wr=>jxf C p ks v wr) (fun v _=>ks.length - (intOf v).toNat)
   case atStart=>exact⟨0,by omega,rfl,by simpa [AT.pts,jaA]using O.o⟩
   case round =>
    obtain⟨j,hj,rfl,H⟩:=hrel
    by_cases hlt:j < ks.length
    ·obtain⟨a8,a1,a9⟩:=HS.o _ _ H
     obtain⟨a,ha⟩:∃ a,ks[j]?=some a:=⟨_,bA hlt⟩
     have Q:a∈ks:=bI ha;have a2:=jma ks j a ha
     obtain⟨a4,X⟩:=jo2 ks (j+1)
     have Z:jej L (jav a.pt) (p+1+(jaA (AT.pts (ks.take j))).length):=by
      have h1:jej L ([t]++(jaA (AT.pts (ks.take j))++(jav a.pt++a4))) p:=by
       have:=HL.o
       rw[X,a2,cE]at this;exact this
      exact (h1.right.right).left
     rcases a1 with⟨_,h0⟩ |⟨g,c,hh,_,_,_,_,hcell⟩
     ·rw[List.map_eq_nil_iff]at h0;rw[h0]at hlt;cases hlt
     obtain⟨rfl,b0,b2⟩:=cN hh
     clear b0 b2;have qj:wr.cell? ⟨g,j,none⟩=some (ptrV a.root):=hcell j a.root (by rw[bX,ha];rfl)
     obtain⟨ar,a3⟩:=vE a.root
     rw[<-a3]at qj;have b1:(j:Int) < (ks.length:Int):=vO
     have ih:=a7.o a Q _ wr Z (fun j' E h=>jeE.get ks j a (HS.o j' E h).2.2 ha) H;rw[<-a3]at ih;have IH:=Hd ih;have b3:=Hd a2;unfold ptrV at qj;clear a8 a9 hcell hh X Z ih a2 H ha a3 q1 Q O;gi_wp2_with fail
     refine⟨trivial,rfl,IH.o.mono ?_⟩
     rintro e w6 (⟨rfl,C6⟩ |⟨rfl,q',a1,b4,C6⟩)
     ·have J:=Hd C6
      clear C6;gi_wp2_with fail
      go_roundw
      case rel=>exact⟨j+1,by omega,by go_num,by rw[b3.o,bC, <-Nat.add_assoc];exact J.o⟩
      case measure=>exact vJ
     ·have J:=Hd C6
      clear C6;gi_wp2_with fail
      go_ret;exact .inr ⟨rfl,q',a1,b4,J.o⟩
    ·have b5:j=ks.length:=vO
     subst b5;rw[cL]at H;have J:=Hd H;clear H;gi_wp2_with fail
     go_ret;exact .inl ⟨rfl,by rw[show p+((jaA (AT.pts ks)).length+1)=p+1+(jaA (AT.pts ks)).length by omega];exact J.o⟩
  ·have O:=Hd C5
   clear C5 q0 a0;gi_wp2_with fail
   go_ret;exact .inr ⟨rfl,p+1,by omega,by omega,O.o⟩
theorem jub(A:Nat->Prop)(l:Nat)(C Cx:Nat->vW->Prop)(hC:∀ k,St (C k))(L:vM)(hLn:L.length<=1000000)
  (hY:∀ j W',j < L.length->C j W'->jrk Tryz.prog l #[.string (L.getD j ⟨#[]⟩)] W' (C (j+1)) (Cx (j+1))) :
  ∀ (a:AT) (p:Nat) (W:vW),jej L (jav a.pt) p->(∀ j W',C j W'->AtIs A a W')->C p W ->
   CallsIn Fence.wide 0 Tryz.prog 80 #[ptrV a.root,.func (.yield l) #[] #[]] W (jko C Cx (p+(jav a.pt).length) L.length)
 | .mk b t v ks,p,W,hL,hS,h0=>juc A l C Cx hC L hLn hY b t v ks (fun a e=>jub A l C Cx hC L hLn hY a) p W hL hS h0
termination_by a=>SizeOf.sizeOf a
decreasing_by
 have:=List.sizeOf_lt_of_mem e
 simp
 omega
def jrp(L:vM)(k:Nat):Array vV:=#[.string (L.getD k ⟨#[]⟩)]
theorem jzo(A:Nat->Prop)(bx:Nat)(a:AT)(hLn:(jav a.pt).length<=1000000):jur Tryz.prog 79 #[.pointer (some ⟨bx,0,none⟩)] (jav a.pt).length (jrp (jav a.pt)) (fun W=>Blk W bx (.cells #[ptrV a.root] 76)/\AtIs A a W):=by
 intro l C Cx hC E H W hY J;have hT:=jub A l C Cx hC (jav a.pt) hLn (fun j K hj hc=>hY j K hj hc) a 0 W (fun j x hx=>by rw[cH];exact hx) (fun j K h=>(H j K h).2) J;have q0:=(H 0 W J).1.cell (i:=0) (v:=ptrV a.root) vF;have HT:=Hd hT;clear hT hY hC E H J;unfold ptrV at q0
 obtain⟨r,O⟩:=vE a.root
 rw[<-O]at q0 HT;have HR:=Hd O;clear O;refine callsIn_of_wp Tryz.func79 rfl trivial ?_ rfl;simp only[Tryz.ntmps79,dK,bF,cF,Nat.reduceAdd,Nat.reduceSub,dP,dO,fC,dY,cT,dA];gi_wp2_with fail
 refine⟨trivial,rfl,HT.o.mono ?_⟩
 rintro e w5 (⟨rfl,C5⟩ |⟨rfl,q',Q,X,C6⟩)
 ·have Z:=Hd C5
  clear C5;gi_wp2_with fail
  refine bodyPost_end (results_none rfl _ _ _) rfl ?_
  exact⟨⟨_,rfl⟩,.inl (by have:=Z.o;rw[cH]at this;exact this)⟩
 ·have a0:=Hd C6
  clear C6;gi_wp2_with fail
  refine bodyPost_end (results_none rfl _ _ _) rfl ?_
  exact⟨⟨_,rfl⟩,.inr ⟨q',X,Q,a0.o⟩⟩
theorem jBa(w:vW)(k:Nat):vQ 39 #[ptrV k] w fun e w'=>e=.returned (.func (.func 79) #[] #[.pointer (some ⟨w.heap.size,0,none⟩)])/\Blk w' w.heap.size (.cells #[ptrV k] 76)/\Ext w w':=by
 unfold ptrV;unfold vQ;go_in;go_wp2_with fail
 go_ret
 exact⟨rfl,Blk.new w _,(ExtR w).alloc _⟩
def memB(acc:vM)(x:vB):Bool:=(acc.map (·.data.toList)).contains x.data.toList
theorem jd6(acc:vM)(x:vB):memB acc x=true↔x∈acc:=by
 unfold memB;rw[dC,bK]
 exact⟨fun ⟨y,o,e⟩=>by rw[<-show y=x from ByteArray.ext (Array.ext' e)];exact o,fun h=>⟨x,h,rfl⟩⟩
def addF(acc:vM)(x:vB):vM:=if memB acc x=true then acc else acc++[x]
def ja9(l:vM):vM:=l.foldl addF []
theorem juv(acc:vM)(x y:vB):y∈addF acc x↔y∈acc\/y=x:=by
 unfold addF;split
 ·rename_i h;exact⟨.inl,fun o=>o.elim id (fun e=>e ▸ (jd6 _ _).1 h)⟩
 ·simp
theorem jaV(l:vM)(y:vB):y∈ja9 l↔y∈l:=by
 unfold ja9
 suffices ∀ e,y∈l.foldl addF e↔y∈e\/y∈l by simpa using this []
 induction l with
 | nil=>intro e;simp
 | cons x r ih=>intro e;rw[dM,ih,juv,bM];exact or_assoc
theorem jf8(l:vM)(x:vB):ja9 (l++[x])=addF (ja9 l) x:=by
 unfold ja9;rw[dU];rfl
theorem jhe(l:vM):(ja9 l).length<=l.length:=by
 unfold ja9
 suffices ∀ e,(l.foldl addF e).length<=e.length+l.length by simpa using this []
 induction l with
 | nil=>intro e;simp
 | cons x r ih =>
  intro e;rw[dM,bF];have o:=ih (addF e x);have A:(addF e x).length<=e.length+1:=by unfold addF;split <;> simp
  omega
theorem jc3{K:Type}[DecidableEq K](k:K)(v:vV)(n:Nat)(k':K):∀ (l:List (Ent K)),jaX (jbt l k v n) k'=if k'=k then some v else jaX l k'
 | []=>by
  by_cases h:k'=k
  ·subst h;simp[jbt,jaX]
  ·simp[jbt,jaX,h]
 | x :: r=>by
  have E:=jc3 k v n k' r;unfold jbt
  by_cases hk:k=x.1
  ·rw[if_pos hk]
   by_cases h:k'=k
   ·subst h;simp[jaX]
   ·have o:¬ k'=x.1:=fun e=>h (e.trans hk.symm)
    simp[jaX,h,o]
  ·rw[if_neg hk]
   by_cases h:k'=x.1
   ·have o:¬ k'=k:=fun e=>hk (e.symm.trans h)
    rw[if_neg o];simp[jaX,h]
   ·have A:∀ l,jaX (x :: l) k'=jaX l k':=fun l=>by simp[jaX,h]
    rw[A,A,E]
def cntB(l:vM)(x:vB):Nat:=(l.map (·.data.toList)).count x.data.toList
def cntV(n:Nat):Option vV:=if n=0 then none else some (.int .i64 (n:Int))
theorem Tryz.uMapSI:Tryz.prog.underlying 60=some (.map 9 3):=vY
noncomputable abbrev Tryz.ES:ja5 Tryz.prog 9 (vN):=jzX Tryz.uStr
theorem Tryz.zeroI(w:vW):(zeroValue 3).run Tryz.prog w=.ok (.int .i64 0) w:=vY
structure NodS(w:World)(g m:Nat)(A:Nat->Prop)(bx:Nat)(a:AT)(L:vM)(k:Nat)(W:World):Prop where
 ext:Ext w W
 var:∃ v n,Blk W g (.cells #[v] 31)/\W.ownsRow 0 9 1 v n ((ja9 (L.take k)).map Value.string)/\n<=k/\∀ b,v.ownBlock=some b->m+2<=b
 tab:∃ es ck,Blk W (g+1) (.map (Tryz.ES.arr es) ck)/\∀ x:vB,jaX es x.data.toList=cntV (cntB (L.take k) x)
 mv:Blk W (g+2) (.cells #[.map (some (g+1))] 60)
 box:Blk W bx (.cells #[ptrV a.root] 76)
 at':AtIs A a W
theorem NodS.st{w:vW}{g m:Nat}{A:Nat->Prop}{bx:Nat}{a:AT}{L:vM}{k:Nat}{W W':vW}(h:NodS w g m A bx a L k W)(e:Ext W W'):NodS w g m A bx a L k W':=
 let ⟨v,n,h1,h2,h3,h4⟩:=h.var
 let ⟨es,ck,h5,h6⟩:=h.tab
 ⟨h.ext.trans e,⟨v,n,h1.keeps e (fun h=>h),jbq h2 e,h3,h4⟩,⟨es,ck,h5.keeps e (fun h=>h),h6⟩,h.mv.keeps e (fun h=>h),h.box.keeps e (fun h=>h),AtIs.keeps e (fun _ _ h=>h) a h.at'⟩
theorem NodS.put{w:vW}{g m:Nat}{A:Nat->Prop}{bx:Nat}{a:AT}{L:vM}{k:Nat}{W:vW}(h:NodS w g m A bx a L k W){r:Nat}(hr:w.heap.size<=r)(h1:g+2 < r)(h2:r < m+2)(h3:bx≠r)(h4:∀ x,A x->x≠r)(o:Obj):NodS w g m A bx a L k (W.putObj r o):=
 let ⟨v,n,h5,h6,h7,h8⟩:=h.var
 let ⟨es,ck,h9,h10⟩:=h.tab
 ⟨h.ext.putObj (.inr hr) _,⟨v,n,h5.put_other vO _,ja8 h6 (jae.onePut W r o) (fun b hb e=>by have:=h8 b hb;omega),h7,h8⟩,⟨es,ck,h9.put_other vO _,h10⟩,h.mv.put_other vO _,h.box.put_other h3 _,
  AtIs.keeps (jae.onePut W r o) (fun x E e=>h4 x E e) a h.at'⟩
end
def jdh(l:vL):Nat->Nat
 | 0=>0
 | n+1=>jdh l n+(cutL n l).length
def hN(L:vN)(n:Nat):Nat:=match L with | []=>0 | a :: _=>if a.toNat < n then 1 else 0
theorem jxJ(p:Pair)(n:Nat):hN p.l (n+1)=hN p.l n+(if jeT n p=true then 1 else 0):=by
 have e:jeT n p=match p.l with | []=>false | a :: _=>a.toNat == n:=rfl
 rw[e];cases p.l with
 | nil=>rfl
 | cons a r =>
  simp only[hN,beq_iff_eq]
  by_cases h1:a.toNat=n
  ·rw[if_pos vO,if_neg vO,if_pos h1]
  ·by_cases h3:a.toNat < n
   ·rw[if_pos vO,if_pos h3,if_neg h1]
   ·rw[if_neg vO,if_neg h3,if_neg h1]
theorem jzU(L:vN)(n:Nat):hN L n<=1:=by
 cases L with
 | nil=>exact cD _
 | cons a r=>simp only[hN];split <;> omega
theorem jf4(p:Pair)(l:vL):∀ n,jdh (p :: l) n=jdh l n+hN p.l n
 | 0=>by
  have:hN p.l 0=0:=by cases p.l <;> simp[hN]
  rw[this];rfl
 | n+1=>by
  have h:(cutL n (p :: l)).length=(cutL n l).length+(if jeT n p=true then 1 else 0):=by
   unfold cutL;rw[dR];split <;> simp
  unfold jdh;rw[jf4 p l n,h,jxJ];omega
theorem jfd:∀ (l:vL) (n:Nat),jdh l n<=l.length
 | [],n=>by
  have:∀ n,jdh [] n=0:=fun n=>by induction n with
   | zero=>rfl
   | succ n ih=>unfold jdh;rw[ih];rfl
  rw[this];exact cD _
 | p :: l,n=>by
  rw[jf4,bF]
  have:=jfd l n
  have:=jzU p.l n
  omega
theorem jct:∀ (a b:List PT),jaA (a++b)=jaA a++jaA b
 | [],b=>by simp[jaA]
 | x :: a,b=>by simp only[dA,jaA,jct a b,cE]
theorem jiI(T:PT):(jaA (jbp T)).length<=(jav T).length:=by
 unfold jbp;split <;> simp[jaA]
theorem jzZ(B:vL->PT)(F:Nat)(l:vL)(hB:∀ i,(cutL i l).length≠0->(jav (B (jak 1 (cutL i l)))).length<=F * (cutL i l).length):∀ n,(jaA (ksK B l n)).length<=F * jdh l n
 | 0=>by simp[ksK,jaA,jdh]
 | n+1=>by
  rw[jh1,jct,bC];unfold jdh;rw[Nat.mul_add]
  have:=jzZ B F l hB n
  by_cases h0:(cutL n l).length=0
  ·rw[if_pos h0];simp[jaA];omega
  ·rw[if_neg h0]
   have e:=hB n h0;have o:=jiI (B (jak 1 (cutL n l)));omega
theorem jnY:∀ (f:Nat) (l:vL),l≠[]->(jav (jac (f+1) l)).length<=(f+1) * l.length
 | f,l,hl=>by
  have E:1<=l.length:=gE.2 hl;show (jav (.mk (jaQ (jar (jac f) l)) (jas (jac f) l))).length<=_;unfold jav;rw[bF];have H:(jaA (jas (jac f) l)).length<=f * l.length:=by
   unfold jas;split
   ·simp[jaA]
   ·split
    ·cases f with
     | zero =>
      have h:=jiI (jac 0 (jak (comK l) l));have J:jbp (jac 0 (jak (comK l) l))=[]:=rfl;rw[J];simp[jaA]
     | succ f =>
      have h:=jiI (jac (f+1) (jak (comK l) l));have o:=jnY f (jak (comK l) l) (fun e=>by have:=jaI (comK l) l;rw[e]at this;simp at this;omega);rw[jaI]at o;omega
    ·cases f with
     | zero =>
      have:∀ n,ksK (jac 0) l n=[]:=fun n=>by
       induction n with
       | zero=>rfl
       | succ n o =>
        rw[jh1,o];split
        ·rfl
        ·rfl
      have A:=this 16;unfold ksK at A;rw[A];simp[jaA]
     | succ f =>
      have h:=jzZ (jac (f+1)) (f+1) l (fun i Q=>by
       have o:=jnY f (jak 1 (cutL i l)) (fun e=>by have:=jaI 1 (cutL i l);rw[e]at this;simp at this;omega)
       rwa [jaI]at o) 16
      have K:=Nat.mul_le_mul_left (f+1) (jfd l 16);have O:ksK (jac (f+1)) l 16=(List.range 16).flatMap fun i=>if (cutL i l).length=0 then []else jbp (jac (f+1) (jak 1 (cutL i l))):=rfl
      rw[<-O];exact bJ h K
  have:(f+1) * l.length=f * l.length+l.length:=by rw[Nat.succ_mul]
  omega
theorem jln{l:vL}(h:jus l):(jav (jaG l)).length<=13 * l.length+1:=by
 by_cases h0:l=[]
 ·subst h0
  show (jav (.mk (jaQ (jar (jac 12) [])) (jas (jac 12) []))).length<=_
  have:jas (jac 12) []=[]:=rfl
  rw[this];simp[jav,jaA]
 ·have o:(jav (jaG l)).length<=13 * (jaP l).length:=jnY 12 (jaP l) (fun e=>h0 (by unfold jaP at e;simpa using e))
  have A:(jaP l).length=l.length:=by unfold jaP;rw[cC]
  rw[A]at o;omega
section
attribute [local go_sem] Oper.semAt_some
theorem Tryz.makeMapSI(W:vW):(Instr.makeMap 60 none).run Tryz.prog W=.ok (.map (some W.heap.size)) (W.alloc (.map #[] 0)):=vY
theorem jpv(w:vW)(v:vV)(l:vL)(hc:jb0 w)(hv:RdP w v l)(h:jaz l=0):vQ 17 #[v] w fun e w'=>∃ u n,e=.returned (.tuple #[u,.int .i64 0])/\SRow w w' u n (ja9 (jav (jaG l))):=by
 have hm:=jaD h
 obtain⟨a,c,rfl⟩:=hv.sl;have HV:=Hd hv;have HM:=Hd hm;have HC:=Hd hc;have H:=Hd h;have HL:=Hd hm.len
 obtain⟨T,hT⟩:=vE (jaG l)
 rw[<-hT];have d1:=Hd hT;clear hv hm hc h hT;refine (callsIn_wide (n:=0)).1 ?_;refine callsIn_of_wp_marks Tryz.func17 rfl trivial ?_ rfl;simp only[Tryz.ntmps17,dK,bF,cF,Nat.reduceAdd,Nat.reduceSub,dP,dO,fC,dY,cT,dA];gi_wp2_with fail
 refine⟨trivial,rfl,CallsIn.mono (callsIn_wide.2 (jg8 w _ l HV.o (by have:=HL.o;omega) (fun p hp=>by have:=HM.o.size p hp;omega))) ?_⟩
 rintro e w1 ⟨rfl,J⟩;rw[H.o];have HE:=Hd J;have h8:=J.size;clear J;have f3:(Instr.makeMap 60 none).run Tryz.prog (w1.alloc (.cells #[.slice none 0 0] 31))=.ok (.map (some (w1.heap.size+1))) ((w1.alloc (.cells #[.slice none 0 0] 31)).alloc (.map #[] 0)):=by
  rw[<-bT w1 (.cells #[.slice none 0 0] 31)];exact Tryz.makeMapSI _
 gi_wp2_with fail
 obtain⟨W6,X⟩:=vE (((w1.alloc (.cells #[.slice none 0 0] 31)).alloc (.map #[] 0)).alloc (.cells #[.map (some (w1.heap.size+1))] 60))
 rw[<-X];have i1:W6.heap.size=w1.heap.size+3:=by rw[X];simp
 have E6:Ext w1 W6:=by rw[X];exact (((ExtR w1).alloc _).alloc _).alloc _
 have B5:Blk W6 w1.heap.size (.cells #[.slice none 0 0] 31):=by rw[X];exact ((Blk.new w1 _).alloc _).alloc _
 have BM:Blk W6 (w1.heap.size+1) (.map #[] 0):=by
  rw[X];have:=(Blk.new (w1.alloc (.cells #[.slice none 0 0] 31)) (.map #[] 0)).alloc (.cells #[.map (some (w1.heap.size+1))] 60);rwa [bT]at this
 have B6:Blk W6 (w1.heap.size+2) (.cells #[.map (some (w1.heap.size+1))] 60):=by
  rw[X];have:=Blk.new ((w1.alloc (.cells #[.slice none 0 0] 31)).alloc (.map #[] 0)) (.cells #[.map (some (w1.heap.size+1))] 60);rwa [bT,bT]at this
 clear X f3
 refine⟨trivial,rfl,CallsIn.mono (callsIn_wide.2 (jwS W6 _ l ((HV.o.ext HE.o).ext E6) (by have:=HL.o;omega) (fun p hp=>by have:=HM.o.size p hp;omega))) ?_⟩
 rintro e w7 ⟨u,rfl,hr⟩;have HR:=Hd hr.rd;have Z:Ext W6 w7:=hr.ext;clear hr
 obtain⟨a2,c2,hu⟩:=HR.o.sl
 subst hu;have f4:=Hd Z;have d2:=Hd (B5.keeps Z (fun h=>h));have d3:=Hd (BM.keeps Z (fun h=>h));have d4:=Hd (B6.keeps Z (fun h=>h));have b7:=Hd ((HE.o.trans E6).trans Z);have i2:=Z.size;clear B5 BM B6 E6 Z;gi_wp2_with fail
 refine⟨trivial,rfl,CallsIn.mono (callsIn_wide.2 (jkw 12 (jaP l) (jbD HM.o) (by unfold jaP;rw[cC];have:=HL.o;omega) w7 _ (HC.o.ext b7.o) HR.o)) ?_⟩
 rintro e w8 ⟨k,rfl,hk,J⟩;have hk:=jbN.mono (A':=fun x=>w7.heap.size<=x/\x < w8.heap.size) (fun x h1 h2=>⟨h1,h2⟩) _ _ hk
 obtain⟨E,d5,d6,d7⟩:=jzr _ _ hk
 have i3:=J.size;have a5:=Hd (d2.o.keeps J (fun h=>h));have a6:=Hd (d3.o.keeps J (fun h=>h));have a7:=Hd (d4.o.keeps J (fun h=>h));have d8:=Hd (b7.o.trans J);have d9:=Hd d7;have a3:=Hd d6;rw[<-d5];clear hk d5 d6 d7 J d2 d3 d4 b7 f4 HR HE;gi_wp2_with fail
 refine⟨trivial,rfl,CallsIn.mono (callsIn_wide.2 (jBa w8 E.root)) ?_⟩
 rintro e w9 ⟨rfl,b8,J⟩;have b9:E.pt=T:=a3.o.trans d1.o.symm;have a8:(jav E.pt).length<=1000000:=by
  rw[b9,d1.o];have:=jln HM.o;have:=HL.o;omega
 have i4:=b8.lt
 obtain⟨A,hA⟩:∃ A:Nat->Prop,A=fun x=>w7.heap.size<=x/\x < w8.heap.size:=⟨_,rfl⟩
 have S0:NodS w w1.heap.size w9.heap.size A w8.heap.size E (jav E.pt) 0 w9:=
  ⟨d8.o.trans J,⟨_,0,a5.o.keeps J (fun h=>h),by simpa [ja9]using fV _ _ _ _,bL _,fun b hb=>by cases hb⟩,⟨[],0,a6.o.keeps J (fun h=>h),fun x=>by simp[jaX,cntB,cntV]⟩,a7.o.keeps J (fun h=>h),b8,by rw[hA];exact AtIs.keeps J (fun _ _ h=>h) _ d9.o⟩
 have b4:=Hd S0;have a9:∀ x,A x->w1.heap.size+2 < x/\x < w9.heap.size:=fun x hx=>by rw[hA]at hx;omega
 have g7:w1.heap.size+2 < w8.heap.size:=vO
 obtain⟨L,c0⟩:=vE (jav E.pt)
 have c1:=jzo A w8.heap.size E a8;rw[<-c0]at c1 a8 b4;have f5:=Hd c1;have f6:=Hd c0;have O:=Hd a9;have d0:=Hd b9;clear S0 J b8 hA d8 a5 a6 a7 d9 a3 b9 c0 c1 a9;unfold ptrV;gi_wp2_with fail
 refine jeD (N:=L.length) (gf:=79) (lb:=#[.pointer (some ⟨w8.heap.size,0,none⟩)]) rfl (vX 79) f5.o
  (fun k=>rfl) (NodS w w1.heap.size w9.heap.size A w8.heap.size E L) (fun _ _ _=>False) (fun k W W' h e=>h.st e) (fun _ _ _ _ h _=>h) (fun k W h=>⟨h.box,h.at'⟩)
  (fun k W o h=>h.put vO vO vO vO (fun x hx=>by have:=O.o x hx;omega) _)
  (fun k W o h=>h.put vO vO vO vO (fun x hx=>by have:=O.o x hx;omega) _) (fun _ _ _ _ h=>h)
  b4.o (fun k=>{ tmps:=#[.slice a l.length c,undef,.slice none 0 0,.int .i64 0,.int .i64 0,.pointer (some ⟨w1.heap.size,0,none⟩),.pointer (some ⟨w1.heap.size+1+1,0,none⟩),.string (L.getD k ⟨#[]⟩),.slice a l.length c,.int .i64 0,.int .i64 0,.bool false,undef,.map (some (w1.heap.size+1)),.slice a l.length c,.slice a2 (jaP l).length c2,.pointer (some ⟨E.root,0,none⟩),.func (.func 79) #[] #[.pointer (some ⟨w8.heap.size,0,none⟩)],.string (L.getD k ⟨#[]⟩),undef,undef,undef,undef,undef,undef,undef,undef,undef,undef,undef,undef,undef],defers:=[] })
  ?hassign ?hbody ?hdone ?hstop
 case hassign =>
  intro l2 j W K hK;unfold jrp;rw[jzT];simp only[dL,dG];gi_wp2;exact hK
 case hbody =>
  intro l2 k W hk h i5
  obtain⟨v,n,h1,h2,h3,h4⟩:=h.var
  obtain⟨ad,cp,rfl⟩:=jaU h2
  obtain⟨es,ck,h5,h6⟩:=h.tab
  obtain⟨x,hx⟩:=vE (L.getD k ⟨#[]⟩)
  rw[<-hx];have c3:L.take (k+1)=L.take k++[x]:=by
   rw[cX hk,hx,bH,bA hk];rfl
  obtain⟨cn,a4⟩:=vE (cntB (L.take k) x)
  have i6:cn<=1000000:=by
   rw[a4];unfold cntB;refine bJ jG ?_;rw[cC,cI];omega
  have e6:=h6 x;rw[<-a4]at e6;have e0:(Instr.lookup 60 (.map (some (w1.heap.size+1))) (.string x) false).run Tryz.prog W=.ok (.int .i64 (cn:Int)) W:=by
   have:=jcx Tryz.ES Tryz.uMapSI h5 (Tryz.zeroI W) x.data.toList false
   rw[e6]at this;unfold cntV at this
   by_cases h0:cn=0
   ·rw[if_pos h0]at this;rw[h0];exact this
   ·rw[if_neg h0]at this;exact this
  obtain⟨b5,a0⟩:=vE (jbt es x.data.toList (.int .i64 ((cn:Int)+1)) ck)
  obtain⟨c4,b0⟩:=vE (if (jaX es x.data.toList).isSome then ck else ck+1)
  obtain⟨Q,b6⟩:=vE (W.putObj (w1.heap.size+1) (.map (Tryz.ES.arr b5) c4))
  have e1:(Instr.mapUpdate 60 (.map (some (w1.heap.size+1))) (.string x) (.int .i64 ((cn:Int)+1))).run Tryz.prog W=.ok () Q:=by
   have:=jb4 Tryz.ES Tryz.uMapSI h5 x.data.toList (.int .i64 ((cn:Int)+1))
   rw[<-a0, <-b0, <-b6]at this;exact this
  have B2:Blk Q (w1.heap.size+1) (.map (Tryz.ES.arr b5) c4):=by rw[b6];exact h5.put_same _
  have e7:∀ y:vB,jaX b5 y.data.toList=cntV (cntB (L.take (k+1)) y):=fun y=>by
   rw[a0,jc3,h6 y,c3];have hc:cntB (L.take k++[x]) y=cntB (L.take k) y+(if x.data.toList=y.data.toList then 1 else 0):=by
    unfold cntB;rw[cB,List.count_append,bS,iC,List.count_singleton]
    simp
   rw[hc]
   by_cases hxy:y.data.toList=x.data.toList
   ·have f7:y=x:=ByteArray.ext (Array.ext' hxy)
    subst f7;rw[if_pos rfl,if_pos rfl, <-a4];unfold cntV;rw[if_neg vO];simp
   ·rw[if_neg hxy,if_neg (fun e=>hxy e.symm)];rfl
  have b1:(Instr.lookup 60 (.map (some (w1.heap.size+1))) (.string x) false).run Tryz.prog Q=.ok (.int .i64 ((cn:Int)+1)) Q:=by
   have:=jcx Tryz.ES Tryz.uMapSI B2 (Tryz.zeroI Q) x.data.toList false
   rw[a0,jc3,if_pos rfl]at this;exact this
  have K2:jae (fun b=>b=w1.heap.size+1) W Q:=by rw[b6];exact jae.onePut _ _ _
  have q6:W.cell? ⟨w1.heap.size+1+1,0,none⟩=some (.map (some (w1.heap.size+1))):=h.mv.cell (i:=0) vF;have M2:=h.mv.keeps K2 vO;have i7:Q.cell? ⟨w1.heap.size+1+1,0,none⟩=some (.map (some (w1.heap.size+1))):=M2.cell (i:=0) vF;have V2:=h1.keeps K2 vO;have O2:=ja8 h2 K2 (fun b hb e=>by have:=h4 b hb;omega);have X2:=h.box.keeps K2 vO;have A2:=AtIs.keeps K2 (fun y hy e=>by have:=O.o y hy;omega) _ h.at';have E2:=h.ext.trans' K2 (fun y hy e=>by omega);have i8:=V2.cell (i:=0) (v:=.slice ad n cp) vF;have g8:Q.frozen? ⟨w1.heap.size,0,none⟩=false:=V2.frozen;have b2:=Hd (show memB (ja9 (L.take k)) x=true↔cn≠0 from by
   rw[jd6,jaV,a4];unfold cntB;rw[<-Nat.pos_iff_ne_zero,gZ,bK]
   exact⟨fun hm=>⟨x,hm,rfl⟩,fun ⟨y,hy,e⟩=>by rw[<-show y=x from ByteArray.ext (Array.ext' e)];exact hy⟩)
  have e2:=Hd (show ja9 (L.take (k+1))=addF (ja9 (L.take k)) x by rw[c3,jf8]);have b3:=Hd (show ∃ es ck,Blk Q (w1.heap.size+1) (.map (Tryz.ES.arr es) ck)/\∀ y:vB,jaX es y.data.toList=cntV (cntB (L.take (k+1)) y)from⟨b5,c4,B2,e7⟩);have c5:=Hd K2;have e3:=Hd M2;have e4:=Hd V2;have e5:=Hd O2;have e8:=Hd X2;have a3:=Hd A2;have e9:=Hd E2;have H4:=Hd h4;clear h h1 h2 h4 h5 h6 hx c3 a4 e6 a0 b0 b6 B2 e7 K2 M2 V2 O2 X2 A2 E2 b4
  obtain⟨i0,hi,f8,f9,g0⟩:=info_parts Tryz.infoStr
  by_cases hc0:cn=0
  ·subst hc0
   have f0:memB (ja9 (L.take k)) x=false:=by
    cases hm:memB (ja9 (L.take k)) x with
    | false=>rfl
    | true=>exact absurd rfl (b2.o.1 hm)
   have c6:=Hd f0;have g9:(Instr.lookup 60 (.map (some (w1.heap.size+1))) (.string x) false).run Tryz.prog W=.ok (.int .i64 0) W:=e0;have h7:(Instr.mapUpdate 60 (.map (some (w1.heap.size+1))) (.string x) (.int .i64 1)).run Tryz.prog W=.ok () Q:=e1;have f2:(Instr.lookup 60 (.map (some (w1.heap.size+1))) (.string x) false).run Tryz.prog Q=.ok (.int .i64 1) Q:=b1;clear f0 e0 e1 b1;gi_wp2_with (gi_at_builtin;refine jb5 _ rfl (.tmp 27) (.tmp 29) 31 rfl 9 i0 _ 1 16 Tryz.uStrs hi f8 f9 g0 rfl vI (.slice ad n cp) n _ rfl (jbq e5.o ((ExtR Q).alloc _)) ⟨Q.heap.size,0,none⟩ 1 1 [.string x] rfl rfl (jaJ (Blk.new Q _)) (by simp[Value.oneCell']) (by unfold maxLen;omega) vO ?_;intro v' w6 r1 r2 r3;obtain⟨c7,c8,rfl⟩:=jaU r1;have c9:=(e4.o.alloc _).keeps r2 (fun e=>by have:=H4.o _ e;omega);have i9:w6.cell? ⟨w1.heap.size,0,none⟩=some (.slice ad n cp):=c9.cell (i:=0) vF;have j0:w6.frozen? ⟨w1.heap.size,0,none⟩=false:=c9.frozen)
   have a1:ja9 (L.take (k+1))=ja9 (L.take k)++[x]:=by rw[e2.o];unfold addF;rw[if_neg (by rw[c6.o];simp)]
   have g1:w6.ownsRow 0 9 1 (.slice c7 (n+1) c8) (n+1) ((ja9 (L.take (k+1))).map Value.string):=by rw[a1,cB];exact r1
   have K6:jae (fun b=>(Value.slice ad n cp).ownBlock=some b) Q w6:=((jae.refl _ Q).alloc _).trans r2;have f1:∀ b,(Value.slice c7 (n+1) c8).ownBlock=some b->w9.heap.size+2<=b:=fun b hb=>by
    rcases r3 with r3 | r3
    ·exact H4.o b (r3 ▸ hb)
    ·have h9:=r3 b hb;have:=c5.o.size;rw[bT]at h9;omega
   have K7:jae (fun b=>b=w1.heap.size) w6 (w6.setCell ⟨w1.heap.size,0,none⟩ (.slice c7 (n+1) c8)):=jae.oneSet w6 ⟨w1.heap.size,0,none⟩ _;have nO:∀ b,b < w9.heap.size+2->¬(Value.slice ad n cp).ownBlock=some b:=fun b hb e=>by have:=H4.o b e;omega
   refine⟨((c5.o.mono (fun y _ e=>?_)).trans (K6.mono (fun y _ e=>?_))).trans (K7.mono (fun y _ e=>?_)),?_⟩
   ·have e:y=_:=e;show y≠_/\y≠_;omega
   ·have:=H4.o y e;show y≠_/\y≠_;omega
   ·have e:y=_:=e;show y≠_/\y≠_;omega
   ·obtain⟨g2,g3,g4,g5⟩:=b3.o
    exact⟨(e9.o.trans' K6 (fun y hy e=>by have:=H4.o y e;omega)).trans' K7 (fun y hy e=>by have e:y=_:=e;omega),
     ⟨_,n+1,c9.set_same (i:=0) _,ja8 g1 K7 (fun b hb e=>by have:=f1 b hb;omega),by omega,f1⟩,
     ⟨g2,g3,(g4.keeps K6 (nO _ vO)).keeps K7 vO,g5⟩,(e3.o.keeps K6 (nO _ vO)).keeps K7 vO,(e8.o.keeps K6 (nO _ vO)).keeps K7 vO,
     AtIs.keeps K7 (fun y hy e=>by have:=O.o y hy;omega) _ (AtIs.keeps K6 (fun y hy=>nO y (by have:=O.o y hy;omega)) _ a3.o)⟩
  ·have j1:¬((cn:Int)+1=1):=vO
   have j2:(((cn:Int)+1) == 1)=false:=by simp;omega
   have hm:=b2.o.2 hc0;have c6:=Hd hm;clear hm;gi_wp2_with fail
   have a1:ja9 (L.take (k+1))=ja9 (L.take k):=by rw[e2.o];unfold addF;rw[if_pos c6.o]
   refine⟨c5.o.mono (fun y _ e=>?_),?_⟩
   ·have e:y=_:=e;show y≠_/\y≠_;omega
   ·exact⟨e9.o,⟨_,n,e4.o,by rw[a1];exact e5.o,by omega,H4.o⟩,b3.o,e3.o,e8.o,a3.o⟩
 case hdone =>
  intro W h hd
  obtain⟨v,n,h1,h2,h3,h4⟩:=h.var
  obtain⟨ad,cp,rfl⟩:=jaU h2
  have q5:W.cell? ⟨w1.heap.size,0,none⟩=some (.slice ad n cp):=h1.cell (i:=0) vF;rw[cL,f6.o]at h2;have H2:=Hd h2;have H4:=Hd h4;have HX:=Hd h.ext;have HD:=Hd hd;have g6:Hid (E.pt=T):=d0.o;clear h h1 h2 h4 hd b4;gi_wp2_with fail
  refine⟨by simp,.inl ⟨_,_,rfl,run_takeDeferred HD.o,?_⟩⟩
  refine⟨_,results_tmp2 rfl _ _ _,?_⟩
  have hK:=jae.onePut W w9.heap.size (.deferred none)
  refine⟨.slice ad n cp,n,rfl,⟨_,_,rfl⟩,by rw[<-g6.o];exact ja8 H2.o hK (fun b hb e=>by have:=H4.o b hb;omega),HX.o.putObj (.inr vO) _,fun b hb=>by have:=H4.o b hb;omega⟩
 case hstop=>intro c k W _ _ h;exact h.elim
end
theorem jnX(x:vB)(r:vM):(ja9 (x :: r))[0]?=some x:=by
 unfold ja9;rw[dM];have h:∀ (r e:vM),e[0]?=some x->(r.foldl addF e)[0]?=some x:=by
  intro r;induction r with
  | nil=>intro e h;exact h
  | cons y r ih =>
   intro e h;rw[dM];refine ih _ ?_;unfold addF;split
   ·exact h
   ·rw[cS (bP.1 h).1];exact h
 exact h r _ (by simp[addF,memB])
theorem jjR(T:PT):(ja9 (jav T))[0]?=some T.text:=by
 obtain⟨t,ks⟩:=T
 unfold jav;exact jnX t _
theorem jeQ(x y:vB):(x.toList == y.toList)=decide (x=y):=by
 by_cases h:x=y
 ·simp[h]
 ·have e:¬ x.toList=y.toList:=fun o=>h (jdJ o)
  simp only[h,decide_false];exact beq_eq_false_iff_ne.2 e
theorem jbE{t:vB}:∀ {ks:List PT},t∈jaA ks↔∃ T∈ks,t∈jav T
 | []=>by simp[jaA]
 | T :: ks=>by
  unfold jaA;rw[bU,jbE (ks:=ks)];constructor
  ·rintro (h |⟨A,e,o⟩)
   ·exact⟨T,bG,h⟩
   ·exact⟨A,bD _ e,o⟩
  ·rintro⟨A,e,o⟩
   rcases bM.1 e with rfl | e
   ·exact .inl o
   ·exact .inr ⟨A,e,o⟩
theorem jA9{P:Program}{f:FuncId}{args:Array vV}{w:vW}{R R':vV->vW->Prop}
  (h:Calls P f args w fun | .returned v,w'=>R v w' | _,_=>False) (h':Calls P f args w fun | .returned v,w'=>R' v w' | _,_=>False) (hi:P.inits.idxOf? f=none) :
  ∃ v w',R v w'/\R' v w':=by
 obtain⟨n,v,w1,e,o⟩:=h.done hi
 obtain⟨m,H,J,A,E⟩:=h'.done hi
 have a:=runN_ended e m;have b:=runN_ended A n;rw[gN,a]at b;injection b with ho hw;injection ho with hv;subst hv hw
 exact⟨_,_,o,E⟩
theorem juw{P:Program}{f:FuncId}{args:Array vV}{w:vW}{a b:vV}{R R':vW->Prop}
  (h:Calls P f args w fun e w'=>e=.returned a/\R w') (h':Calls P f args w fun e w'=>e=.returned b/\R' w') (hi:P.inits.idxOf? f=none):a=b:=by
 obtain⟨v,w',A,E⟩:=jA9 (R:=fun v _=>v=a) (R':=fun v _=>v=b)
  (h.mono fun e w' o=>by obtain⟨rfl,_⟩:=o;rfl) (h'.mono fun e w' o=>by obtain⟨rfl,_⟩:=o;rfl) hi
 exact A.symm.trans E
theorem jtb{n m:jad}(h:n.V=m.V):n=m:=by
 obtain⟨k,p,v,A⟩:=n
 obtain⟨E,Q,X,e⟩:=m
 unfold jad.V jad.cells at h;injection h with h;have h:=congrArg Array.toList h;simp only[List.toList_toArray,List.cons.injEq,Value.int.injEq,Value.string.injEq]at h
 obtain⟨⟨_,o⟩,H,J,K⟩:=h
 have O:A=e:=by
  have:∀ a b:vM,a.map Value.string=b.map Value.string->a=b:=fun a=>by
   induction a with
   | nil=>intro b hb;cases b with | nil=>rfl | cons x y=>cases hb
   | cons x r ih =>
    intro b hb;cases b with
    | nil=>cases hb
    | cons y t =>
     simp only[bS,List.cons.injEq,Value.string.injEq]at hb;rw[hb.1,ih t hb.2]
  exact this _ _ K
 have o:k=E:=vO
 subst o H J O;rfl
theorem jdl(w:vW){f g:Nat}{n m:jad}(hn:jbS (InlD f) n)(hm:jbS (InlD g) m)(h:jaQ n=jaQ m):n=m:=by
 have e:=jjT (inlP f) w n hn;have o:=jjT (inlP g) w m hm;rw[h]at e
 have:=juw e o vY
 injection this with this
 have:=congrArg Array.toList this
 simp only[List.toList_toArray,List.cons.injEq]at this;exact jtb this.1
theorem jkk{a b:vB}(ha:a.size=32)(hb:b.size=32)(h:jao a=jao b):a=b:=by
 obtain⟨r,e,o⟩:=jdT a ha
 obtain⟨s,A,E⟩:=jdT b hb
 rw[h]at e o;rw[e]at A;obtain rfl:=bO A;rw[o]at E;exact bO E
theorem jfN{T:PT}(h:T.text.size < 32):refB T.text=T.text:=by unfold refB;rw[if_pos h]
theorem jgO{T:PT}(h:¬ T.text.size < 32):refB T.text=jao (shaB T.text):=by unfold refB;rw[if_neg h]
theorem jhh{f:Nat}{T:PT}{n:jad}(h:jdM f T n)(hs:T.text.size < 32):jav T=[T.text]:=by
 have e:=h.small hs
 obtain⟨x,ks⟩:=T
 have e:ks=[]:=e;subst e;unfold jav jaA;rfl
theorem jgA{T:PT}(h:¬ T.text.size < 32):jaA (jbp T)=jav T:=by
 unfold jbp;rw[if_neg h];simp[jaA]
theorem jbW(T:PT):T.text∈jav T:=by cases T;unfold jav;exact bG
theorem jbI{l:vL}(h:jap 0 l):l.length<=1:=by
 rcases fQ l.length 2 with h2 | h2
 ·omega
 ·obtain⟨a,o⟩:∃ a,l[0]?=some a:=⟨_,bA vO⟩
  obtain⟨b,hb⟩:∃ b,l[1]?=some b:=⟨_,bA vO⟩
  have e:=jcc h.rise vO o hb
  have:=(h.size b (bI hb)).1
  rw[show b.l=[]from bE (by show b.1.size=0;omega)]at e;exact absurd e (not_lt_nil _)
theorem jbo{a b:vB}(h:a.data.toList=b.data.toList):a=b:=by
 obtain⟨⟨a⟩⟩:=a
 obtain⟨⟨b⟩⟩:=b
 simp only at h;subst h;rfl
def jcP(r:vB):Option vB:=(cutN r).bind (jfi r)
def jaL(n:jad):vM:=n.refs.filterMap jcP
theorem jfj:jcP ⟨#[]⟩=none:=by
 unfold jcP cutN;rw[dif_neg vI];rfl
theorem jep{h:vB}(hs:h.size=32):jcP (jao h)=some h:=by
 obtain⟨r,e,o⟩:=jdT h hs
 unfold jcP;rw[e];exact o
theorem jdS{I:vB->jad->Prop}(HI:InlP I){r:vB}{m:jad}(h:I r m):jcP r=none:=by
 obtain⟨q,e,o⟩:=HI.nohash r m h
 unfold jcP;rw[e];exact o
theorem jmh{f:Nat}{T:PT}{n:jad}(h:jdM f T n):(jcP (refB T.text)).toList=(jbp T).map fun k=>shaB k.text:=by
 by_cases hs:T.text.size < 32
 ·rw[jdS (inlP (f+1)) (h.may.2 hs)]
  unfold jbp;rw[if_pos hs];rfl
 ·rw[jgO hs,jep (jbd _)]
  unfold jbp;rw[if_neg hs];rfl
theorem jeq(k:Nat):(jan k).filterMap jcP=[]:=by
 unfold jan;rw[List.filterMap_eq_nil_iff];intro r e;rw[gB e,jfj]
theorem jiF{α:Type}(g:α->vB)(k:α->List PT):∀ L:List α,(∀ i∈L,(jcP (g i)).toList=(k i).map fun k=>shaB k.text)->(L.map g).filterMap jcP=(L.flatMap k).map fun k=>shaB k.text
 | [],_=>rfl
 | x :: L,h=>by
  rw[bS,cG,cB, <-jiF g k L fun i e=>h i (bD _ e), <-h x bG,gF];cases jcP (g x) <;> rfl
theorem jd5(f:Nat)(l:vL)(h:jap f l):jaL (jar (jac f) l)=(jas (jac f) l).map fun k=>shaB k.text:=by
 unfold jaL
 by_cases h0:l.length=0
 ·have A:jar (jac f) l=jaH:=by unfold jar;rw[if_pos h0]
  have E:jas (jac f) l=[]:=by unfold jas;rw[if_pos vO]
  rw[A,E];exact jeq 16
 by_cases h1:l.length=1
 ·have A:jar (jac f) l=⟨1,(l.getD 0 pd).1,(l.getD 0 pd).2,jan 16⟩:=by unfold jar;rw[if_neg h0,if_pos h1]
  have E:jas (jac f) l=[]:=by unfold jas;rw[if_pos vO]
  rw[A,E];exact jeq 16
 have Q:2<=l.length:=vO
 cases f with
 | zero=>have:=jbI h;omega
 | succ f =>
  by_cases hk:0 < comK l
  ·have o:=jbi h Q
   have H:jap f (jak (comK l) l):=(jcb (comK l) h (fun p J q X=>(o p J).1.trans (o q X).1.symm) (fun p J=>(o p J).2)).mono vO;have K:jak (comK l) l≠[]:=fun e=>by have:=jaI (comK l) l;rw[e]at this;simp at this;omega
   have O:=(good f _ H).2.1 K;have A:jar (jac (f+1)) l=⟨2,(l.getD 0 pd).1.extract 0 (comK l),⟨#[]⟩,refB (jac (f+1) (jak (comK l) l)).text :: jan 15⟩:=by unfold jar;rw[if_neg h0,if_neg h1,if_pos hk]
   have E:jas (jac (f+1)) l=jbp (jac (f+1) (jak (comK l) l)):=by unfold jas;rw[if_neg vO,if_pos hk]
   rw[A,E, <-jmh O];show (refB (jac (f+1) (jak (comK l) l)).text :: jan 15).filterMap jcP=_;rw[gF,jeq];cases jcP (refB (jac (f+1) (jak (comK l) l)).text) <;> rfl
  ·have A:(jar (jac (f+1)) l).refs=(List.range 16).map fun i=>if (cutL i l).length=0 then ⟨#[]⟩else refB (jac (f+1) (jak 1 (cutL i l))).text:=by unfold jar;rw[if_neg h0,if_neg h1,if_neg hk]
   have E:jas (jac (f+1)) l=(List.range 16).flatMap fun i=>if (cutL i l).length=0 then []else jbp (jac (f+1) (jak 1 (cutL i l))):=by unfold jas;rw[if_neg vO,if_neg hk]
   rw[A,E];refine jiF _ _ _ fun i Z=>?_
   by_cases hc:(cutL i l).length=0
   ·rw[if_pos hc,if_pos hc,jfj];rfl
   ·rw[if_neg hc,if_neg hc]
    exact jmh ((good f _ (jcU i h)).2.1 (fun e=>by have:=jaI 1 (cutL i l);rw[e]at this;simp at this;omega))
theorem jid{f:Nat}{l:vL}(h:jap f l){K:PT}(o:K∈jas (jac f) l):∃ g m,f=g+1/\K=jac (g+1) m/\jap g m/\32<=K.text.size:=by
 have E:∀ {T:PT},K∈jbp T->K=T/\32<=K.text.size:=fun {T} h=>by
  unfold jbp at h;split at h
  ·cases h
  ·rw[bY]at h;subst h;exact⟨rfl,by omega⟩
 unfold jas at o
 by_cases h1:l.length<=1
 ·rw[if_pos h1]at o;cases o
 rw[if_neg h1]at o;cases f with
 | zero=>have:=jbI h;omega
 | succ f =>
  by_cases hk:0 < comK l
  ·rw[if_pos hk]at o
   have A:=jbi h vO;have H:jap f (jak (comK l) l):=(jcb (comK l) h (fun p J q Q=>(A p J).1.trans (A q Q).1.symm) (fun p J=>(A p J).2)).mono vO
   obtain⟨e,O⟩:=E o
   exact⟨f,_,rfl,e,H,O⟩
  ·rw[if_neg hk]at o
   obtain⟨i,_,o⟩:=cU.1 o
   split at o
   ·cases o
   ·obtain⟨e,O⟩:=E o
    exact⟨f,_,rfl,e,jcU i h,O⟩
def jbs(t:vB)(n:jad):Prop:=t=jaQ n/\∃ g,jbS (InlD g) n
structure jre(L B:vM):Prop where
 node:∀ t∈L,∃ n,jbs t n/\∀ h∈jaL n,∃ t'∈L,h=shaB t'
 told:∀ t∈B,32<=t.size/\∃ t'∈L,∃ n,jbs t' n/\shaB t∈jaL n
theorem jwF:∀ (f:Nat) (l:vL),jap f l->jre (jav (jac (f+1) l)) (jaA (jas (jac f) l)):=by
 intro f;induction f with
 | zero =>
  intro l h;have e2:jas (jac 0) l=[]:=by have:=jbI h;unfold jas;rw[if_pos vO]
  have X:jav (jac (0+1) l)=[jaQ (jar (jac 0) l)]:=by
   show jav (.mk (jaQ (jar (jac 0) l)) (jas (jac 0) l))=_;rw[jav,e2];simp[jaA]
  have Z:=jd5 0 l h;rw[e2]at Z;rw[X,e2]
  refine⟨fun t o=>?_,fun t o=>by simp[jaA]at o⟩
  rw[bY]at o
  exact⟨_,⟨o,0,(good 0 l h).1⟩,fun x O=>by rw[Z]at O;cases O⟩
 | succ f ih =>
  intro l h;have X:jav (jac (f+1+1) l)=jaQ (jar (jac (f+1)) l) :: jaA (jas (jac (f+1)) l):=by
   show jav (.mk (jaQ (jar (jac (f+1)) l)) (jas (jac (f+1)) l))=_;rw[jav]
  have Z:=jd5 (f+1) l h;have E:jbs (jaQ (jar (jac (f+1)) l)) (jar (jac (f+1)) l):=⟨rfl,f+1,(good (f+1) l h).1⟩;have H:∀ {K:PT},K∈jas (jac (f+1)) l->∀ t∈jav K,t∈jav (jac (f+1+1) l):=fun {K} A t o=>by
   rw[X];exact bD _ (jbE.2 ⟨K,A,o⟩)
  have J:∀ {K:PT},K∈jas (jac (f+1)) l->∃ m,K=jac (f+1) m/\jap f m/\32<=K.text.size:=fun {K} A=>by
   obtain⟨g,m,e,h1,h2,h3⟩:=jid h A
   obtain rfl:f=g:=vO
   exact⟨m,h1,h2,h3⟩
  constructor
  ·intro t o
   rw[X]at o;rcases bM.1 o with rfl | o
   ·refine⟨_,E,fun x O=>?_⟩
    rw[Z]at O
    obtain⟨K,A,rfl⟩:=bK.1 O
    exact⟨_,H A _ (jbW K),rfl⟩
   ·obtain⟨K,A,o⟩:=jbE.1 o
    obtain⟨m,rfl,hm,_⟩:=J A
    obtain⟨n,h1,h2⟩:=(ih m hm).node t o
    exact⟨n,h1,fun x O=>by obtain⟨t',Q,e⟩:=h2 x O;exact⟨t',H A _ Q,e⟩⟩
  ·intro t o
   obtain⟨K,A,o⟩:=jbE.1 o
   obtain⟨m,rfl,hm,a0⟩:=J A
   have eK:jav (jac (f+1) m)=jaQ (jar (jac f) m) :: jaA (jas (jac f) m):=by
    show jav (.mk (jaQ (jar (jac f) m)) (jas (jac f) m))=_;rw[jav]
   rw[eK]at o;rcases bM.1 o with rfl | o
   ·refine⟨a0,_,?_,_,E,?_⟩
    ·rw[X];exact bG
    ·rw[Z];exact bK.2 ⟨_,A,rfl⟩
   ·obtain⟨h1,t',Q,n,h2,h3⟩:=(ih m hm).told t o
    exact⟨h1,t',H A _ Q,n,h2,h3⟩
theorem jfg(l:vM):(ja9 l).Nodup:=by
 unfold ja9
 have:∀ (l o:vM),o.Nodup->(l.foldl addF o).Nodup:=fun l=>by
  induction l with
  | nil=>exact fun _ h=>h
  | cons x r ih =>
   intro o h;rw[dM];refine ih _ ?_;unfold addF;split
   ·exact h
   ·rename_i hn
    have A:x ∉ o:=fun E=>hn ((jd6 o x).2 E);rw[fL]
    exact⟨h,by simp,fun a H b hb e=>by simp at hb;subst hb;subst e;exact A H⟩
 exact this l [] (by simp)
structure jzk(L:vM)(top:vB):Prop where
 head:L[0]?=some top
 nodup:L.Nodup
 node:∀ t∈L,∃ n,jbs t n/\∀ h∈jaL n,∃ t'∈L,h=shaB t'
 told:∀ (i:Nat) t,L[i+1]?=some t->32<=t.size/\∃ t'∈L,∃ n,jbs t' n/\shaB t∈jaL n
theorem jhN{l:vL}(h:jaz l=0):jzk (ja9 (jav (jaG l))) (jaG l).text:=by
 have J:=jwF 12 (jaP l) (jbD (jaD h));have Z:jav (jaG l)=(jaG l).text :: jaA (jas (jac 12) (jaP l)):=by
  show jav (.mk (jaQ (jar (jac 12) (jaP l))) (jas (jac 12) (jaP l)))=_;rw[jav];rfl
 have J:jre (jav (jaG l)) (jaA (jas (jac 12) (jaP l))):=J;have A:=jfg (jav (jaG l))
 refine⟨jjR _,A,fun t K=>?_,fun i t K=>?_⟩
 ·obtain⟨n,E,H⟩:=J.node t ((jaV _ _).1 K)
  exact⟨n,E,fun x hx=>by obtain⟨Q,o,e⟩:=H x hx;exact⟨Q,(jaV _ _).2 o,e⟩⟩
 ·have O:=(jaV _ _).1 (bI K)
  have X:t≠(jaG l).text:=fun e=>by
   have h0:=jjR (jaG l)
   obtain⟨E,e1⟩:=bP.1 K
   obtain⟨H,e2⟩:=bP.1 h0
   exact gV.1 A 0 (i+1) H E vO (e2.trans (e.symm.trans e1.symm))
  rw[Z]at O;rcases bM.1 O with e | O
  ·exact absurd e X
  ·obtain⟨E,Q,o,n,H⟩:=J.told t O
   exact⟨E,Q,(jaV _ _).2 o,n,H⟩
theorem jes(w:vW){t:vB}{n m:jad}(h:jbs t n)(k:jbs t m):n=m:=by
 obtain⟨e,f,o⟩:=h
 obtain⟨A,g,E⟩:=k
 exact jdl w o E (e.symm.trans A)
section
section mixr
variable {P:Program} {l:List Oper} {lr:Nat} {R:Act->vW->Prop}
def jek(R:Act->vW->Prop):Exit->Act->vW->Prop:=fun e a w=>e=.normal/\R a w
theorem jjZ:¬ LetsOut (jek R):=fun ⟨_,_,h,_⟩=>by cases h
theorem jhA{o:Oper}{a:Act}{w:vW}{K K':Act->vW->Prop}{Q:Exit->Act->vW->Prop}(hd:∀ c,o.op≠.defer c)(hK:∀ a w,K a w->K' a w)(h:o.wp P a w K (jek R)) :
  o.wpIn (Fence.wide.inRound lr) 0 P a w K' Q:=by
 unfold Oper.wp at h
 refine⟨fun _ _=>trivial,?_⟩
 rw[Oper.semAt_eq _ _ _ hd];generalize (execOp a.eval o).run P w=r at *;cases r with
 | ok x w' =>
  cases x with
  | value v=>exact hK _ _ h
  | skip=>exact hK _ _ h
  | defer d=>exact hK _ _ h
  | enter f args =>
   refine bB (fun A=>absurd A (by simp[Fence.wide])) (CallsIn.inRound lr (callsIn_wide.2 (Calls.mono h fun e H E=>?_)));cases e with
   | returned v=>exact hK _ _ E
   | panicked c=>cases E.1
   | outgrown=>exact absurd E jjZ
  | row r args=>exact bB (fun A=>absurd A (by simp[Fence.wide])) (fun c cs _=>let ⟨v,w',r,s⟩:=h c cs;⟨v,w',hK _ _ r,stepsIn_wide.2 s⟩)
  | round l f t a b=>exact h.elim
  | _=>exact h.elim
 | halt x w' =>
  cases x <;> first | exact h.elim | cases h.1
theorem jlJ(hnd:jkU l.toArray=true):∀ (A:Nat) (e:Array Bool) (a:Act) (w:vW),wpAny P .any l.toArray (jek R) A e a w->wpAnyIn (Fence.wide.inRound lr) 0 P .any l.toArray (jek R) A e a w:=by
 have J:∀ (i:Nat) (o:Oper),l.toArray[i]?=some o->∀ c,o.op≠.defer c:=by
  intro i o H c K;unfold jkU at hnd;rw[fH]at hnd
  have:=hnd o (by simpa using bI (by simpa using H))
  rw[K]at this;simp at this
 intro A;induction A with
 | zero=>exact fun _ _ _ h=>h
 | succ A ih =>
  intro e a w h
  refine⟨h.1,fun i O=>?_⟩
  have E:=h.2 i O;unfold wpOp at E;unfold wpOpIn;split
  ·rename_i H;simp only[H]at E;exact ih _ _ _ E
  ·rename_i o H
   simp only[H]at E;split
   ·rename_i hw;simp only[hw,if_true]at E
    rcases E with E | E
    ·exact jhA (J i o H) (fun a w h=>ih _ a w h) E
    ·exact absurd E.2 jjZ
   ·rename_i hw;simp only[hw]at E
    exact⟨fun _ _=>trivial,ih _ _ _ E⟩
theorem jlt(hm:P.follows .mixedOrders=true)(hnd:jkU l.toArray=true){id:Nat}{Q:Exit->Act->vW->Prop}{a:Act}{w:vW}(hq:∀ a w,R a w->Q .normal a w)
  (h:wpAny P .any l.toArray (jek R) l.toArray.size (Array.replicate l.toArray.size false) a w.drew):(Code.region id l.toArray true).wpIn (Fence.wide.inRound lr) 0 P Q a w:=
 wpIn_mono (wpIn_region_any hm (jlJ hnd _ _ _ _ h)) fun e a w ⟨o,A⟩=>by subst o;exact hq _ _ A
theorem jhB(ord hd:List Nat)(E:vW->vW->Prop)(hE:∀ w,E w w)(hT:∀ x y z,E x y->E y z->E x z){id:Nat}{Q:Exit->Act->vW->Prop}{a:Act}{w:vW}
  (hm:P.follows .mixedOrders=true) (hnd:jkU l.toArray=true) (hs:Region.noSelect l.toArray=true) (hl:ord.length=l.toArray.size)
  (h:Mix P l hd E (fun a w=>Q .normal a w) ord [] a w.drew):(Code.region id l.toArray true).wpIn (Fence.wide.inRound lr) 0 P Q a w:=by
 refine jlt (R:=fun a w=>Q .normal a w) hm hnd (fun _ _ h=>h) ?_;rw[<-hl]
 have:=jeF hE hT hs ord _ _ _ h
 unfold jbj at this;rw[hl]at this ⊢;exact jg2 hE (fun _ _ h=>⟨rfl,h⟩) _ _ _ _ this
theorem jnn{ops:Array Oper}{rest:List Oper}{o:Oper}{a:Act}{w:vW}{Q:Exit->Act->vW->Prop}{T:TypeId}{cs:List vV}(hrun:∀ w,(Instr.alloc T true (.tuple #[])).run P w=.ok (.pointer (some ⟨w.heap.size,0,none⟩)) (w.alloc (.cells cs.toArray T)))(hgd:o.guard=none)(ho:o.op=.alloc T)
  (h:∀ W,Blk W w.heap.size (.cells cs.toArray T)->Ext w W->wpListIn (Fence.wide.inRound lr) 0 P ops Q rest (a.put o.dst (.pointer (some ⟨w.heap.size,0,none⟩))) W):wpListIn (Fence.wide.inRound lr) 0 P ops Q (o :: rest) a w:=
 wpListIn_plain hgd fun K e=>jhA (R:=fun _ _=>False) (by rw[ho];intro c A;cases A) (fun _ _ h=>h) (jcd (v:=.pointer (some ⟨w.heap.size,0,none⟩)) (w':=w.alloc (.cells cs.toArray T)) (by simp only[execOp,ho,cA,hrun,Result.andThen,cO]) (e _ _ (h _ (Blk.new w _) ((ExtR w).alloc _))))
theorem jlu{ops:Array Oper}{rest:List Oper}{o:Oper}{a:Act}{w:vW}{Q:Exit->Act->vW->Prop}{T T2:TypeId}{x y:Operand}{b:Nat}{old vs:List vV}(hgd:o.guard=none)(ho:o.op=.store T x y)(hx:a.eval x=.pointer (some ⟨b,0,none⟩))(hy:a.eval y=.agg vs.toArray)
  (hB:Blk w b (.cells old.toArray T2)) (hl:old.length=vs.length) (hi:(P.info? T).map (·.size)=some vs.length) (h1:∀ v∈vs,v.oneCell'=true)
  (h:∀ W,Blk W b (.cells vs.toArray T2)->jae (fun z=>z=b) w W->wpListIn (Fence.wide.inRound lr) 0 P ops Q rest (a.put o.dst undef) W):wpListIn (Fence.wide.inRound lr) 0 P ops Q (o :: rest) a w:=by
 refine wpListIn_plain hgd fun K e=>jhA (R:=fun _ _=>False) (by rw[ho];intro c A;cases A) (fun _ _ h=>h) ?_;refine wp_store_mid T x y ho b 0 vs.toArray hx hy (by have:=jlm hB;rw[hl]at this;simpa using this) (by simpa using hi) (all_oneCell_toArray h1) (e _ _ (h _ ?_ (jae.oneSetCells b vs 0 w)))
 have:=Blk.setCells vs 0 w old hB vO
 rw[gG vO]at this;simpa using this
end mixr
end
