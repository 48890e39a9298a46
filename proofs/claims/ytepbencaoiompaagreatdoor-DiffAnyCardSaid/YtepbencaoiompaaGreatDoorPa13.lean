/- Lemmas; each is under no condition but those that it states. -/
import Derived.Test.YtepbencaoiompaaGreatDoorPa12
import Derived.Laws.Cover1
namespace Go.Proofs.YtepbencaoiompaaGreatDoor
set_option linter.unusedSimpArgs false
set_option linter.unusedVariables false
set_option maxRecDepth 100000
set_option maxHeartbeats 16000000
open Go Go.RowKit
abbrev Pair:=vB × vB
abbrev vL:=List Pair
def jei(k:vB):Bool:=decide (0 < k.size/\k.size<=6)
def jcT(k:vB):Bool:=decide (0 < k.size/\k.size<=80)
theorem ja1{s:vB}(h:s.size=0):s=⟨#[]⟩:=by
 obtain⟨⟨l⟩⟩:=s
 cases l with
 | nil=>rfl
 | cons x y=>exact absurd h (iA _)
theorem jhs(w:vW)(k:vB)(hs:k.size<=9223372036854775807):vQ 55 #[.string k] w fun e w'=>e=.returned (.bool (jei k))/\w'=w:=by
 by_cases h0:k.size=0
 ·have:=ja1 h0
  subst this;go_enter Tryz.func55,Tryz.ntmps55;go_wp2_with fail
  go_ret
  exact⟨rfl,rfl⟩
 ·have q:=ja4 (s:=k) vO
  by_cases h6:k.size<=6
  ·have c:(k.size:Int)<=6:=vO
   have e:jei k=true:=by unfold jei;simp;omega
   have E:=Hd e;clear e;go_enter Tryz.func55,Tryz.ntmps55;go_wp2_with fail
   go_ret
   exact⟨by rw[E.o];rfl,rfl⟩
  ·have c:¬(k.size:Int)<=6:=vO
   have e:jei k=false:=by unfold jei;simp;omega
   have E:=Hd e;clear e;go_enter Tryz.func55,Tryz.ntmps55;go_wp2_with fail
   go_ret
   exact⟨by rw[E.o];rfl,rfl⟩
theorem jg5(w:vW)(k:vB)(hs:k.size<=9223372036854775807):vQ 56 #[.string k] w fun e w'=>e=.returned (.bool (jcT k))/\w'=w:=by
 by_cases h0:k.size=0
 ·have:=ja1 h0
  subst this;go_enter Tryz.func56,Tryz.ntmps56;go_wp2_with fail
  go_ret
  exact⟨rfl,rfl⟩
 ·have q:=ja4 (s:=k) vO
  by_cases h6:k.size<=80
  ·have c:(k.size:Int)<=80:=vO
   have e:jcT k=true:=by unfold jcT;simp;omega
   have E:=Hd e;clear e;go_enter Tryz.func56,Tryz.ntmps56;go_wp2_with fail
   go_ret
   exact⟨by rw[E.o];rfl,rfl⟩
  ·have c:¬(k.size:Int)<=80:=vO
   have e:jcT k=false:=by unfold jcT;simp;omega
   have E:=Hd e;clear e;go_enter Tryz.func56,Tryz.ntmps56;go_wp2_with fail
   go_ret
   exact⟨by rw[E.o];rfl,rfl⟩
def RdP(w:vW)(v:vV)(xs:vL):Prop:=
 (∃ a c,v=.slice a 0 c/\xs=[])\/∃ b o c,v=.slice (some ⟨b,o,none⟩) xs.length c/\b < w.heap.size/\xs.length<=c/\∀ (j:Nat) x,xs[j]?=some x->w.cell? ⟨b,o+j * 2,none⟩=some (.string x.1)/\w.cell? ⟨b,o+j * 2+1,none⟩=some (.string x.2)
theorem RdP.ext{w w':vW}{v:vV}{xs:vL}(h:RdP w v xs)(k:Ext w w'):RdP w' v xs:=by
 rcases h with h |⟨b,o,c,h1,h2,h3,h4⟩
 ·exact .inl h
 ·exact .inr ⟨b,o,c,h1,bR h2 k.size,h3,fun j x e=>⟨jaa (h4 j x e).1 k,jaa (h4 j x e).2 k⟩⟩
theorem RdP.sl{w:vW}{v:vV}{xs:vL}(h:RdP w v xs):∃ a c,v=.slice a xs.length c:=by
 rcases h with⟨a,c,h1,h2⟩ |⟨b,o,c,h1,_⟩
 ·exact⟨a,c,by rw[h1,h2];rfl⟩
 ·exact⟨_,c,h1⟩
def Pair.V(p:Pair):vV:=.agg #[.string p.1,.string p.2]
def badN(l:vL)(i:Nat):Bool := !jei (l.getD i (⟨#[]⟩,⟨#[]⟩)).1 || !jcT (l.getD i (⟨#[]⟩,⟨#[]⟩)).2 ||(decide (0 < i) && !jb0 (l.getD (i - 1) (⟨#[]⟩,⟨#[]⟩)).1 (l.getD i (⟨#[]⟩,⟨#[]⟩)).1)
def jaD(l:vL):Int:=if (List.range l.length).any (badN l)then 1 else if 40 < l.length then 12 else 0
def jzv(w:vW)(l:vL)(i:vV)(wr:vW):Prop:=∃ k:Nat,k<=l.length/\i=.int .i64 k/\Ext w wr/\(List.range k).any (badN l)=false
theorem jhi(w:vW)(v:vV)(l:vL)(hv:RdP w v l)(hn:l.length<=9223372036854775807)(hs:∀ p∈l,p.1.size<=9223372036854775807/\p.2.size<=9223372036854775807):vR 54 #[v] w (.int .i64 (jaD l)):=by
 obtain⟨a,c,b2⟩:=hv.sl
 have HV:=Hd hv;have HS:=Hd hs;subst b2;clear hv hs;go_enter Tryz.func54,Tryz.ntmps54;go_wp2_with fail
 go_loopw [7] (fun i wr=>jzv w l i wr) (fun i _=>l.length - (intOf i).toNat)
 case atStart=>exact⟨0,by omega,rfl,ExtR w,rfl⟩
 case round =>
  obtain⟨k,hk,rfl,hE,a6⟩:=hrel
  have HE:=Hd hE;have a1:=Hd a6;clear hE a6
  by_cases hlt:k < l.length
  ·rcases HV.o with⟨_,_,_,h0⟩ |⟨b,o,c',hh,hb,hc,hcell⟩
   ·rw[h0]at hlt;cases hlt
   cases hh
   obtain⟨p,hp⟩:∃ p,l[k]?=some p:=⟨_,bA hlt⟩
   obtain⟨q1,q2⟩:=hcell k p hp
   have q1:=jaa q1 HE.o;have q2:=jaa q2 HE.o;have b1:(k:Int) < (l.length:Int):=vO
   obtain⟨x,y⟩:=p
   simp only at q1 q2;have K:l.getD k (⟨#[]⟩,⟨#[]⟩)=(x,y):=by rw[bE,hp];rfl
   have Z:=HS.o (x,y) (bJ hp);have a5:=Hd Z.1;have a7:=Hd Z.2;have a2:(wr.alloc (.cells #[.string x,.string y] 53)).cell? ⟨wr.heap.size,0,none⟩=some (.string x):=(Blk.new wr _).cell vF;have a3:(wr.alloc (.cells #[.string x,.string y] 53)).cell? ⟨wr.heap.size,1,none⟩=some (.string y):=(Blk.new wr _).cell vF;have Q0:=Hd a2;have Q1:=Hd a3;have A:badN l k=true->jaD l=1:=fun h=>by
    unfold jaD;rw[if_pos (fQ.2 ⟨k,dR.2 hlt,h⟩)]
   have H:badN l k=false->(List.range (k+1)).any (badN l)=false:=fun h=>by
    rw[gA,List.any_append,a1.o];simp[h]
   cases hk1:jei x with
   | false =>
    have X:=Hd (A (by unfold badN;rw[K,hk1];rfl));have HK:=Hd hk1;clear hk1 K Z a2 a3 A H hcell hp;go_wp2_with fail
    refine jan (List.range 25) Ext ExtR ExtT vY vY vY ?_;simp only[List.range,List.range.loop]
    refine vK ?_
    refine qKL ⟨wr.heap.size,0,none⟩ _ rfl (fun O q=>jac Tryz.uStr rfl (jaa (by exact Q0.o) q)) ?_;refine vS ?_;refine qKC _ 55 #[.string x] (.bool false) rfl (fun w1=>jaG (vX 55) vY) (fun w1 J=>(jhs w1 x (by have:=a5.o;omega)).mono (fun e O ⟨J,q⟩=>⟨by rw[J,HK.o],q ▸ ExtR w1⟩)) ?_;refine vS ?_;iterate 2 refine vK ?_
    iterate 4 (refine qKS _ rfl ?_;refine vS ?_)
    iterate 2 refine vK ?_
    iterate 3 (refine qKS _ rfl ?_;refine vS ?_)
    iterate 9 (refine qKS _ rfl ?_;refine vS ?_)
    (refine qKS _ rfl ?_;refine vS ?_)
    refine vK ?_
    refine qKE (fun w3 he=>?_);have Q:=Hd (((HE.o.alloc _).trans (jaq _)).trans he);clear he;go_wp2_with fail
    go_ret
    exact⟨by rw[X.o];rfl,Q.o⟩
   | true =>
    cases hv1:jcT y with
    | false =>
     have X:=Hd (A (by unfold badN;rw[K,hk1,hv1];rfl));have HK:=Hd hk1;have a4:=Hd hv1;clear hk1 hv1 K Z a2 a3 A H hcell hp;go_wp2_with fail
     refine jan (List.range 25) Ext ExtR ExtT vY vY vY ?_;simp only[List.range,List.range.loop]
     refine vK ?_
     refine qKL ⟨wr.heap.size,0,none⟩ _ rfl (fun O q=>jac Tryz.uStr rfl (jaa (by exact Q0.o) q)) ?_;refine vS ?_;refine qKC _ 55 #[.string x] (.bool true) rfl (fun w1=>jaG (vX 55) vY) (fun w1 J=>(jhs w1 x (by have:=a5.o;omega)).mono (fun e O ⟨J,q⟩=>⟨by rw[J,HK.o],q ▸ ExtR w1⟩)) ?_;refine vS ?_;iterate 3 refine vK ?_
     refine qKL ⟨wr.heap.size,1,none⟩ _ rfl (fun O q=>jac Tryz.uStr rfl (jaa (by exact Q1.o) q)) ?_;refine vS ?_;refine qKC _ 56 #[.string y] (.bool false) rfl (fun w1=>jaG (vX 56) vY) (fun w1 J=>(jg5 w1 y (by have:=a7.o;omega)).mono (fun e O ⟨J,q⟩=>⟨by rw[J,a4.o],q ▸ ExtR w1⟩)) ?_;refine vS ?_;iterate 3 refine vK ?_
     iterate 3 (refine qKS _ rfl ?_;refine vS ?_)
     iterate 9 (refine qKS _ rfl ?_;refine vS ?_)
     (refine qKS _ rfl ?_;refine vS ?_)
     refine vK ?_
     refine qKE (fun w3 he=>?_);have Q:=Hd (((HE.o.alloc _).trans (jaq _)).trans he);clear he;go_wp2_with fail
     go_ret
     exact⟨by rw[X.o];rfl,Q.o⟩
    | true =>
     by_cases hk0:k=0
     ·have a0:=Hd (H (by unfold badN;rw[K,hk1,hv1,hk0];rfl))
      subst hk0;rw[Nat.zero_mul,gV]at q1 q2;have HK:=Hd hk1;have a4:=Hd hv1;clear hk1 hv1 K Z a2 a3 A H hcell hp;go_wp2_with fail
      refine jan (List.range 25) Ext ExtR ExtT vY vY vY ?_;simp only[List.range,List.range.loop]
      refine vK ?_
      refine qKL ⟨wr.heap.size,0,none⟩ _ rfl (fun O q=>jac Tryz.uStr rfl (jaa (by exact Q0.o) q)) ?_;refine vS ?_;refine qKC _ 55 #[.string x] (.bool true) rfl (fun w1=>jaG (vX 55) vY) (fun w1 J=>(jhs w1 x (by have:=a5.o;omega)).mono (fun e O ⟨J,q⟩=>⟨by rw[J,HK.o],q ▸ ExtR w1⟩)) ?_;refine vS ?_;iterate 3 refine vK ?_
      refine qKL ⟨wr.heap.size,1,none⟩ _ rfl (fun O q=>jac Tryz.uStr rfl (jaa (by exact Q1.o) q)) ?_;refine vS ?_;refine qKC _ 56 #[.string y] (.bool true) rfl (fun w1=>jaG (vX 56) vY) (fun w1 J=>(jg5 w1 y (by have:=a7.o;omega)).mono (fun e O ⟨J,q⟩=>⟨by rw[J,a4.o],q ▸ ExtR w1⟩)) ?_;refine vS ?_;iterate 6 refine vK ?_
      iterate 9 (refine qKS _ rfl ?_;refine vS ?_)
      iterate 2 refine vK ?_
      refine qKE (fun w3 he=>?_);have Q:=Hd (((HE.o.alloc _).trans (jaq _)).trans he);clear he;go_wp2_with fail
      go_roundw
      case rel=>exact⟨0+1,by omega,by go_num,Q.o,a0.o⟩
      case measure=>exact vJ
     ·obtain⟨pp,a8⟩:∃ p,l[k - 1]?=some p:=⟨_,bA vO⟩
      obtain⟨z,zy⟩:=pp
      have b0:=jaa (jaa (hcell (k - 1) (z,zy) a8).1 HE.o) ((ExtR wr).alloc (.cells #[.string x,.string y] 53));have QP:=Hd b0;have a9:l.getD (k - 1) (⟨#[]⟩,⟨#[]⟩)=(z,zy):=by rw[bE,a8];rfl
      have c0:(0:Int) < (k:Int):=vO
      have d0:0 < k:=vO
      have c1:(0:Int)<=(k:Int) - 1:=vO
      have c2:(k:Int) - 1 < (l.length:Int):=vO
      have c3:((k:Int) - 1).toNat=k - 1:=vO
      have HK:=Hd hk1;have a4:=Hd hv1;cases hls:Op.bytesLess z.toList x.toList with
      | false =>
       have X:=Hd (A (by unfold badN jb0;rw[K,hk1,hv1,a9];simp only;rw[hls];simp;omega));clear hk1 hv1 K Z a2 a3 A H hcell hp hk0 a8 b0 a9;go_wp2_with fail
       refine jan (List.range 25) Ext ExtR ExtT vY vY vY ?_;simp only[List.range,List.range.loop]
       refine vK ?_
       refine qKL ⟨wr.heap.size,0,none⟩ _ rfl (fun O q=>jac Tryz.uStr rfl (jaa (by exact Q0.o) q)) ?_;refine vS ?_;refine qKC _ 55 #[.string x] (.bool true) rfl (fun w1=>jaG (vX 55) vY) (fun w1 J=>(jhs w1 x (by have:=a5.o;omega)).mono (fun e O ⟨J,q⟩=>⟨by rw[J,HK.o],q ▸ ExtR w1⟩)) ?_;refine vS ?_;iterate 3 refine vK ?_
       refine qKL ⟨wr.heap.size,1,none⟩ _ rfl (fun O q=>jac Tryz.uStr rfl (jaa (by exact Q1.o) q)) ?_;refine vS ?_;refine qKC _ 56 #[.string y] (.bool true) rfl (fun w1=>jaG (vX 56) vY) (fun w1 J=>(jg5 w1 y (by have:=a7.o;omega)).mono (fun e O ⟨J,q⟩=>⟨by rw[J,a4.o],q ▸ ExtR w1⟩)) ?_;refine vS ?_;iterate 11 refine vK ?_
       refine qKL ⟨b,o+(k - 1) * 2,none⟩ _ rfl (fun O q=>jac Tryz.uStr rfl (jaa (by exact QP.o) q)) ?_;refine vS ?_
       refine vK ?_
       refine qKL ⟨wr.heap.size,0,none⟩ _ rfl (fun O q=>jac Tryz.uStr rfl (jaa (by exact Q0.o) q)) ?_;refine vS ?_;iterate 3 refine vK ?_
       refine qKE (fun w3 he=>?_);have Q:=Hd (((HE.o.alloc _).trans (jaq _)).trans he);clear he;go_wp2_with fail
       go_ret
       exact⟨by rw[X.o];rfl,Q.o⟩
      | true =>
       have a0:=Hd (H (by unfold badN jb0;rw[K,hk1,hv1,a9];simp only;rw[hls];simp));clear hk1 hv1 K Z a2 a3 A H hcell hp hk0 a8 b0 a9;go_wp2_with fail
       refine jan (List.range 25) Ext ExtR ExtT vY vY vY ?_;simp only[List.range,List.range.loop]
       refine vK ?_
       refine qKL ⟨wr.heap.size,0,none⟩ _ rfl (fun O q=>jac Tryz.uStr rfl (jaa (by exact Q0.o) q)) ?_;refine vS ?_;refine qKC _ 55 #[.string x] (.bool true) rfl (fun w1=>jaG (vX 55) vY) (fun w1 J=>(jhs w1 x (by have:=a5.o;omega)).mono (fun e O ⟨J,q⟩=>⟨by rw[J,HK.o],q ▸ ExtR w1⟩)) ?_;refine vS ?_;iterate 3 refine vK ?_
       refine qKL ⟨wr.heap.size,1,none⟩ _ rfl (fun O q=>jac Tryz.uStr rfl (jaa (by exact Q1.o) q)) ?_;refine vS ?_;refine qKC _ 56 #[.string y] (.bool true) rfl (fun w1=>jaG (vX 56) vY) (fun w1 J=>(jg5 w1 y (by have:=a7.o;omega)).mono (fun e O ⟨J,q⟩=>⟨by rw[J,a4.o],q ▸ ExtR w1⟩)) ?_;refine vS ?_;iterate 11 refine vK ?_
       refine qKL ⟨b,o+(k - 1) * 2,none⟩ _ rfl (fun O q=>jac Tryz.uStr rfl (jaa (by exact QP.o) q)) ?_;refine vS ?_
       refine vK ?_
       refine qKL ⟨wr.heap.size,0,none⟩ _ rfl (fun O q=>jac Tryz.uStr rfl (jaa (by exact Q0.o) q)) ?_;refine vS ?_;iterate 3 refine vK ?_
       refine qKE (fun w3 he=>?_);have Q:=Hd (((HE.o.alloc _).trans (jaq _)).trans he);clear he;go_wp2_with fail
       go_roundw
       case rel=>exact⟨k+1,by omega,by go_num,Q.o,a0.o⟩
       case measure=>exact vJ
  ·have b3:k=l.length:=vO
   subst b3
   by_cases h40:40 < l.length
   ·have c4:(40:Int) < (l.length:Int):=vO
    have e:jaD l=12:=by unfold jaD;rw[if_neg (by rw[a1.o];simp),if_pos h40]
    have E:=Hd e;clear e;go_wp2_with fail
    go_ret
    exact⟨by rw[E.o];rfl,HE.o⟩
   ·have c4:¬(40:Int) < (l.length:Int):=vO
    have e:jaD l=0:=by unfold jaD;rw[if_neg (by rw[a1.o];simp),if_neg h40]
    have E:=Hd e;clear e;go_wp2_with fail
    go_ret
    exact⟨by rw[E.o];rfl,HE.o⟩
section
section mixd
variable {P:Program} {l:List Oper} {E D:vW->vW->Prop}
def jcG(P:Program)(ops:Array Oper)(E D:vW->vW->Prop)(w:vW)(o:Oper)(v:vV)(a:Act):Prop:=
 (Region.wanted o (yielded ops a.tmps)=true/\∀ w1,D w w1->joq P E w1 v ((execOp a.eval o).run P w1))\/(Region.wanted o (yielded ops a.tmps)=false/\v=undef)
theorem jcG.of_same{ops:Array Oper}{w:vW}{o:Oper}{v:vV}{a a':Act}(hy:jcG P ops E D w o v a)(he:execOp a'.eval o=execOp a.eval o)
  (hw:Region.wanted o (yielded ops a'.tmps)=Region.wanted o (yielded ops a.tmps)):jcG P ops E D w o v a':=by
 unfold jcG at *;rw[he,hw];exact hy
theorem jcG.st(hT:∀ x y z,D x y->D y z->D x z){ops:Array Oper}{w w1:vW}{o:Oper}{v:vV}{a:Act}(hy:jcG P ops E D w o v a)(h:D w w1):jcG P ops E D w1 o v a:=
 hy.imp (fun ⟨e,q⟩=>⟨e,fun A H=>q A (hT _ _ _ h H)⟩) id
theorem jcG.wpOp{ops:Array Oper}{i:Nat}{o:Oper}{v:vV}{a:Act}{w:vW}(hi:ops[i]?=some o)(hy:jcG P ops E D w o v a){K:Act->vW->Prop}{w1:vW}(A:D w w1)(hE:∀ w,E w w)
  (h:∀ w',E w1 w'->K (a.put o.dst v) w'):wpOp P ops NoQ i K a w1:=by
 unfold Go.wpOp;simp only[hi];rcases hy with⟨hw,hv⟩ |⟨hw,rfl⟩
 ·simp only[hw,if_true]
  refine .inl ?_;have q:=hv w1 A;unfold Oper.wp;generalize (execOp a.eval o).run P w1=r at *;cases r with
  | ok n w' =>
   cases n <;> simp only[joq]at q <;> simp only[Oper.upon]
   case value u=>obtain⟨z,H⟩:=q;rw[z,H];exact h _ (hE w1)
   case skip=>obtain⟨z,H⟩:=q;rw[z, <-H];exact h _ (hE w1)
   case enter f args =>
    obtain⟨z,J⟩:=q;rw[z]
    exact J.mono fun e O ⟨Q,A⟩=>by subst Q;exact h _ A
  | halt x w'=>simp only[joq]at q
 ·simp only[hw,cO,if_false];exact h _ (hE w1)
def anyD(P:Program)(ops:Array Oper)(hd:List Nat)(E D:vW->vW->Prop)(Q:Act->vW->Prop):Nat->Array Bool->Act->vW->Prop
 | 0,listed,a,w=>∀ w1,E w w1->Region.ready .any ops listed=[]/\Q a w1
 | fuel+1,listed,a,w=>∀ w1,E w w1 ->
  (Region.ready .any ops listed=[]->Q a w1) /\
  ∀ i∈Region.ready .any ops listed,wpOp P ops NoQ i (fun a' w'=>D w1 w'/\(i ∉ hd->E w1 w')/\anyD P ops hd E D Q fuel (listed.setIfInBounds i true) a' w') a w1
theorem jrQ(hT:∀ x y z,E x y->E y z->E x z){ops:Array Oper}{hd:List Nat}{Q:Act->vW->Prop}:∀ (fuel:Nat) (listed:Array Bool) (a:Act) (w w1:vW),anyD P ops hd E D Q fuel listed a w->E w w1->anyD P ops hd E D Q fuel listed a w1
 | 0,_,_,_,_,h,he=>fun e o=>h e (hT _ _ _ he o)
 | _+1,_,_,_,_,h,he=>fun e o=>h e (hT _ _ _ he o)
theorem jjA(hE:∀ w,E w w){ops:Array Oper}{hd:List Nat}{Q:Act->vW->Prop}{Q':Exit->Act->vW->Prop}(hQ:∀ a w,Q a w->Q' .normal a w) :
  ∀ (fuel:Nat) (listed:Array Bool) (a:Act) (w:vW),anyD P ops hd E D Q fuel listed a w->wpAny P .any ops Q' fuel listed a w
 | 0,_,_,w,h=>let ⟨h1,h2⟩:=h w (hE w);⟨h1,hQ _ _ h2⟩
 | fuel+1,_,_,w,h=>let ⟨h1,h2⟩:=h w (hE w)
  ⟨fun e=>hQ _ _ (h1 e),fun i o=>jij (fun q w' ⟨_,_,z⟩=>jjA hE hQ fuel _ q w' z) (h2 i o)⟩
theorem jqw(hE:∀ w,E w w)(hT:∀ x y z,E x y->E y z->E x z)(hD:∀ x y z,D x y->D y z->D x z)(hED:∀ x y,E x y->D x y){ops:Array Oper}{hd:List Nat}{Q:Act->vW->Prop}{i:Nat}{oi:Oper}{v:vV}(hi:ops[i]?=some oi)(hsel:∀ (j:Nat) (o:Oper) cs b,ops[j]?=some o->o.op≠.select cs b) :
  ∀ (A:Nat) (q:Array Bool) (a:Act) (w:vW),
   (∀ j oj,ops[j]?=some oj->j≠i->q.getD j true=false->(∀ e∈oj.after,Region.binds .any e=true->e.on≠i)->oi.apart ops oj=true) ->
   i∈Region.ready .any ops q->jcG P ops E D w oi v a ->
   anyD P ops hd E D Q A (q.setIfInBounds i true) (a.put oi.dst v) w->anyD P ops hd E D Q (A+1) q a w:=by
 intro A;induction A with
 | zero =>
  intro q a w _ hr hy H w1 O
  refine⟨fun h=>(by rw[h]at hr;cases hr),fun j hj=>?_⟩
  by_cases hji:j=i
  ·subst hji;exact hy.wpOp hi (hED _ _ O) hE (fun w' J=>⟨hED _ _ J,fun _=>J,jrQ hT _ _ _ _ _ H (hT _ _ _ O J)⟩)
  ·have:=ready_mono hj hji
   rw[(H w1 O).1]at this;cases this
 | succ A ih =>
  intro q a w K hr hy H w1 O
  refine⟨fun h=>(by rw[h]at hr;cases hr),fun j hj=>?_⟩
  by_cases hji:j=i
  ·subst hji;exact hy.wpOp hi (hED _ _ O) hE (fun w' J=>⟨hED _ _ J,fun _=>J,jrQ hT _ _ _ _ _ H (hT _ _ _ O J)⟩)
  ·have J:=(H w1 O).2 j (ready_mono hj hji)
   obtain⟨Z,oj,a0,a3⟩:=mem_ready.1 hj
   have a4:∀ e∈oj.after,Region.binds .any e=true->e.on≠i:=fun e O hb a6=>by
    have J:=a3 e O hb;have h0:=(mem_ready.1 hr).1;rw[a6]at J;rcases fO i q.size with h' | h'
    ·simp[h']at h0 J;rw[h0]at J;cases J
    ·simp[gH h']at J
   have h2:=jfF (v:=v) (Y:=fun a'=>execOp a'.eval oi=execOp a.eval oi/\Region.wanted oi (yielded ops a'.tmps)=Region.wanted oi (yielded ops a.tmps)) a0 (K j oj a0 hji Z a4) (fun cs b=>hsel i oi cs b hi) (fun cs b=>hsel j oj cs b a0)
    (fun a1 a2 h e1 e2=>⟨e1.trans h.1,e2.trans h.2⟩) ⟨rfl,rfl⟩ J
   have X:∀ k ok,ops[k]?=some ok->k≠i->(q.setIfInBounds j true).getD k true=false ->
     (∀ e∈ok.after,Region.binds .any e=true->e.on≠i)->oi.apart ops ok=true:=fun k ok hk a7 a5 a8=>by
    refine K k ok hk a7 ?_ a8
    by_cases hjk:j=k
    ·subst hjk;exact Z
    ·rw[getD_set_ne true hjk]at a5;exact a5
   refine wpOp_mono (fun a' w' h3=>⟨h3.2.1,h3.2.2.1,?_⟩) h2
   obtain⟨⟨e1,e2⟩,h4,_,h5⟩:=h3
   have a9:jcG P ops E D w' oi v a':=(hy.of_same e1 e2).st hD (hD _ _ _ (hED _ _ O) h4);refine ih (q.setIfInBounds j true) a' w' X (ready_mono hr (Ne.symm hji)) a9 ?_;rw[gQ _ _ hji];exact h5
def MixD(P:Program)(l:List Oper)(hd:List Nat)(E D:vW->vW->Prop)(Q:Act->vW->Prop):List Nat->List Nat->Act->vW->Prop
 | [],done,a,w=>∀ w1,E w w1->Region.ready .any l.toArray (jbi l done)=[]/\Q a w1
 | k :: ord,done,a,w =>
  (k∈Region.ready .any l.toArray (jbi l done)/\Region.free .any l.toArray (jbi l done) k=true/\∃ o v,l[k]?=some o/\jcG P l.toArray E D w o v a/\MixD P l hd E D Q ord (k :: done) (a.put o.dst v) w) \/
  (Region.ready .any l.toArray (jbi l done)=[k]/\k∈hd/\∀ w1,E w w1->wpOp P l.toArray NoQ k (fun a' w'=>D w1 w'/\MixD P l hd E D Q ord (k :: done) a' w') a w1)
theorem jf8(hE:∀ w,E w w)(hT:∀ x y z,E x y->E y z->E x z)(hD:∀ x y z,D x y->D y z->D x z)(hED:∀ x y,E x y->D x y)(hs:Region.noSelect l.toArray=true){hd:List Nat}{Q:Act->vW->Prop}:∀ (ord:List Nat) (done:List Nat) (a:Act) (w:vW),
  MixD P l hd E D Q ord done a w->anyD P l.toArray hd E D Q ord.length (jbi l done) a w
 | [],_,_,_,h=>h
 | k :: ord,done,a,w,h=>by
  rcases h with⟨hr,hf,o,v,ho,hy,h⟩ |⟨hr,hk,h⟩
  ·have e:l.toArray[k]?=some o:=by simpa using ho
   exact jqw hE hT hD hED e (iD hs) ord.length (jbi l done) a w (iQ e hf) hr hy (jf8 hE hT hD hED hs ord _ _ _ h)
  ·intro w1 J
   refine⟨fun q=>(by rw[hr]at q;cases q),fun i A=>?_⟩
   rw[hr]at A;obtain rfl:i=k:=by simpa using A
   exact wpOp_mono (fun O w' H=>⟨H.1,fun K=>absurd hk K,jf8 hE hT hD hED hs ord _ _ _ H.2⟩) (h w1 J)
theorem ja5(ord hd:List Nat)(E D:vW->vW->Prop)(hE:∀ w,E w w)(hT:∀ x y z,E x y->E y z->E x z)(hD:∀ x y z,D x y->D y z->D x z)(hED:∀ x y,E x y->D x y){id:Nat}{Q:Exit->Act->vW->Prop}{a:Act}{w:vW}
  (hm:P.follows .mixedOrders=true) (hs:Region.noSelect l.toArray=true) (hl:ord.length=l.toArray.size)
  (h:MixD P l hd E D (fun a w=>Q .normal a w) ord [] a w.drew):(Code.region id l.toArray true).wp P Q a w:=by
 refine wp_region_any hm ?_;rw[<-hl]
 have:=jf8 hE hT hD hED hs ord _ _ _ h
 unfold jbi at this;rw[hl]at this ⊢;exact jjA hE (fun _ _ h=>h) _ _ _ _ this
variable {Q:Act->vW->Prop} {ord done hd:List Nat} {a:Act} {w:vW} {k:Nat} {o:Oper}
def headD(l:List Oper)(done:List Nat)(k:Nat):Bool:=(Region.ready .any l.toArray (jbi l done)).contains k && Region.free .any l.toArray (jbi l done) k
def jrO(l:List Oper)(hd done:List Nat)(k:Nat):Bool:=Region.ready .any l.toArray (jbi l done) == [k] && hd.contains k
theorem jtp(o:Oper)(ho:l[k]?=some o)(hk:headD l done k=true)(hw:Region.wanted o (yielded l.toArray a.tmps)=true)(hq:jj1 o.op=true)
  (h:∀ K:Act->Prop,(∀ a',MixD P l hd E D Q ord (k :: done) a' w->K a')->o.quiet P a (fun _=>True) K):MixD P l hd E D Q (k :: ord) done a w:=by
 simp only[headD,cI,cZ]at hk
 obtain⟨v,z,A⟩:=h _ (fun _ h=>h)
 have q:jcG P l.toArray E D w o v a:=by
  refine .inl ⟨hw,fun w1 _=>?_⟩;have e:=z w1 trivial;unfold Oper.quietAt at e;have H:=fun f args w'=>jlo (ρ:=a.eval) hq P w1 w' f args;generalize (execOp a.eval o).run P w1=r at *;cases r with
  | ok n w'=>cases n <;> simp only[Oper.quietUpon]at e <;> first | exact e | exact absurd rfl (H _ _ _)
  | halt x w'=>simp only[Oper.quietUpon]at e
 exact .inl ⟨hk.1,hk.2,o,v,ho,q,A⟩
theorem jpB(o:Oper)(v:vV)(ho:l[k]?=some o)(hk:headD l done k=true)(hw:Region.wanted o (yielded l.toArray a.tmps)=true)
  (hv:∀ w1,D w w1->(execOp a.eval o).run P w1=.ok (.value v) w1) (h:MixD P l hd E D Q ord (k :: done) (a.put o.dst v) w):MixD P l hd E D Q (k :: ord) done a w:=by
 simp only[headD,cI,cZ]at hk;exact .inl ⟨hk.1,hk.2,o,v,ho,.inl ⟨hw,fun w1 e=>by rw[hv w1 e];exact⟨rfl,rfl⟩⟩,h⟩
theorem qDV(o:Oper)(v:vV)(ho:l[k]?=some o)(hv:∀ w1,D w w1->(execOp a.eval o).run P w1=.ok (.value v) w1)(h:MixD P l hd E D Q ord (k :: done) (a.put o.dst v) w)(hk:headD l done k=true:=by kernel_rfl)(hw:Region.wanted o (yielded l.toArray a.tmps)=true:=by rfl):MixD P l hd E D Q (k :: ord) done a w:=jpB o v ho hk hw hv h
theorem jto(p:Addr)(v:vV){t:TypeId}{x:Operand}{d:Option Tmp}{ty:TypeId}{pos:String}{af:Array Edge}{g:Option (Nat × Bool)}(ho:l[k]?=some ⟨d,.load t x,ty,pos,af,g⟩)(hk:headD l done k=true)
  (hw:Region.wanted ⟨d,.load t x,ty,pos,af,g⟩ (yielded l.toArray a.tmps)=true) (hx:a.eval x=.pointer (some p))
  (hv:∀ w1,D w w1->(Instr.loadAt t (.pointer (some p))).run P w1=.ok v w1) (h:MixD P l hd E D Q ord (k :: done) (a.put d v) w):MixD P l hd E D Q (k :: ord) done a w:=by
 refine jpB _ v ho hk hw (fun w1 e=>?_) h
 have:=hv w1 e
 simp only[execOp,hx,bS,this,Result.andThen,cJ]
theorem qDL{t:TypeId}{x:Operand}{d:Option Tmp}{ty:TypeId}{pos:String}{af:Array Edge}{g:Option (Nat × Bool)}(p:Addr)(v:vV)(ho:l[k]?=some ⟨d,.load t x,ty,pos,af,g⟩)(hv:∀ w1,D w w1->(Instr.loadAt t (.pointer (some p))).run P w1=.ok v w1)(h:MixD P l hd E D Q ord (k :: done) (a.put d v) w)(hk:headD l done k=true:=by kernel_rfl)(hw:Region.wanted ⟨d,.load t x,ty,pos,af,g⟩ (yielded l.toArray a.tmps)=true:=by rfl)(hx:a.eval x=.pointer (some p):=by rfl):MixD P l hd E D Q (k :: ord) done a w:=jto p v ho hk hw hx hv h
theorem jtm(o:Oper)(f:FuncId)(args:Array vV)(v:vV)(ho:l[k]?=some o)(hk:headD l done k=true)(hw:Region.wanted o (yielded l.toArray a.tmps)=true)
  (hv:∀ w1,(execOp a.eval o).run P w1=.ok (.enter f args) w1) (hc:∀ w1,D w w1->Calls P f args w1 (fun e z=>e=.returned v/\E w1 z))
  (h:MixD P l hd E D Q ord (k :: done) (a.put o.dst v) w):MixD P l hd E D Q (k :: ord) done a w:=by
 simp only[headD,cI,cZ]at hk;exact .inl ⟨hk.1,hk.2,o,v,ho,.inl ⟨hw,fun w1 q=>by rw[hv w1];exact⟨rfl,hc w1 q⟩⟩,h⟩
theorem jtn(o:Oper)(ho:l[k]?=some o)(hk:jrO l hd done k=true)(hw:Region.wanted o (yielded l.toArray a.tmps)=true)
  (h:∀ w1,E w w1->∀ K:Act->vW->Prop,(∀ a' w',D w1 w'->MixD P l hd E D Q ord (k :: done) a' w'->K a' w')->o.wp P a w1 K NoQ):MixD P l hd E D Q (k :: ord) done a w:=by
 simp only[jrO,cI,beq_iff_eq,cZ]at hk;refine .inr ⟨hk.1,hk.2,fun w1 q=>?_⟩;unfold wpOp;have e:l.toArray[k]?=some o:=by simpa using ho
 simp only[e,hw,if_true];exact .inl (h w1 q _ (fun _ _ z A=>⟨z,A⟩))
theorem qDH(o:Oper)(ho:l[k]?=some o)(h:∀ w1,E w w1->∀ K:Act->vW->Prop,(∀ a' w',D w1 w'->MixD P l hd E D Q ord (k :: done) a' w'->K a' w')->o.wp P a w1 K NoQ)(hk:jrO l hd done k=true:=by kernel_rfl)(hw:Region.wanted o (yielded l.toArray a.tmps)=true:=by rfl):MixD P l hd E D Q (k :: ord) done a w:=jtn o ho hk hw h
theorem jcA(hk:(Region.ready .any l.toArray (jbi l done)).isEmpty=true)(h:∀ w1,E w w1->Q a w1):MixD P l hd E D Q [] done a w:=
 fun w1 e=>⟨by simpa using hk,h w1 e⟩
end mixd
end
def jcl(xs:vL):List vV:=xs.flatMap fun p=>[.string p.1,.string p.2]
theorem jdQ(xs:vL):(jcl xs).length=xs.length * 2:=by
 induction xs with
 | nil=>rfl
 | cons x r ih=>unfold jcl at *;rw[cG,bF,ih];simp;omega
theorem jbk(xs ys:vL):jcl (xs++ys)=jcl xs++jcl ys:=by simp[jcl]
theorem jdP:∀ (xs:vL) (j:Nat) (p:Pair),xs[j]?=some p->(jcl xs)[j * 2]?=some (.string p.1)/\(jcl xs)[j * 2+1]?=some (.string p.2)
 | [],j,p,h=>by simp at h
 | x :: r,0,p,h=>by simp at h;subst h;exact⟨rfl,rfl⟩
 | x :: r,j+1,p,h=>by
  have:=jdP r j p (by simpa using h)
  rw[show (j+1) * 2=j * 2+1+1 by omega];exact this
theorem Tryz.uRows:Tryz.prog.underlying 144=some (.slice 183):=vY
theorem Tryz.infoRow:(Tryz.prog.info? 183).map (fun i=>(i.zero,i.size,i.bytes))=some (some (.agg #[.string ⟨#[]⟩,.string ⟨#[]⟩]),2,32):=vY
theorem Tryz.sRows:jeN Tryz.prog 144 183 2 32:=jeN.mk' Tryz.uRows Tryz.infoRow rfl vI
abbrev PRow(w0 w:vW)(v:vV)(n:Nat)(xs:vL):Prop:=ORow 183 2 w0 w v n (jcl xs)
theorem PRow.rd{w0 w:vW}{v:vV}{n:Nat}{xs:vL}(h:PRow w0 w v n xs):RdP w v xs:=by
 have q:xs.length=n:=by have:=h.len;rw[jdQ]at this;omega
 obtain⟨_,⟨rfl,K⟩ |⟨g,e,z,rfl,O,A,E,Q,X⟩⟩:=h.own
 ·exact .inl ⟨none,0,rfl,bG vO⟩
 ·subst q
  refine .inr ⟨g,0,e,rfl,(dK.1 A).1,E,fun j x o=>?_⟩;have Z:=(bW.1 o).1
  obtain⟨H,J⟩:=jdP xs j x o
  exact⟨by rw[cR,h.own.cellAt (j * 2) vO,H],by rw[cR,h.own.cellAt (j * 2+1) vO,J]⟩
def jaO(l:vL):vL:=l.map fun p=>(jaM p.1,p.2)
def jxQ(w:vW)(l:vL)(v i:vV)(wr:vW):Prop:=∃ k:Nat,k<=l.length/\i=.int .i64 k/\PRow w wr v k ((jaO l).take k)
theorem jyO{w:vW}{T:TypeId}{sz:Nat}{w0:vW}{v:vV}{n:Nat}{xs:List vV}(h:ORow T sz w0 w v n xs):¬ v.ownBlock=some w.heap.size:=fun e=>by have:=h.lt _ e;omega
theorem jxy(w:vW)(v:vV)(l:vL)(hv:RdP w v l)(hn:l.length<=1000000)(hs:∀ p∈l,p.1.size<=1000000):vQ 73 #[v] w fun e w'=>∃ u,e=.returned u/\PRow w w' u l.length (jaO l):=by
 obtain⟨a,c,a5⟩:=hv.sl
 have HV:=Hd hv;have HS:=Hd hs;subst a5;clear hv hs
 obtain⟨i0,hi,a6,a7,a8⟩:=info_parts Tryz.infoRow
 obtain⟨w1,b4,A,Q⟩:=run_make_own (P:=Tryz.prog) (w:=w) w.heap.size 144 183 i0 _ 2 Tryz.uRows hi a6 a7 .i64 .i64 l.length (by rw[a8];omega) (by unfold maxLen;omega) (bL _)
 have HO:=Hd A;have HG:=Hd Q;clear A Q;go_enter Tryz.func73,Tryz.ntmps73;go_wp2_with fail
 go_loopw [3,11] (fun v i wr=>jxQ w l v i wr) (fun _ i _=>l.length - (intOf i).toNat)
 case atStart=>exact⟨0,bY _,rfl,ORow.made w HO.o HG.o⟩
 case round =>
  obtain⟨k,hk,rfl,hR⟩:=hrel
  obtain⟨a2,c2,rfl⟩:=hR.sl
  have J:=Hd hR;clear hR
  by_cases hlt:k < l.length
  ·rcases HV.o with⟨_,_,_,h0⟩ |⟨b,o,c',hh,hb,hc,hcell⟩
   ·rw[h0]at hlt;cases hlt
   cases hh
   obtain⟨p,hp⟩:∃ p,l[k]?=some p:=⟨_,bA hlt⟩
   obtain⟨q1,q2⟩:=hcell k p hp
   have q1:=jaa q1 J.o.ext;have q2:=jaa q2 J.o.ext;have E:=HS.o p (bJ hp)
   obtain⟨x,y⟩:=p
   simp only at q1 q2 E;have b1:(k:Int) < (l.length:Int):=vO
   have X:(jaO l).take (k+1)=(jaO l).take k++[(jaM x,y)]:=by
    rw[cE];unfold jaO;rw[cA,hp];rfl
   have a9:=Hd X;have b0:=Hd E;have Q0:=Hd (show (wr.alloc (.cells #[.string x,.string y] 53)).cell? ⟨wr.heap.size,0,none⟩=some (.string x)from(Blk.new wr _).cell vF);have Q1:=Hd (show (wr.alloc (.cells #[.string x,.string y] 53)).cell? ⟨wr.heap.size,1,none⟩=some (.string y)from(Blk.new wr _).cell vF);have NB:=Hd (jyO J.o);clear hcell hp E X;go_wp2_with fail
   refine ja5 [0,1,2,3,4,5,6,7,8,9] [7,8] Ext (jag (fun b=>(Value.slice a2 k c2).ownBlock=some b)) ExtR ExtT (fun x y z h k=>jag.trans h k) (fun x y h=>h.mono (fun _ _ h=>h.elim)) vY vY vY ?_;iterate 2 refine vD ?_
   refine qDL ⟨wr.heap.size,0,none⟩ _ rfl (fun O h2=>jac Tryz.uStr rfl (jaF (by exact Q0.o) h2 NB.o)) ?_;refine vS ?_;refine jtm _ 33 #[.string x] (.string (jaM x)) rfl vY rfl (fun w1=>jaG (vX 33) vY) (fun w1 h1=>jft w1 x b0.o) ?_;refine vS ?_
   refine vD ?_
   refine qDL ⟨wr.heap.size,1,none⟩ _ rfl (fun O h2=>jac Tryz.uStr rfl (jaF (by exact Q1.o) h2 NB.o)) ?_;refine vS ?_
   refine vD ?_
   refine qDH _ rfl (fun O q K Z=>?_);have a0:=Hd (J.o.mono ((((ExtR wr).alloc _).trans (jaq _)).trans q));clear q J;go_simp;refine Z _ _ ((jag.refl _ O).alloc _) ?_;clear Z K;refine qDH _ rfl (fun w3 q K Z=>?_);have a1:=Hd (a0.o.mono (((ExtR O).alloc _).trans q));have hB:∀ j u,([.string (jaM x),.string y]:List vV)[j]?=some u->w3.cell? ((⟨O.heap.size,0,none⟩:Addr).add j)=some u:=fun j u hj=>jaa (ja3 (Blk.new O (.cells [Value.string (jaM x),.string y].toArray 183)) j u hj) q;refine jkr Tryz.sRows a1.o (.tmp 15) (.tmp 22) rfl rfl hB (by intro u hu;simp at hu;rcases hu with rfl | rfl <;> rfl) rfl rfl (by unfold maxLen;omega) vO (fun v' w4 r1 r2 r3=>Z _ _ r2 ?_);have a3:PRow w w4 v' (k+1) ((jaO l).take (k+1)):=by
    unfold PRow;rw[a9.o,jbk];exact r1
   have H:=Hd a3;clear Z K q r1 r2 r3 a3 hB a0 a1
   obtain⟨a4,c4,rfl⟩:=H.o.sl
   refine vS ?_
   refine vD ?_
   refine jcA vY (fun w5 q=>?_);have b2:=Hd (H.o.mono q);clear q H;go_wp2_with fail
   go_roundw
   case rel=>exact⟨k+1,by omega,by go_num,b2.o⟩
   case measure=>exact vJ
  ·have b3:k=l.length:=vO
   subst b3;go_wp2;go_ret;have h:=J.o;rw[cD (by simp[jaO])]at h
   exact⟨_,rfl,h⟩
def jal(d:Nat)(l:vL):vL:=l.map fun p=>(p.1.extract d p.1.size,p.2)
def jxD(w:vW)(d:Nat)(l:vL)(v i:vV)(wr:vW):Prop:=∃ k:Nat,k<=l.length/\i=.int .i64 k/\PRow w wr v k ((jal d l).take k)
theorem jnu(w:vW)(v:vV)(d:Nat)(l:vL)(hv:RdP w v l)(hn:l.length<=1000000)(hs:∀ p∈l,d<=p.1.size/\p.1.size<=1000000):vQ 102 #[v,.int .i64 d] w fun e w'=>∃ u,e=.returned u/\PRow w w' u l.length (jal d l):=by
 obtain⟨a,c,a5⟩:=hv.sl
 have HV:=Hd hv;have HS:=Hd hs;subst a5;clear hv hs
 obtain⟨i0,hi,a6,a7,a8⟩:=info_parts Tryz.infoRow
 obtain⟨w1,b4,A,O⟩:=run_make_own (P:=Tryz.prog) (w:=w) w.heap.size 144 183 i0 _ 2 Tryz.uRows hi a6 a7 .i64 .i64 l.length (by rw[a8];omega) (by unfold maxLen;omega) (bL _)
 have HO:=Hd A;have HG:=Hd O;clear A O;go_enter Tryz.func102,Tryz.ntmps102;go_wp2_with fail
 go_loopw [5,13] (fun v i wr=>jxD w d l v i wr) (fun _ i _=>l.length - (intOf i).toNat)
 case atStart=>exact⟨0,bY _,rfl,ORow.made w HO.o HG.o⟩
 case round =>
  obtain⟨k,hk,rfl,hR⟩:=hrel
  obtain⟨a2,c2,rfl⟩:=hR.sl
  have H:=Hd hR;clear hR
  by_cases hlt:k < l.length
  ·rcases HV.o with⟨_,_,_,h0⟩ |⟨b,o,c',hh,hb,hc,hcell⟩
   ·rw[h0]at hlt;cases hlt
   cases hh
   obtain⟨p,hp⟩:∃ p,l[k]?=some p:=⟨_,bA hlt⟩
   obtain⟨q1,q2⟩:=hcell k p hp
   have q1:=jaa q1 H.o.ext;have q2:=jaa q2 H.o.ext;have Q:=HS.o p (bJ hp)
   obtain⟨x,y⟩:=p
   simp only at q1 q2 Q;have b1:(k:Int) < (l.length:Int):=vO
   have b2:(d:Int)<=(x.size:Int):=vO
   have X:(jal d l).take (k+1)=(jal d l).take k++[(x.extract d x.size,y)]:=by
    rw[cE];unfold jal;rw[cA,hp];rfl
   have a9:=Hd X;have Q0:=Hd (show (wr.alloc (.cells #[.string x,.string y] 183)).cell? ⟨wr.heap.size,0,none⟩=some (.string x)from(Blk.new wr _).cell vF);have Q1:=Hd (show (wr.alloc (.cells #[.string x,.string y] 183)).cell? ⟨wr.heap.size,1,none⟩=some (.string y)from(Blk.new wr _).cell vF);have NB:=Hd (jyO H.o);clear hcell hp Q X;go_wp2_with fail
   refine ja5 [0,1,2,3,4,5,6,7,8,9,10] [8,9] Ext (jag (fun b=>(Value.slice a2 k c2).ownBlock=some b)) ExtR ExtT (fun x y z h k=>jag.trans h k) (fun x y h=>h.mono (fun _ _ h=>h.elim)) vY vY vY ?_;iterate 2 refine vD ?_
   refine qDL ⟨wr.heap.size,0,none⟩ _ rfl (fun J h2=>jac Tryz.uStr rfl (jaF (by exact Q0.o) h2 NB.o)) ?_;refine vS ?_;iterate 3 refine vD ?_
   refine qDL ⟨wr.heap.size,1,none⟩ _ rfl (fun J h2=>jac Tryz.uStr rfl (jaF (by exact Q1.o) h2 NB.o)) ?_;refine vS ?_
   refine vD ?_
   refine qDH _ rfl (fun J q K Z=>?_);have a0:=Hd (H.o.mono ((((ExtR wr).alloc _).trans (jaq _)).trans q));clear q H;go_simp;refine Z _ _ ((jag.refl _ J).alloc _) ?_;clear Z K;refine qDH _ rfl (fun w3 q K Z=>?_);have a1:=Hd (a0.o.mono (((ExtR J).alloc _).trans q));have hB:∀ j u,([.string (x.extract d x.size),.string y]:List vV)[j]?=some u->w3.cell? ((⟨J.heap.size,0,none⟩:Addr).add j)=some u:=fun j u hj=>jaa (ja3 (Blk.new J (.cells [Value.string (x.extract d x.size),.string y].toArray 183)) j u hj) q;refine jkr Tryz.sRows a1.o (.tmp 17) (.tmp 25) rfl rfl hB (by intro u hu;simp at hu;rcases hu with rfl | rfl <;> rfl) rfl rfl (by unfold maxLen;omega) vO (fun v' w4 r1 r2 r3=>Z _ _ r2 ?_);have a3:PRow w w4 v' (k+1) ((jal d l).take (k+1)):=by
    unfold PRow;rw[a9.o,jbk];exact r1
   have E:=Hd a3;clear Z K q r1 r2 r3 a3 hB a0 a1
   obtain⟨a4,c4,rfl⟩:=E.o.sl
   refine vS ?_
   refine vD ?_
   refine jcA vY (fun w5 q=>?_);have b0:=Hd (E.o.mono q);clear q E;go_wp2_with fail
   go_roundw
   case rel=>exact⟨k+1,by omega,by go_num,b0.o⟩
   case measure=>exact vJ
  ·have b3:k=l.length:=vO
   subst b3;go_wp2;go_ret;have h:=H.o;rw[cD (by simp[jal])]at h
   exact⟨_,rfl,h⟩
def jfu(i:Nat)(p:Pair):Bool:=match p.1.data.toList with | []=>false | a :: _=>a.toNat == i
theorem jwr{x y:vB}(i:Nat)(h:0 < x.size):jfu i (x,y)=(x[0].toNat == i):=by
 obtain⟨⟨l⟩⟩:=x
 cases l with
 | nil=>exact absurd h (iO 0)
 | cons a r=>rfl
theorem ju8(a b:Nat):((a:Int) ==(b:Int))=(a == b):=by
 by_cases h:a=b
 ·subst h;simp
 ·have e:¬(a:Int)=(b:Int):=vO
  rw[beq_eq_false_iff_ne.2 h,beq_eq_false_iff_ne.2 e]
theorem jAP(w:vW)(x y:vB)(gi i:Nat)(hs:x.size<=1000000)(hi:i < 256)(hc:w.cell? ⟨gi,0,none⟩=some (.int .i64 (i:Int))):vR 104 #[.agg #[.string x,.string y],.pointer (some ⟨gi,0,none⟩)] w (.bool (jfu i (x,y))):=by
 have J:=Hd (show (w.alloc (.cells #[.string x,.string y] 183)).cell? ⟨w.heap.size,0,none⟩=some (.string x)from(Blk.new w _).cell vF);have QI:=Hd (jaa hc ((ExtR w).alloc (.cells #[.string x,.string y] 183)));clear hc
 by_cases h0:x.size=0
 ·have:=ja1 h0
  subst this;have E:Hid (jfu i (⟨#[]⟩,y)=false):=rfl;go_enter Tryz.func104,Tryz.ntmps104;go_wp2_with fail
  refine jan [0,1,2,3,4,5,6,7,8,9,10,11] Ext ExtR ExtT vY vY vY ?_
  refine vK ?_
  refine qKL ⟨w.heap.size,0,none⟩ _ rfl (fun K q=>jac Tryz.uStr rfl (jaa (by exact J.o) q)) ?_;refine vS ?_;iterate 2 refine vK ?_
  iterate 6 (refine qKS _ rfl ?_;refine vS ?_)
  iterate 2 refine vK ?_
  refine qKE (fun w3 A=>?_);have O:=Hd ((((ExtR w).alloc (.cells #[.string ⟨#[]⟩,.string y] 183)).trans (jaq _)).trans A);clear A;go_wp2_with fail
  go_ret
  exact⟨by rw[E.o];rfl,O.o⟩
 ·have e:0 < x.size:=vO
  have a0:=ja4 (s:=x) e;have c0:(0:Int) < (x.size:Int):=vO
  have c1:=x[0].toNat_lt;have E:=Hd (jwr (y:=y) i e);have H:((x[0].toNat:Int) ==(i:Int))=(x[0].toNat == i):=ju8 _ _;have Q:=Hd H;clear H;go_enter Tryz.func104,Tryz.ntmps104;go_wp2_with fail
  refine jan [0,1,2,3,4,5,6,7,8,9,10,11] Ext ExtR ExtT vY vY vY ?_
  refine vK ?_
  refine qKL ⟨w.heap.size,0,none⟩ _ rfl (fun K q=>jac Tryz.uStr rfl (jaa (by exact J.o) q)) ?_;refine vS ?_;iterate 3 refine vK ?_
  refine qKL ⟨w.heap.size,0,none⟩ _ rfl (fun K q=>jac Tryz.uStr rfl (jaa (by exact J.o) q)) ?_;refine vS ?_;iterate 2 refine vK ?_
  refine qKL ⟨gi,0,none⟩ _ rfl (fun K q=>jac Tryz.uInt rfl (jaa (by exact QI.o) q)) ?_;refine vS ?_;iterate 3 refine vK ?_
  refine qKE (fun w3 A=>?_);have X:=Hd ((((ExtR w).alloc (.cells #[.string x,.string y] 183)).trans (jaq _)).trans A);clear A;rw[Q.o, <-E.o]
  obtain⟨bb,z⟩:=vE (jfu i (x,y))
  rw[<-z];have Z:=Hd z;clear z;go_wp2_with fail
  go_ret
  exact⟨by rw[<-Z.o];rfl,X.o⟩
def cutL(i:Nat)(l:vL):vL:=l.filter (jfu i)
theorem jvi(i:Nat)(l:vL){k:Nat}{p:Pair}(h:l[k]?=some p):cutL i (l.take (k+1))=cutL i (l.take k)++(if jfu i p then [p]else []):=by
 unfold cutL;rw[cE,h,gT,Option.toList_some,dU];simp
def jzx(w:vW)(i:Nat)(l:vL)(v j:vV)(wr:vW):Prop:=∃ k n:Nat,k<=l.length/\n<=k/\j=.int .i64 k/\PRow w wr v n (cutL i (l.take k))
theorem jAa(w:vW)(v:vV)(gi i:Nat)(l:vL)(hv:RdP w v l)(hn:l.length<=1000000)(hs:∀ p∈l,p.1.size<=1000000)(hi:i < 256)(hc:w.cell? ⟨gi,0,none⟩=some (.int .i64 (i:Int))):vQ 103 #[v,.func (.func 104) #[] #[.pointer (some ⟨gi,0,none⟩)]] w fun e w'=>∃ u n,e=.returned u/\PRow w w' u n (cutL i l):=by
 obtain⟨a,c,Z⟩:=hv.sl
 have HV:=Hd hv;have HS:=Hd hs;have HC:=Hd hc;subst Z;clear hv hs hc;go_enter Tryz.func103,Tryz.ntmps103;go_wp2_with fail
 go_loopw [5,10] (fun v j wr=>jzx w i l v j wr) (fun _ j _=>l.length - (intOf j).toNat)
 case atStart=>exact⟨0,0,bY _,bY _,rfl,ORow.nil _ _ (ExtR w)⟩
 case round =>
  obtain⟨k,n,hk,a3,rfl,hR⟩:=hrel
  obtain⟨a2,c2,rfl⟩:=hR.sl
  have H:=Hd hR;clear hR
  by_cases hlt:k < l.length
  ·rcases HV.o with⟨_,_,_,h0⟩ |⟨b,o,c',hh,hb,hc,hcell⟩
   ·rw[h0]at hlt;cases hlt
   cases hh
   obtain⟨p,O⟩:∃ p,l[k]?=some p:=⟨_,bA hlt⟩
   obtain⟨Q,X⟩:=hcell k p O
   have Q:=jaa Q H.o.ext;have X:=jaa X H.o.ext;have J:=HS.o p (bJ O);have K:=jvi i l O
   obtain⟨x,y⟩:=p
   simp only at Q X J;have b1:(k:Int) < (l.length:Int):=vO
   have q:=Hd K;clear hcell O K;go_wp2_with fail
   refine vC (jAP _ x y gi i J hi (jaa HC.o (H.o.ext.trans ((ExtR wr).alloc _)))) fun w3 hE=>?_;have hX:=((ExtR wr).alloc (.cells #[.string x,.string y] 183)).trans hE;have z:=Hd (H.o.mono hX);have A:=(Blk.new wr (.cells #[.string x,.string y] 183)).keeps hE (fun h=>h);have p0:=A.cell (i:=0) (v:=.string x) vF;have p1:=A.cell (i:=1) (v:=.string y) vF;clear hX hE A Q X H;cases hpk:jfu i (x,y)with
   | true =>
    rw[hpk,if_pos rfl]at q;go_wp2_with (at_builtin;refine jba Tryz.sRows (z.o.mono ((ExtR w3).alloc _)) (.tmp 17) (.tmp 19) rfl rfl rfl (ja3 (Blk.new w3 _)) (news:=[.string x,.string y]) (by intro u hu;simp at hu;rcases hu with rfl | rfl <;> rfl) rfl rfl ?c1 ?c2 (fun v' w' r1 r2 r3=>?_))
    case c1=>unfold maxLen;omega
    case c2=>omega
    have E:PRow w w' v' (n+1) (cutL i (l.take (k+1))):=by unfold PRow;rw[q.o,jbk];exact r1
    obtain⟨a5,c5,rfl⟩:=E.sl
    have a0:=Hd E;clear r1 r2 r3 E z;go_wp2_with fail
    go_roundw
    case rel=>exact⟨k+1,n+1,by omega,by omega,by go_num,a0.o⟩
    case measure=>exact vJ
   | false =>
    rw[hpk,if_neg (by simp),bU]at q;go_wp2_with fail
    go_roundw
    case rel=>exact⟨k+1,n,by omega,by omega,by go_num,by rw[q.o];exact z.o⟩
    case measure=>exact vJ
  ·have a1:k=l.length:=vO
   subst a1;go_wp2;go_ret;have h:=H.o;rw[cF]at h
   exact⟨_,_,rfl,h⟩
theorem jct{P:Program}{t e ty:TypeId}{i:TypeInfo}(ht:P.underlying t=some (.slice e))(hi:P.info? e=some i)(base:Option Addr)(n c:Nat)(hle:n<=c)(c2:Nat)(w:vW) :
  (Builtin.append_ #[t,t] ty #[.slice base n c,.slice none 0 c2]).run P w=.ok (.slice base n c) w:=by
 have o:(sizeOf e).run P w=.ok i.size w:=by simp[sizeOf,typeInfo,hi]
 have q:∀ w,(Builtin.lenOf (.slice none 0 c2)).run P w=.ok 0 w:=fun w=>rfl;cases base <;> simp[Builtin.append_,bS,Result.andThen,run_underlying ht,o,q,cJ,Builtin.firstCells,hle,storeCells]
inductive PT where
 | mk (text:vB) (below:List PT)
def PT.text:PT->vB | .mk t _=>t
def PT.kids:PT->List PT | .mk _ ks=>ks
def ptrV(b:Nat):vV:=.pointer (some ⟨b,0,none⟩)
def RdQ(A:Nat->Prop)(W:vW)(v:vV)(bs:List Nat):Prop:=
 (v=.slice none 0 0/\bs=[])\/∃ g c,v=.slice (some ⟨g,0,none⟩) bs.length c/\bs≠[]/\A g/\g < W.heap.size/\bs.length<=c/\∀ (j:Nat) b,bs[j]?=some b->W.cell? ⟨g,j,none⟩=some (ptrV b)
mutual
def jb2(A:Nat->Prop):PT->Nat->vW->Prop
 | .mk t ks,b,W=>A b/\∃ v bs,Blk W b (.cells #[.string t,v] 141)/\RdQ A W v bs/\jaT A ks bs W
def jaT(A:Nat->Prop):List PT->List Nat->vW->Prop
 | [],bs,_=>bs=[]
 | k :: ks,bs,W=>∃ b r,bs=b :: r/\jb2 A k b W/\jaT A ks r W
end
theorem RdQ.keeps{A:Nat->Prop}{F:BSet}{W W':vW}{v:vV}{bs:List Nat}(h:RdQ A W v bs)(k:jag F W W')(hF:∀ x,A x->¬ F x):RdQ A W' v bs:=by
 rcases h with h |⟨g,c,h1,h2,h3,h4,h5,h6⟩
 ·exact .inl h
 ·exact .inr ⟨g,c,h1,h2,h3,bR h4 k.size,h5,fun j b hb=>jaF (h6 j b hb) k (hF g h3)⟩
theorem RdQ.mono{A A':Nat->Prop}{W:vW}{v:vV}{bs:List Nat}(h:RdQ A W v bs)(hA:∀ x,A x->x < W.heap.size->A' x):RdQ A' W v bs:=by
 rcases h with h |⟨g,c,h1,h2,h3,h4,h5,h6⟩
 ·exact .inl h
 ·exact .inr ⟨g,c,h1,h2,hA g h3 h4,h4,h5,h6⟩
mutual
theorem jb2.keeps{A:Nat->Prop}{F:BSet}{W W':vW}(k:jag F W W')(hF:∀ x,A x->¬ F x):∀ (T:PT) (b:Nat),jb2 A T b W->jb2 A T b W'
 | .mk t ks,b,h=>by
  unfold jb2 at *
  obtain⟨e,v,o,q,z,E⟩:=h
  exact⟨e,v,o,q.keeps k (hF b e),z.keeps k hF,jaT.keeps k hF ks o E⟩
theorem jaT.keeps{A:Nat->Prop}{F:BSet}{W W':vW}(k:jag F W W')(hF:∀ x,A x->¬ F x):∀ (ks:List PT) (bs:List Nat),jaT A ks bs W->jaT A ks bs W'
 | [],bs,h=>by unfold jaT at *;exact h
 | x :: ks,bs,h=>by
  unfold jaT at *
  obtain⟨b,r,e,o,q⟩:=h
  exact⟨b,r,e,jb2.keeps k hF x b o,jaT.keeps k hF ks r q⟩
end
mutual
theorem jb2.mono{A A':Nat->Prop}{W:vW}(hA:∀ x,A x->x < W.heap.size->A' x):∀ (T:PT) (b:Nat),jb2 A T b W->jb2 A' T b W
 | .mk t ks,b,h=>by
  unfold jb2 at *
  obtain⟨q,v,e,o,z,E⟩:=h
  exact⟨hA b q o.lt,v,e,o,z.mono hA,jaT.mono hA ks e E⟩
theorem jaT.mono{A A':Nat->Prop}{W:vW}(hA:∀ x,A x->x < W.heap.size->A' x):∀ (ks:List PT) (bs:List Nat),jaT A ks bs W->jaT A' ks bs W
 | [],bs,h=>by unfold jaT at *;exact h
 | x :: ks,bs,h=>by
  unfold jaT at *
  obtain⟨b,r,e,o,q⟩:=h
  exact⟨b,r,e,jb2.mono hA x b o,jaT.mono hA ks r q⟩
end
theorem jaT.append{A:Nat->Prop}{W:vW}:∀ (ks:List PT) (bs:List Nat) (ks':List PT) (bs':List Nat),jaT A ks bs W->jaT A ks' bs' W->jaT A (ks++ks') (bs++bs') W
 | [],bs,ks',bs',h,h'=>by unfold jaT at h;subst h;exact h'
 | x :: ks,bs,ks',bs',h,h'=>by
  unfold jaT at h
  obtain⟨b,r,rfl,e,o⟩:=h
  show jaT A (x ::(ks++ks')) (b ::(r++bs')) W;unfold jaT
  exact⟨b,r++bs',rfl,e,jaT.append ks r ks' bs' o h'⟩
theorem Tryz.uParts:Tryz.prog.underlying 139=some (.slice 142):=vY
theorem Tryz.infoPtr:(Tryz.prog.info? 142).map (fun i=>(i.zero,i.size,i.bytes))=some (some (.pointer none),1,8):=vY
theorem Tryz.sParts:jeN Tryz.prog 139 142 1 8:=jeN.mk' Tryz.uParts Tryz.infoPtr rfl vI
abbrev QRow(w0 w:vW)(v:vV)(bs:List Nat):Prop:=ORow 142 1 w0 w v bs.length (bs.map ptrV)
structure jdX(w0 W:World)(b m:Nat)(t:vB)(ks:List PT)(u:Value)(bs:List Nat):Prop where
 blk:Blk W b (.cells #[.string t,u] 141)
 new:w0.heap.size<=b
 row:QRow w0 W u bs
 nil:bs=[]->u=.slice none 0 0
 nb:¬ u.ownBlock=some b
 bm:m≠b
 mb:¬ u.ownBlock=some m
 mn:w0.heap.size<=m
 ml:m < W.heap.size
 ks:jaT (fun x=>w0.heap.size<=x/\x≠b/\x≠m/\¬ u.ownBlock=some x) ks bs W
theorem jdX.ext{w0 W W':vW}{b m:Nat}{t:vB}{ks:List PT}{u:vV}{bs:List Nat}(h:jdX w0 W b m t ks u bs)(e:Ext W W'):jdX w0 W' b m t ks u bs:=
 ⟨h.blk.keeps e (fun h=>h),h.new,h.row.mono e,h.nil,h.nb,h.bm,h.mb,h.mn,bR h.ml e.size,jaT.keeps e (fun _ _ h=>h) _ _ h.ks⟩
theorem jdX.other{w0 W W':vW}{b m:Nat}{t:vB}{ks:List PT}{u:vV}{bs:List Nat}(h:jdX w0 W b m t ks u bs)(e:jag (fun x=>x=m) W W'):jdX w0 W' b m t ks u bs:=
 ⟨h.blk.keeps e (fun e=>h.bm e.symm),h.new,h.row.keeps e (fun x o e=>h.mb (by have e:x=m:=e;rw[<-e];exact o)) (fun x o e=>by have e:x=m:=e;have:=h.mn;omega),h.nil,h.nb,h.bm,h.mb,h.mn,bR h.ml e.size,
  jaT.keeps e (fun x o e=>o.2.2.1 e) _ _ h.ks⟩
theorem jdX.setText{w0 W:vW}{b m:Nat}{t:vB}{ks:List PT}{u:vV}{bs:List Nat}(h:jdX w0 W b m t ks u bs)(t':vB):jdX w0 (W.setCell ⟨b,0,none⟩ (.string t')) b m t' ks u bs:=
 have K:=jag.oneSet W ⟨b,0,none⟩ (.string t')
 ⟨h.blk.set_same (i:=0) (.string t'),h.new,h.row.keeps K (fun x o e=>h.nb (by have e:x=b:=e;rw[<-e];exact o)) (fun x o e=>by have e:x=b:=e;have:=h.new;omega),h.nil,h.nb,h.bm,h.mb,h.mn,bR h.ml K.size,jaT.keeps K (fun x o e=>o.2.1 e) _ _ h.ks⟩
theorem jdX.part{w0 W:vW}{b m:Nat}{t:vB}{ks:List PT}{u:vV}{bs:List Nat}(h:jdX w0 W b m t ks u bs):jb2 (fun x=>w0.heap.size<=x) (.mk t ks) b W:=by
 unfold jb2
 refine⟨h.new,u,bs,h.blk,?_,jaT.mono (fun x o _=>o.1) _ _ h.ks⟩
 by_cases h0:bs=[]
 ·exact .inl ⟨h.nil h0,h0⟩
 ·obtain⟨_,⟨rfl,E⟩ |⟨g,e,q,rfl,H,z,A,J,K⟩⟩:=h.row.own
  ·exact absurd (bG vO) h0
  ·refine .inr ⟨g,e,rfl,h0,h.row.new g rfl,(dK.1 z).1,A,fun j b hb=>?_⟩
   have O:=(bW.1 hb).1;rw[h.row.own.cellAt j vO,cA,hb];rfl
def jbG(T:PT):List PT:=if T.text.size < 32 then []else [T]
structure jxI(T:PT):Prop where
 size:T.text.size<=100000
 small:T.text.size < 32->T.kids=[]
 nohash:T.text.size < 32->∃ q,cutN T.text=some q/\jfm T.text q=none
theorem jvN(W:vW)(b:Nat)(a:Option Addr)(c:Nat):vQ 101 #[ptrV b,.slice a 0 c] W fun e w'=>e=.returned (.string ⟨#[]⟩)/\w'=W:=by
 unfold ptrV;go_enter Tryz.func101,Tryz.ntmps101;go_wp2_with fail
 go_ret
 exact⟨rfl,rfl⟩
theorem jd1{P:Program}{a:Act}{w w':vW}{v:vV}{d:Option Tmp}{args:Array Operand}{ats:Array TypeId}{ty:TypeId}{pos:String}{af:Array Edge}{g:Option (Nat × Bool)}{vs:Array vV}(h:(Builtin.append_ ats ty vs).run P w=.ok v w')(hv:args.map a.eval=vs) :
  (execOp a.eval ⟨d,.call { callee:=.builtin .append,args:=args,argTypes:=ats },ty,pos,af,g⟩).run P w=.ok (.value v) w':=by
 subst hv;simp[execOp,resolve,invoke,Go.builtin,Act.eval,bS,Result.andThen,cJ,h]
theorem jdX.add{w0 W w1 w2:vW}{b m:Nat}{t:vB}{ks:List PT}{u u':vV}{bs:List Nat}{k:Nat}{T:PT}(h:jdX w0 W b m t ks u bs)(hk:jb2 (fun x=>w1.heap.size<=x) T k W)(h1:b < w1.heap.size)(h1m:m < w1.heap.size)(h2:∀ x,u.ownBlock=some x->x < w1.heap.size)(h3:w0.heap.size<=w1.heap.size)
  (r1:QRow w0 w2 u' (bs++[k])) (r2:jag (fun x=>u.ownBlock=some x) W w2) (r3:u'.ownBlock=u.ownBlock\/∀ x,u'.ownBlock=some x->W.heap.size<=x) :
  jdX w0 (w2.setCell ⟨b,1,none⟩ u') b m t (ks++[T]) u' (bs++[k]):=by
 have K:jag (fun x=>x=b\/u.ownBlock=some x) W (w2.setCell ⟨b,1,none⟩ u'):=(r2.mono (fun x _ o=>.inr o)).setCell (.inl (.inl rfl)) _;have q:=h.blk.lt;have A:¬ u'.ownBlock=some b:=fun e=>by
  rcases r3 with r3 | r3
  ·exact h.nb (r3 ▸ e)
  ·have:=r3 b e;omega
 have z:∀ x,x < W.heap.size->¬ u.ownBlock=some x->¬ u'.ownBlock=some x:=fun x o H e=>by
  rcases r3 with r3 | r3
  ·exact H (r3 ▸ e)
  ·have:=r3 x e;omega
 refine⟨?_,h.new,r1.keeps (jag.oneSet w2 ⟨b,1,none⟩ u') (fun x o e=>A (by have e:x=b:=e;rw[<-e];exact o)) (fun x o e=>by have e:x=b:=e;have:=h.new;omega),fun e=>absurd e (by simp),A,h.bm,z m h.ml h.mb,h.mn,bR h.ml K.size,?_⟩
 ·have:=(h.blk.keeps r2 h.nb).set_same (i:=1) u'
  exact this
 ·refine jaT.append _ _ _ _ ?_ ?_
  ·refine jaT.keeps K (fun x o e=>?_) _ _ (jaT.mono (A':=fun x=>w0.heap.size<=x/\x≠b/\¬ u.ownBlock=some x/\x≠m/\¬ u'.ownBlock=some x) (fun x o q=>⟨o.1,o.2.1,o.2.2.2,o.2.2.1,z x q o.2.2.2⟩) _ _ h.ks) |> jaT.mono (fun x o _=>⟨o.1,o.2.1,o.2.2.2.1,o.2.2.2.2⟩) _ _
   rcases e with e | e
   ·exact o.2.1 e
   ·exact o.2.2.1 e
  ·unfold jaT
   refine⟨k,[],rfl,?_,by unfold jaT;rfl⟩
   have E:jb2 (fun x=>w0.heap.size<=x/\x≠b/\¬ u.ownBlock=some x/\x≠m/\¬ u'.ownBlock=some x) T k W:=jb2.mono (fun x o q=>⟨by omega,by omega,fun e=>by have:=h2 x e;omega,by omega,z x q (fun e=>by have:=h2 x e;omega)⟩) _ _ hk;refine jb2.mono (fun x o _=>⟨o.1,o.2.1,o.2.2.2.1,o.2.2.2.2⟩) _ _ (jb2.keeps K (fun x o e=>?_) _ _ E);rcases e with e | e
   ·exact o.2.1 e
   ·exact o.2.2.1 e
theorem jdX.same{w0 W:vW}{b m:Nat}{t:vB}{ks:List PT}{u:vV}{bs:List Nat}(h:jdX w0 W b m t ks u bs):jdX w0 (W.setCell ⟨b,1,none⟩ u) b m t ks u bs:=
 have K:=jag.oneSet W ⟨b,1,none⟩ u
 ⟨h.blk.set_same (i:=1) u,h.new,h.row.keeps K (fun x o e=>h.nb (by have e:x=b:=e;rw[<-e];exact o)) (fun x o e=>by have e:x=b:=e;have:=h.new;omega),h.nil,h.nb,h.bm,h.mb,h.mn,bR h.ml K.size,jaT.keeps K (fun x o e=>o.2.1 e) _ _ h.ks⟩
theorem jb2.open{A:Nat->Prop}{T:PT}{b:Nat}{W:vW}(h:jb2 A T b W):A b/\∃ v bs,Blk W b (.cells #[.string T.text,v] 141)/\RdQ A W v bs/\jaT A T.kids bs W:=by
 cases T with
 | mk t ks=>unfold jb2 at h;exact h
theorem RdQ.sl{A:Nat->Prop}{W:vW}{v:vV}{bs:List Nat}(h:RdQ A W v bs):∃ a c,v=.slice a bs.length c:=by
 rcases h with⟨h1,h2⟩ |⟨g,c,h1,_⟩
 ·exact⟨none,0,by rw[h1,h2];rfl⟩
 ·exact⟨_,c,h1⟩
theorem jxr{w0 W:vW}(hc:jbN W){b m:Nat}{t:vB}{ks:List PT}{u:vV}{bs:List Nat}(h:jdX w0 W b m t ks u bs)(hbs:bs.length<=100)(v:vV)(l:vL)(hv:RdP W v l)(hl:l≠[])(hln:l.length<=1000000)(T:PT)(hT:jxI T)
  (hb:vQ 72 #[v] W fun e w'=>∃ k,e=.returned (ptrV k)/\jb2 (fun x=>W.heap.size<=x) T k w'/\Ext W w') :
  vQ 101 #[ptrV b,v] W fun e w'=>∃ u' bs',e=.returned (.string (refB T.text))/\jdX w0 w' b m t (ks++jbG T) u' bs'/\bs'.length<=bs.length+1/\Ext w0 w'/\jag (fun x=>x=b\/u.ownBlock=some x) W w':=by
 obtain⟨av,cv,rfl⟩:=hv.sl
 have b9:l.length≠0:=fun e=>hl (bG e);have c0:((l.length:Int) == 0)=false:=by simp;exact hl
 have c1:¬(l.length:Int)=0:=vO
 have HB:=Hd hb;have H:=Hd h;have HC:=Hd hc;have HT:=Hd hT
 obtain⟨s,hs⟩:=vE T.text
 have b1:refB T.text=refB s:=by rw[hs]
 rw[b1];have HS:=Hd hs;clear hb h hc hT hv hl b9 hs b1;unfold ptrV;go_enter Tryz.func101,Tryz.ntmps101;go_wp2_with fail
 refine HB.o.mono ?_;rintro e w1 ⟨k,rfl,hk,A⟩;have HK:=Hd hk
 obtain⟨d9,vk,bk,a3,b2,b3⟩:=hk.open
 have q0:w1.cell? ⟨k,0,none⟩=some (.string s):=by rw[HS.o];exact a3.cell vF
 have H1:=Hd (H.o.ext A);have HE:=Hd A;have c2:=Hd (HC.o.ext A);have c3:=Hd a3;have c4:=Hd b2;have c6:=Hd b3;clear A hk a3 b2 b3;unfold ptrV;go_wp2_with fail
 refine vC (jyX w1 s c2.o) fun w2 A=>?_;have b4:=Hd A;have H2:=Hd (H1.o.ext A)
 by_cases hsm:s.size < 32
 ·have Q:T.text.size < 32:=by rw[<-HS.o];exact hsm
  obtain⟨q,E,J⟩:=HT.o.nohash Q
  rw[<-HS.o]at E J;have hr:refB s=s:=by unfold refB;rw[if_pos hsm]
  rw[hr];have a1:=HT.o.small Q;have a2:=c6.o;rw[a1]at a2;unfold jaT at a2;have a4:=c4.o;rw[a2]at a4;have b5:vk=.slice none 0 0:=by
   rcases a4 with⟨h1,_⟩ |⟨g,c,_,h2,_⟩
   ·exact h1
   ·exact absurd rfl h2
  have z:ks++jbG T=ks:=by unfold jbG;rw[if_pos Q,bU]
  have O:=Hd z;have Z:=Hd hr;have a6:=Hd E;have a7:=Hd J;have a0:=c3.o.keeps A (fun h=>h);rw[b5]at a0;have QK:=Hd (a0.cell (i:=1) (v:=.slice none 0 0) vF);clear A E J hr a1 a2 a4 b5 a0 z;go_wp2_with fail
  refine vC (jdE w2 s q vO a6.o) fun w3 A=>?_;rw[a7.o];have H3:=Hd (H2.o.ext A);have c7:=Hd (jaa QK.o A);have a8:=Hd ((HE.o.trans b4.o).trans A);clear A
  obtain⟨au,X,hu⟩:=H3.o.row.sl
  subst hu;unfold optV;simp only;go_wp2_with fail
  have c8:bs.length<=X:=by
   obtain⟨_,⟨hx,h2⟩ |⟨g,e0,e2,hx,h3,h4,h5,h6,h7⟩⟩:=H3.o.row.own
   ·have:=fY hx;omega
   ·have:=fY hx;omega
  refine jaw [0,1,2,3,4,5,6,7,8,9,10,11,12] [12] Ext ExtR ExtT vY vY vY ?_;iterate 2 refine vP ?_
  refine qA _ (.pointer (some ⟨b,0,none⟩)) rfl (fun w1=>by kernel_rfl) ?_;refine vS ?_
  refine vP ?_
  refine qL ⟨b,1,none⟩ _ rfl (fun w1 h1=>jac Tryz.uParts rfl (jaa (by exact H3.o.blk.cell (i:=1) (v:=.slice au bs.length X) vF) h1)) ?_;refine vS ?_
  refine vP ?_
  refine qA _ (.pointer (some ⟨k,0,none⟩)) rfl (fun w1=>by kernel_rfl) ?_;refine vS ?_
  refine vP ?_
  refine qL ⟨k,1,none⟩ _ rfl (fun w1 h1=>jac Tryz.uParts rfl (jaa (by exact c7.o) h1)) ?_;refine vS ?_
  obtain⟨i0,z0,c9,_⟩:=Tryz.sParts.hi
  refine qA _ (.slice au bs.length X) rfl (fun w1=>jd1 (jct Tryz.uParts c9 au bs.length X c8 0 w1) vY) ?_;refine vS ?_;refine qA _ (.pointer (some ⟨b,0,none⟩)) rfl (fun w1=>by kernel_rfl) ?_;refine vS ?_
  refine vP ?_
  refine qH _ rfl (fun w4 he K hK=>?_);have h4:=H3.o.ext ((jaq w3).trans he);have q1:w4.cell? ⟨b,1,none⟩=some (.slice au bs.length X):=h4.blk.cell (i:=1) vF;have f1:w4.frozen? ⟨b,1,none⟩=false:=h4.blk.frozen;have H4:=Hd h4;have d0:=Hd (a8.o.trans ((jaq w3).trans he));clear he h4;go_simp;refine hK _ _ ?_;clear hK K q1 f1;have H5:=Hd H4.o.same;refine qE (fun w5 he=>?_);have H6:=Hd (H5.o.ext he);have d1:=Hd ((((d0.o.mono (G:=fun x=>x=b\/(Value.slice au bs.length X).ownBlock=some x) (fun _ _ h=>h.elim)).setCell (p:=⟨b,1,none⟩) (.inl (.inl rfl)) (.slice au bs.length X)).trans (he.mono (fun _ _ h=>h.elim))));clear he H5 H4;go_wp2_with fail
  go_ret
  exact⟨_,bs,by rw[Z.o];rfl,by rw[O.o];exact H6.o,by omega,H6.o.row.ext,d1.o⟩
 ·have Q:¬ T.text.size < 32:=by rw[<-HS.o];exact hsm
  obtain⟨r,hr⟩:=vE (refB s)
  have a9:r=jaz (shaB s):=by rw[hr];unfold refB;rw[if_neg hsm]
  obtain⟨q,E,J⟩:=jdr (shaB s) (jbb s)
  rw[<-a9]at E J;have d2:r.size<=1000000000:=by have:=jaZ (shaB s);have:=jbb s;rw[a9];omega
  have z:ks++jbG T=ks++[T]:=by unfold jbG;rw[if_neg Q]
  rw[<-hr];have O:=Hd z;have Z:=Hd hr;have a6:=Hd E;have a7:=Hd J;have d3:=Hd (jb2.keeps A (fun _ _ h=>h) _ _ HK.o);clear A E J hr a9 z Q;go_wp2_with fail
  refine vC (jdE w2 r q d2 a6.o) fun w3 A=>?_;rw[a7.o];have h3:=H2.o.ext A;have b0:=Hd (jb2.keeps A (fun _ _ h=>h) _ _ d3.o);have b6:=(HE.o.trans b4.o).trans A
  obtain⟨au,X,hu⟩:=h3.row.sl
  subst hu;have q1:w3.cell? ⟨b,1,none⟩=some (.slice au bs.length X):=h3.blk.cell (i:=1) vF;have H3:=Hd h3;have d4:=H.o.blk.lt;have b7:=H.o.row.lt;have d5:=Hd b7;have d6:=H.o.row.ext.size;have a8:=Hd b6;clear A h3 b6 b7;unfold optV;simp only;go_wp2_with (at_builtin;refine jba Tryz.sParts (H3.o.row.mono ((ExtR w3).alloc _)) (.tmp 29) (.tmp 31) rfl rfl rfl (ja3 (Blk.new w3 _)) (news:=[ptrV k]) (by intro u hu;simp at hu;rw[hu];rfl) rfl rfl (by unfold maxLen;omega) vO (fun v' w4 r1 r2 r3=>?_);obtain⟨a5,c5,d7⟩:=r1.sl;subst d7;have b8:=(H3.o.blk.alloc _).keeps r2 H3.o.nb;have qb:w4.cell? ⟨b,1,none⟩=some (.slice au bs.length X):=b8.cell (i:=1) vF;have fb:w4.frozen? ⟨b,1,none⟩=false:=b8.frozen)
  have e1:QRow w0 w4 (.slice a5 (bs.length+1) c5) (bs++[k]):=by
   unfold QRow;rw[bF,bZ];exact r1
  have h5:=jdX.add (w1:=W) (H3.o.ext ((ExtR w3).alloc _)) (jb2.keeps ((ExtR w3).alloc _) (fun _ _ h=>h) _ _ b0.o) d4 H.o.ml d5.o d6 e1 r2 r3;have d8:jag (fun x=>x=b\/(Value.slice au bs.length X).ownBlock=some x) W (w4.setCell ⟨b,1,none⟩ (.slice a5 (bs.length+1) c5)):=
   ((((a8.o.alloc _).mono (G:=fun x=>x=b\/(Value.slice au bs.length X).ownBlock=some x) (fun _ _ h=>h.elim)).trans (r2.mono (fun _ _ h=>.inr h)))).setCell (.inl (.inl rfl)) _
  go_ret
  exact⟨_,bs++[k],by rw[<-Z.o];rfl,by rw[O.o];exact h5,by simp,h5.row.ext,d8⟩
abbrev Lt(a b:vN):Prop:=Op.bytesLess a b=true
theorem jbH{a b:vU}{x y:vN}:Lt (a :: x) (b :: y)↔a < b\/(a=b/\Lt x y):=by
 unfold Lt;rw[Op.bytesLess];simp
theorem not_lt_nil(a:vN):¬ Lt a []:=by
 unfold Lt;cases a <;> simp[Op.bytesLess]
theorem jpD{b:vU}{y:vN}:Lt [] (b :: y):=rfl
theorem lt_irrefl:∀ a:vN,¬ Lt a a
 | [],h=>not_lt_nil _ h
 | a :: x,h=>by
  rcases jbH.1 h with h | h
  ·exact iI a h
  ·exact lt_irrefl x h.2
theorem jbe:∀ (a b:vN),a.take (jbh a b)=b.take (jbh a b)/\jbh a b<=a.length/\jbh a b<=b.length
 | [],b=>by simp[jbh]
 | x :: r,[]=>by simp[jbh]
 | x :: r,y :: t=>by
  unfold jbh;split
  ·rename_i h
   obtain⟨e,o,q⟩:=jbe r t
   subst h;simp only[dW,bO,e]
   exact⟨trivial,by omega,by omega⟩
  ·simp
theorem jiq(a b:vN):jbh (a.drop (jbh a b)) (b.drop (jbh a b))=0:=by
 obtain⟨e,o,q⟩:=jbe a b
 have:=jeU a b (jbh a b) e o q
 omega
theorem jr1:∀ (k:Nat) (a m b:vN),Lt a m->Lt m b->a.take k=b.take k->k<=a.length->k<=b.length->m.take k=a.take k/\k<=m.length
 | 0,a,m,b,_,_,_,_,_=>by simp
 | k+1,[],m,b,_,_,_,h,_=>by simp at h
 | k+1,x :: a,m,[],_,_,_,_,h=>by simp at h
 | k+1,x :: a,[],y :: b,h,_,_,_,_=>absurd h (not_lt_nil _)
 | k+1,x :: a,z :: m,y :: b,h1,h2,e,h4,h5=>by
  simp only[dW,List.cons.injEq]at e
  obtain⟨rfl,e⟩:=e
  have o:x=z:=by
   rcases jbH.1 h1 with h | h
   ·rcases jbH.1 h2 with h' | h'
    ·exact absurd (UInt8.lt_trans h h') (iI x)
    ·rw[h'.1]at h;exact absurd h (iI x)
   ·exact h.1
  subst o;have q:Lt a m:=by
   rcases jbH.1 h1 with h | h
   ·exact absurd h (iI x)
   ·exact h.2
  have A:Lt m b:=by
   rcases jbH.1 h2 with h | h
   ·exact absurd h (iI x)
   ·exact h.2
  obtain⟨E,H⟩:=jr1 k a m b q A e (by simpa using h4) (by simpa using h5)
  simp only[dW,E,bO]
  exact⟨trivial,by omega⟩
theorem jtc:∀ (k:Nat) (a b:vN),Lt a b->a.take k=b.take k->k<=a.length->k<=b.length->Lt (a.drop k) (b.drop k)
 | 0,a,b,h,_,_,_=>h
 | k+1,[],b,_,_,h,_=>by simp at h
 | k+1,x :: a,[],h,_,_,_=>absurd h (not_lt_nil _)
 | k+1,x :: a,y :: b,h,h1,h2,h3=>by
  simp only[dW,List.cons.injEq]at h1;rcases jbH.1 h with h | h
  ·rw[h1.1]at h;exact absurd h (iI y)
  ·exact jtc k a b h.2 h1.2 (by simpa using h2) (by simpa using h3)
abbrev Pair.l(p:Pair):vN:=p.1.data.toList
structure jav(f:Nat)(l:vL):Prop where
 size:∀ p∈l,p.1.size<=f/\p.1.size<=12/\jaC p.1=true/\0 < p.2.size/\p.2.size<=80
 rise:l.Pairwise fun p q=>Lt p.l q.l
theorem jcV(b:vB)(k n:Nat)(h:b.size<=n):(b.extract k n).data.toList=b.data.toList.drop k:=by
 rw[dP,dZ,dO,cD];rw[List.length_drop];have:b.data.toList.length=b.size:=rfl;omega
theorem jaV(b:vB)(k:Nat):(b.extract k b.size).size=b.size - k:=by rw[cL];omega
theorem jaW{b:vB}(h:jaC b=true)(k n:Nat):jaC (b.extract k n)=true:=by
 unfold jaC at *;rw[dN]at *;intro x e;refine h x ?_;rw[dP,dZ,dO]at e;exact List.mem_of_mem_drop (iE e)
def pd:Pair:=(⟨#[]⟩,⟨#[]⟩)
def comK(l:vL):Nat:=jam (l.getD 0 pd).1 (l.getD (l.length - 1) pd).1
theorem jcN{l:vL}{R:Pair->Pair->Prop}(h:l.Pairwise R){i j:Nat}{p q:Pair}(hij:i < j)(hi:l[i]?=some p)(hj:l[j]?=some q):R p q:=by
 obtain⟨e,rfl⟩:=bW.1 hi
 obtain⟨o,rfl⟩:=bW.1 hj
 exact gP.1 h i j e o hij
theorem jby{f:Nat}{l:vL}(h:jav f l)(h2:2<=l.length):∀ p∈l,p.l.take (comK l)=(l.getD 0 pd).l.take (comK l)/\comK l<=p.1.size:=by
 intro p H
 obtain⟨i,e⟩:=gL H
 have J:=(bW.1 e).1
 obtain⟨a,o⟩:∃ a,l[0]?=some a:=⟨_,bA vO⟩
 obtain⟨b,hb⟩:∃ b,l[l.length - 1]?=some b:=⟨_,bA vO⟩
 have q:l.getD 0 pd=a:=by rw[bE,o];rfl
 have K:l.getD (l.length - 1) pd=b:=by rw[bE,hb];rfl
 have O:comK l=jbh a.l b.l:=by unfold comK jam;rw[q,K]
 obtain⟨z,A,E⟩:=jbe a.l b.l
 rw[O,q]
 by_cases h0:i=0
 ·subst h0;rw[o]at e;obtain rfl:=bQ e;exact⟨rfl,A⟩
 ·by_cases hn:i=l.length - 1
  ·subst hn;rw[hb]at e;obtain rfl:=bQ e;exact⟨z.symm,E⟩
  ·exact jr1 _ a.l p.l b.l (jcN h.rise vO o e) (jcN h.rise vO e hb) z A E
theorem jcx{f:Nat}{l:vL}(k:Nat)(h:jav f l)(hk:∀ p∈l,∀ q∈l,p.l.take k=q.l.take k)(hs:∀ p∈l,k<=p.1.size):jav (f - k) (jal k l):=by
 refine⟨fun p e=>?_,?_⟩
 ·obtain⟨q,o,rfl⟩:=bI.1 e
  obtain⟨J,K,A,E,H⟩:=h.size q o
  refine⟨?_,?_,jaW A _ _,E,H⟩
  ·show (q.1.extract k q.1.size).size<=_;rw[jaV];omega
  ·show (q.1.extract k q.1.size).size<=_;rw[jaV];omega
 ·unfold jal
  rw[List.pairwise_map];refine List.Pairwise.imp_of_mem (fun {p q} e o z=>?_) h.rise;show Lt (p.1.extract k p.1.size).data.toList (q.1.extract k q.1.size).data.toList;rw[jcV _ _ _ (bL _),jcV _ _ _ (bL _)];exact jtc k _ _ z (hk p e q o) (hs p e) (hs q o)
theorem jbv{i:Nat}{l:vL}{p:Pair}(h:p∈cutL i l):p∈l/\∃ a r,p.l=a :: r/\a.toNat=i:=by
 obtain⟨o,e⟩:=cN.1 h
 refine⟨o,?_⟩
 unfold jfu at e;cases hp:p.1.data.toList with
 | nil=>rw[hp]at e;cases e
 | cons a r=>rw[hp]at e;exact⟨a,r,hp,by simpa using e⟩
theorem jsk{f:Nat}{l:vL}(i:Nat)(h:jav f l):jav f (cutL i l):=
 ⟨fun p e=>h.size p (jbv e).1,List.Pairwise.filter _ h.rise⟩
theorem jd8{f:Nat}{l:vL}(i:Nat)(h:jav f l):jav (f - 1) (jal 1 (cutL i l)):=by
 refine jcx 1 (jsk i h) (fun p e q A=>?_) (fun p e=>?_)
 ·obtain⟨_,a,r,o,z⟩:=jbv e
  obtain⟨_,b,t,E,H⟩:=jbv A
  rw[o,E,dX.1 (z.trans H.symm)];rfl
 ·obtain⟨_,a,r,o,z⟩:=jbv e
  show 1<=p.1.data.toList.length;rw[show p.1.data.toList=a :: r from o];simp
def jao(B:vL->PT)(l:vL):jad:=
 if l.length=0 then jak
 else if l.length=1 then ⟨1,(l.getD 0 pd).1,(l.getD 0 pd).2,jar 16⟩
 else if 0 < comK l then ⟨2,(l.getD 0 pd).1.extract 0 (comK l),⟨#[]⟩,refB (B (jal (comK l) l)).text :: jar 15⟩
 else ⟨3,⟨#[]⟩,if (l.getD 0 pd).1.size=0 then (l.getD 0 pd).2 else ⟨#[]⟩,(List.range 16).map fun i=>if (cutL i l).length=0 then ⟨#[]⟩else refB (B (jal 1 (cutL i l))).text⟩
def jat(B:vL->PT)(l:vL):List PT:=
 if l.length<=1 then []
 else if 0 < comK l then jbG (B (jal (comK l) l))
 else (List.range 16).flatMap fun i=>if (cutL i l).length=0 then []else jbG (B (jal 1 (cutL i l)))
def jab:Nat->vL->PT
 | 0,_=>.mk ⟨#[]⟩ []
 | f+1,l=>.mk (jaR (jao (jab f) l)) (jat (jab f) l)
theorem jav.mono{f g:Nat}{l:vL}(h:jav f l)(hg:f<=g):jav g l:=⟨fun p e=>by obtain⟨q,o⟩:=h.size p e;exact⟨by omega,o⟩,h.rise⟩
theorem ji5:∀ (l:vM) (i j:Nat) (r:vB),l[j]?=some r->r.size≠0->(i+j,r)∈jaA i l
 | [],i,j,r,h,_=>by simp at h
 | x :: l,i,0,r,h,h0=>by
  simp at h;subst h;unfold jaA;rw[if_neg h0];exact bD ..
 | x :: l,i,j+1,r,h,h0=>by
  have:=ji5 l (i+1) j r (by simpa using h) h0
  rw[show i+(j+1)=i+1+j by omega];unfold jaA;split
  ·exact this
  ·exact bC _ this
theorem jA9{α:Type}{a b:α}{l:List α}(ha:a∈l)(hb:b∈l)(h:a≠b):2<=l.length:=by
 match l,ha,hb with
 | [x],ha,hb =>
  rw[bP]at ha hb;exact absurd (ha.trans hb.symm) h
 | x :: y :: r,_,_=>simp
theorem jAN{α:Type}{a:α}{l:List α}(ha:a∈l):1<=l.length:=by cases l <;> simp at ha ⊢
structure jdZ(f:Nat)(T:PT)(n:jad):Prop where
 text:T.text=jaR n
 good:jbd (InlD f) n
 kind:n.kind≠0
 small:T.text.size < 32->T.kids=[]
theorem jdZ.may{f:Nat}{T:PT}{n:jad}(h:jdZ f T n):MayP (InlD (f+1)) (refB T.text)/\(T.text.size < 32->InlD (f+1) (refB T.text) n):=by
 by_cases hs:T.text.size < 32
 ·have e:refB T.text=jaR n:=by unfold refB;rw[if_pos hs,h.text]
  have o:InlD (f+1) (refB T.text) n:=by rw[e];exact⟨h.good,rfl,by rw[<-h.text];exact hs,h.kind⟩
  exact⟨.inr ⟨n,o⟩,fun _=>o⟩
 ·exact⟨.inl ⟨shaB T.text,jbb _,by unfold refB;rw[if_neg hs]⟩,fun h=>absurd h hs⟩
theorem MayP.pos{f:Nat}{r:vB}(h:MayP (InlD f) r):r.size≠0:=by
 rcases h with h |⟨m,h⟩
 ·rw[h.size];omega
 ·exact (inlP f).pos r m h
theorem jdZ.kid{f:Nat}{T:PT}{n:jad}(h:jdZ f T n):jxI T:=by
 have e:=h.good.one (inlP f)
 refine⟨by have:=jj7 n e;rw[h.text];omega,h.small,fun z=>?_⟩
 obtain⟨xs,o,q⟩:=jj6 n e h.kind
 rw[h.text,o];exact jmz xs q
theorem jwx{T:PT}(h:¬ T.text.size < 32):(refB T.text).size=33:=by
 have:jf2 (refB T.text):=⟨shaB T.text,jbb _,by unfold refB;rw[if_neg h]⟩
 exact this.size
theorem jh2:∀ (l:vM) (x:vB),x∈l->x.size<=(catB l).size
 | y :: l,x,h=>by
  rw[jbI];rcases bM.1 h with rfl | h
  ·omega
  ·have:=jh2 l x h;omega
theorem jk5(xs:vM):(catB xs).size<=(jcm xs).size:=by unfold jcm;rw[cC];omega
theorem jjR{k:Nat}{l:vL}{i:Nat}(h:i < l.length):(jal k l).getD i pd=((l.getD i pd).1.extract k (l.getD i pd).1.size,(l.getD i pd).2):=by
 unfold jal;rw[bE,cA,bE,bA h];rfl
theorem jaJ(k:Nat)(l:vL):(jal k l).length=l.length:=by simp[jal]
theorem jgy{l:vL}(h:0 < l.length):comK (jal (comK l) l)=0:=by
 have e:comK (jal (comK l) l)=jbh (((l.getD 0 pd).l).drop (comK l)) (((l.getD (l.length - 1) pd).l).drop (comK l)):=by
  conv=>lhs;unfold comK
  rw[jaJ,jjR h,jjR vO];unfold jam;simp only;rw[jcV _ _ _ (bL _),jcV _ _ _ (bL _)];rfl
 rw[e];exact jiq _ _
theorem jco{p:Pair}(h:jaC p.1=true){a:vU}{r:vN}(hp:p.l=a :: r):a.toNat < 16:=by
 have:a<=15:=of_decide_eq_true (dN.1 h a (by rw[show p.1.data.toList=a :: r from hp];exact bD ..))
 have:=fU.1 this
 have e:(15:vU).toNat=15:=rfl;omega
theorem good:∀ (f:Nat) (l:vL),jav f l->jbd (InlD f) (jao (jab f) l)/\(l≠[]->jdZ f (jab (f+1) l) (jao (jab f) l))/\(2<=l.length->comK l=0->(jao (jab f) l).kind=3):=by
 intro f;induction f with
 | zero =>
  intro l h;have hl:l.length<=1:=by
   rcases fO l.length 2 with h2 | h2
   ·omega
   ·obtain⟨a,ha⟩:∃ a,l[0]?=some a:=⟨_,bA vO⟩
    obtain⟨b,hb⟩:∃ b,l[1]?=some b:=⟨_,bA vO⟩
    have o:=jcN h.rise vO ha hb
    have:=(h.size b (bJ hb)).1
    rw[show b.l=[]from bG (by show b.1.size=0;omega)]at o;exact absurd o (not_lt_nil _)
  by_cases J:l.length=0
  ·have e:jao (jab 0) l=jak:=by unfold jao;rw[if_pos J]
   rw[e]
   exact⟨.none,fun hn=>absurd (bG J) hn,fun h2=>by omega⟩
  ·have h1:l.length=1:=vO
   obtain⟨p,E⟩:=vE (l.getD 0 pd)
   have e:jao (jab 0) l=⟨1,p.1,p.2,jar 16⟩:=by unfold jao;rw[if_neg J,if_pos h1,E]
   have a2:p∈l:=by rw[E,bE,bA vO];exact dY _
   obtain⟨s1,s2,s3,s4,s5⟩:=h.size p a2
   have K:jbd (InlD 0) ⟨1,p.1,p.2,jar 16⟩:=.leaf p.1 p.2 (by simp[jad.pathOk,s2,s3]) s4 s5;rw[e]
   exact⟨K,fun _=>⟨by unfold jab;rw[e];rfl,K,by simp,fun _=>by unfold jab jat;rw[if_pos vO];rfl⟩,fun h2=>by omega⟩
 | succ f ih =>
  intro l h
  by_cases J:l.length=0
  ·have e:jao (jab (f+1)) l=jak:=by unfold jao;rw[if_pos J]
   rw[e]
   exact⟨.none,fun hn=>absurd (bG J) hn,fun h2=>by omega⟩
  by_cases h1:l.length=1
  ·obtain⟨p,E⟩:=vE (l.getD 0 pd)
   have e:jao (jab (f+1)) l=⟨1,p.1,p.2,jar 16⟩:=by unfold jao;rw[if_neg J,if_pos h1,E]
   have a2:p∈l:=by rw[E,bE,bA vO];exact dY _
   obtain⟨s1,s2,s3,s4,s5⟩:=h.size p a2
   have K:jbd (InlD (f+1)) ⟨1,p.1,p.2,jar 16⟩:=.leaf p.1 p.2 (by simp[jad.pathOk,s2,s3]) s4 s5;rw[e]
   exact⟨K,fun _=>⟨by unfold jab;rw[e];rfl,K,by simp,fun _=>by unfold jab jat;rw[if_pos vO];rfl⟩,fun h2=>by omega⟩
  have h2:2<=l.length:=vO
  have A:=jby h h2
  obtain⟨a,ha⟩:∃ a,l[0]?=some a:=⟨_,bA vO⟩
  obtain⟨b,hb⟩:∃ b,l[l.length - 1]?=some b:=⟨_,bA vO⟩
  have ga:l.getD 0 pd=a:=by rw[bE,ha];rfl
  have gb:l.getD (l.length - 1) pd=b:=by rw[bE,hb];rfl
  have o:=jcN h.rise vO ha hb
  obtain⟨c3,c4,b3,c5,b4⟩:=h.size a (bJ ha)
  obtain⟨c6,c7,c8,c9,d0⟩:=h.size b (bJ hb)
  by_cases hk:0 < comK l
  ·have b5:jav f (jal (comK l) l):=(jcx (comK l) h (fun p E q hq=>(A p E).1.trans (A q hq).1.symm) (fun p E=>(A p E).2)).mono vO
   obtain⟨_,i2,i3⟩:=ih _ b5
   have a8:=i2 (fun e=>by have:=jaJ (comK l) l;rw[e]at this;simp at this;omega);have b6:=i3 (by rw[jaJ];omega) (jgy vO);have e:jao (jab (f+1)) l=⟨2,a.1.extract 0 (comK l),⟨#[]⟩,refB (jab (f+1) (jal (comK l) l)).text :: jar 15⟩:=by unfold jao;rw[if_neg J,if_neg h1,if_pos hk,ga]
   have d1:=(A a (bJ ha)).2;have b7:(a.1.extract 0 (comK l)).size=comK l:=by rw[cL];omega
   have K:jbd (InlD (f+1)) (jao (jab (f+1)) l):=by
    rw[e];refine .ext _ _ ?_ a8.may.1.pos ?_
    ·simp[jad.pathOk,b7,jaW b3];omega
    ·by_cases hs:(jab (f+1) (jal (comK l) l)).text.size < 32
     ·exact .inr ⟨_,a8.may.2 hs,b6⟩
     ·exact .inl ⟨_,jbb _,by unfold refB;rw[if_neg hs]⟩
   refine⟨K,fun _=>⟨rfl,K,by rw[e];simp,fun O=>?_⟩,fun _ a3=>by omega⟩
   have Q:(jab (f+1+1) l).kids=jbG (jab (f+1) (jal (comK l) l)):=by
    show jat (jab (f+1)) l=_;unfold jat;rw[if_neg vO,if_pos hk]
   rw[Q];unfold jbG;rw[if_pos];rcases fO (jab (f+1) (jal (comK l) l)).text.size 32 with hx | hx
   ·exact hx
   ·have b8:=jwx (T:=jab (f+1) (jal (comK l) l)) vO
    have ht:(jab (f+1+1) l).text=extB (jao (jab (f+1)) l):=by show jaR (jao (jab (f+1)) l)=_;rw[e];rfl
    rw[ht,e]at O
    have:=jk5 [jaz (putB (a.1.extract 0 (comK l)) false),refB (jab (f+1) (jal (comK l) l)).text]
    have:=jh2 [jaz (putB (a.1.extract 0 (comK l)) false),refB (jab (f+1) (jal (comK l) l)).text] _ (bC _ (bD ..))
    have a0:(jcm [jaz (putB (a.1.extract 0 (comK l)) false),refB (jab (f+1) (jal (comK l) l)).text]).size < 32:=O;omega
  ·obtain⟨H,X⟩:=vE ((List.range 16).map fun i=>if (cutL i l).length=0 then (⟨#[]⟩:vB)else refB (jab (f+1) (jal 1 (cutL i l))).text)
   have e:jao (jab (f+1)) l=⟨3,⟨#[]⟩,if a.1.size=0 then a.2 else ⟨#[]⟩,H⟩:=by unfold jao;rw[if_neg J,if_neg h1,if_neg hk,ga,X]
   have a1:∀ i,(cutL i l).length≠0->jdZ f (jab (f+1) (jal 1 (cutL i l))) (jao (jab f) (jal 1 (cutL i l))):=fun i hi =>
    (ih _ (jd8 i h)).2.1 (fun e=>by have:=jaJ 1 (cutL i l);rw[e]at this;simp at this;omega)
   have a9:H.length=16:=by rw[X];simp
   have b0:∀ i,i < 16->H[i]?=some (if (cutL i l).length=0 then (⟨#[]⟩:vB)else refB (jab (f+1) (jal 1 (cutL i l))).text):=fun i hi=>by
    rw[X,cA,fB hi];rfl
   have a5:∀ r∈H,r.size≠0->MayP (InlD (f+1)) r:=by
    intro r hr b1;rw[X]at hr
    obtain⟨i,_,rfl⟩:=bI.1 hr
    by_cases hi:(cutL i l).length=0
    ·rw[if_pos hi]at b1;exact absurd rfl b1
    ·rw[if_neg hi];exact (a1 i hi).may.1
   have a4:∀ (p:Pair) (x:vU) (r:vN),p∈l->p.l=x :: r->∃ y,(x.toNat,y)∈jaA 0 H:=by
    intro p x r E b2;have hx:=jco (h.size p E).2.2.1 b2;have hc:(cutL x.toNat l).length≠0:=by
     intro J;have hm:p∈cutL x.toNat l:=cN.2 ⟨E,by unfold jfu;rw[show p.1.data.toList=x :: r from b2];simp⟩;rw[bG J]at hm;cases hm
    have h5:=b0 x.toNat hx;rw[if_neg hc]at h5
    have:=ji5 H 0 x.toNat _ h5 (a1 _ hc).may.1.pos
    rw[cR]at this
    exact⟨_,this⟩
   have d2:comK l=jbh a.l b.l:=by unfold comK jam;rw[ga,gb]
   have a3:jbh a.l b.l=0:=vO
   have Z:2<=min (if a.1.size=0 then a.2 else (⟨#[]⟩:vB)).size 1+(jaA 0 H).length:=by
    cases hal:a.l with
    | nil =>
     have b9:a.1.size=0:=by show a.1.data.toList.length=0;rw[show a.1.data.toList=[]from hal];rfl
     rw[if_pos b9];cases hbl:b.l with
     | nil=>rw[hbl]at o;exact absurd o (not_lt_nil _)
     | cons y r =>
      obtain⟨z,hz⟩:=a4 b y r (bJ hb) hbl
      have:=jAN hz
      omega
    | cons x r =>
     cases hbl:b.l with
     | nil=>rw[hbl]at o;exact absurd o (not_lt_nil _)
     | cons y t =>
      obtain⟨z,hz⟩:=a4 a x r (bJ ha) hal
      obtain⟨z',c0⟩:=a4 b y t (bJ hb) hbl
      have c1:x≠y:=by
       intro e;rw[hal,hbl,e]at a3;simp[jbh]at a3
      have:=jA9 hz c0 (fun e=>c1 (dX.1 (Prod.mk.inj e).1))
      omega
   have K:jbd (InlD (f+1)) (jao (jab (f+1)) l):=by
    rw[e];refine .branch _ _ a9 ?_ a5 Z;split
    ·exact b4
    ·exact bY _
   refine⟨K,fun _=>⟨rfl,K,by rw[e];simp,fun O=>?_⟩,fun _ _=>by rw[e]⟩
   have Q:(jab (f+1+1) l).kids=(List.range 16).flatMap fun i=>if (cutL i l).length=0 then []else jbG (jab (f+1) (jal 1 (cutL i l))):=by
    show jat (jab (f+1)) l=_;unfold jat;rw[if_neg vO,if_neg hk]
   rw[Q,List.flatMap_eq_nil_iff];intro i hi;have a6:=dR.1 hi
   by_cases hc:(cutL i l).length=0
   ·rw[if_pos hc]
   ·rw[if_neg hc]
    unfold jbG;rw[if_pos];rcases fO (jab (f+1) (jal 1 (cutL i l))).text.size 32 with hx | hx
    ·exact hx
    ·have b8:=jwx (T:=jab (f+1) (jal 1 (cutL i l))) vO
     have ht:(jab (f+1+1) l).text=jfg (jao (jab (f+1)) l):=by show jaR (jao (jab (f+1)) l)=_;rw[e];rfl
     rw[ht,e]at O;have h6:=b0 i a6;rw[if_neg hc]at h6;have c2:jb8 ⟨3,⟨#[]⟩,if a.1.size=0 then a.2 else ⟨#[]⟩,H⟩=jbZ H (if a.1.size=0 then a.2 else ⟨#[]⟩):=jfI _ a9;have a7:refB (jab (f+1) (jal 1 (cutL i l))).text∈jbZ H (if a.1.size=0 then a.2 else ⟨#[]⟩):=by
      unfold jbZ;refine iF _ (bI.2 ⟨_,bJ h6,?_⟩);rw[if_neg vO]
     have h7:=jh2 _ _ a7;have h8:=jk5 (jbZ H (if a.1.size=0 then a.2 else ⟨#[]⟩));have a0:(jcm (jb8 ⟨3,⟨#[]⟩,if a.1.size=0 then a.2 else ⟨#[]⟩,H⟩)).size < 32:=O;rw[c2]at a0;omega
def jik(l:vL)(T:PT):Prop:=∀ (w:vW) (v:vV),jbN w->RdP w v l->vQ 72 #[v] w fun e w'=>∃ k,e=.returned (ptrV k)/\jb2 (fun x=>w.heap.size<=x) T k w'/\Ext w w'
theorem jvL(w:vW)(W1 W2:vW)(bn:Nat)(h1:W1=w.alloc (.cells #[.string ⟨#[]⟩,.slice none 0 0] 141))(h2:Ext W1 W2)(h3:bn=W1.heap.size)(h4:bn < W2.heap.size):jdX w W2 w.heap.size bn ⟨#[]⟩ [] (.slice none 0 0) []:=by
 have q:W1.heap.size=w.heap.size+1:=by rw[h1,bK]
 have o:Ext w W2:=(by rw[h1]at h2;exact ((ExtR w).alloc _).trans h2)
 refine⟨?_,bL _,ORow.nil _ _ o,fun _=>rfl,fun e=>(by cases e),by omega,fun e=>(by cases e),by omega,h4,by unfold jaT;rfl⟩
 rw[h1]at h2;exact (Blk.new w _).keeps h2 (fun h=>h)
theorem jqD(f:Nat)(l:vL)(h0:l.length=0):jik l (jab (f+1) l):=by
 intro w v hc hv
 obtain⟨a,c,K⟩:=hv.sl
 rw[h0]at K;subst K;have ht:jab (f+1) l=.mk (jaR jak) []:=by
  show PT.mk (jaR (jao _ l)) (jat _ l)=_;unfold jao jat;rw[if_pos h0,if_pos vO]
 rw[ht];clear hv hc h0
 obtain⟨W1,q⟩:=vE (w.alloc (.cells #[.string ⟨#[]⟩,.slice none 0 0] 141))
 have X:=Hd q;go_enter Tryz.func72,Tryz.ntmps72;go_wp2_with (first |(refine jah Tryz.allocNode rfl rfl ?_;intro W3 O E;refine jae (vs:=jak.cells) rfl rfl rfl rfl O rfl Tryz.szNode (jad.one _) ?_;intro W4 z H;simp only[bK]at z H) |(refine jaf 99 (.tmp 4) rfl rfl _ _ rfl (jas _ _ jak rfl z) ?_))
 have A:Ext W1 W4:=by
  rw[<-q]at E;exact E.trans' H (fun x hx e=>by have e:x=w.heap.size+1:=e;rw[q,bK]at hx;omega)
 have HH:=Hd (jvL w W1 W4 (w.heap.size+1) q A (by rw[q,bK]) z.lt);have HG:=Hd (jbd.none (I:=InlD f));clear E H O q X ht;unfold jad.V;refine vH (jj8 (inlP f) _ jak HG.o) fun w9 hE=>?_;have Q:=HH.o.ext hE;have q0:w9.cell? ⟨w.heap.size,0,none⟩=some (.string ⟨#[]⟩):=Q.blk.cell (i:=0) vF;have f0:w9.frozen? ⟨w.heap.size,0,none⟩=false:=Q.blk.frozen;have Z:=Hd (Q.setText (jaR jak))
 obtain⟨tx,J⟩:=vE (jaR jak)
 rw[<-J]at Z ⊢;have a0:=Hd J;clear Q J z A;go_wp2_with fail
 go_ret
 exact⟨w.heap.size,rfl,by rw[<-a0.o];exact Z.o.part,Z.o.row.ext⟩
theorem jr6(f:Nat)(l:vL)(A:l.length=1)(hok:jav f l):jik l (jab (f+1) l):=by
 intro w v hc hv
 obtain⟨p,hp⟩:∃ p,l=[p]:=by
  match l,A with
  | [p],_=>exact⟨p,rfl⟩
 have hn:jao (jab f) l=⟨1,p.1,p.2,jar 16⟩:=by unfold jao;rw[if_neg vO,if_pos A,hp];rfl
 have q:=(good f l hok).1;rw[hn]at q;have ht:jab (f+1) l=.mk (jaR ⟨1,p.1,p.2,jar 16⟩) []:=by
  show PT.mk (jaR (jao _ l)) (jat _ l)=_;rw[hn];unfold jat;rw[if_pos vO]
 obtain⟨T,hT⟩:=vE (jab (f+1) l)
 rw[<-hT]at ht ⊢;have HT:=Hd ht;rcases hv with⟨_,_,_,h0⟩ |⟨b,o,c,rfl,hb,hcl,hcell⟩
 ·rw[h0]at A;cases A
 obtain⟨q1,q2⟩:=hcell 0 p (by rw[hp];rfl)
 rw[Nat.zero_mul,gV]at q1 q2;rw[A]at hcl ⊢
 obtain⟨x,y⟩:=p
 have q:=q;have Q1:=Hd q1;have Q2:=Hd q2;have HG:=Hd q
 obtain⟨W1,z⟩:=vE (w.alloc (.cells #[.string ⟨#[]⟩,.slice none 0 0] 141))
 clear hc A hok hp hn q ht hT hcell q1 q2;go_enter Tryz.func72,Tryz.ntmps72;go_wp2_with (refine jah Tryz.allocNode rfl rfl ?_;intro W3 a0 O;refine jae (vs:=jak.cells) rfl rfl rfl rfl a0 rfl Tryz.szNode (jad.one _) ?_;intro W4 E Q;simp only[bK]at E Q)
 have J:Ext W1 W4:=by
  rw[<-z]at O;exact O.trans' Q (fun x hx e=>by have e:x=w.heap.size+1:=e;rw[z,bK]at hx;omega)
 have hh:=jvL w W1 W4 (w.heap.size+1) z J (by rw[z,bK]) E.lt;have H:=Hd hh;have a1:=Hd E;clear O Q a0 z E J hh;refine jaw [0,1,2,3,4,5,6,7,8,9] [9] Ext ExtR ExtT vY vY vY ?_;iterate 3 refine vP ?_
 refine qL ⟨b,o,none⟩ _ rfl (fun w1 A=>jac Tryz.uStr rfl (jaa (jaa (by exact Q1.o) (H.o.row.ext.trans (jaq _))) A)) ?_;refine vS ?_;iterate 3 refine vP ?_
 refine qL ⟨b,o+1,none⟩ _ rfl (fun w1 A=>jac Tryz.uStr rfl (jaa (jaa (by exact Q2.o) (H.o.row.ext.trans (jaq _))) A)) ?_;refine vS ?_
 refine vP ?_
 refine qH _ rfl (fun w5 Z K hK=>?_);have hX:=(jaq W4).trans Z;refine jjn (vs:=jb9 1 x y ⟨#[]⟩) rfl rfl rfl (a1.o.keeps hX (fun h=>h)) rfl Tryz.szNode (jbF _ _ _ _) ?_;intro W6 a2 a3;have H6:=Hd ((H.o.ext hX).other a3);have a4:=Hd (show Blk W6 (w.heap.size+1) (.cells (jad.cells ⟨1,x,y,jar 16⟩).toArray 99)from a2);clear Z hX a2 a3 Q1 Q2 a1 H;refine vS ?_;refine hK _ _ ?_;clear hK K;refine qE (fun w7 Z=>?_);have HH:=Hd (H6.o.ext Z);have a5:=a4.o.keeps Z (fun h=>h);clear Z a4 H6;go_wp2_with (refine jaf 99 (.tmp 4) rfl rfl _ _ rfl (jas _ _ ⟨1,x,y,jar 16⟩ rfl a5) ?_)
 refine vH (jj8 (inlP _) _ ⟨1,x,y,jar 16⟩ HG.o) fun w9 hE=>?_;have h9:=HH.o.ext hE;have q0:w9.cell? ⟨w.heap.size,0,none⟩=some (.string ⟨#[]⟩):=h9.blk.cell (i:=0) vF;have f0:w9.frozen? ⟨w.heap.size,0,none⟩=false:=h9.blk.frozen;have H9:=Hd (h9.setText (jaR ⟨1,x,y,jar 16⟩))
 obtain⟨tx,X⟩:=vE (jaR ⟨1,x,y,jar 16⟩)
 rw[<-X]at H9 ⊢;have a6:=Hd X;clear h9 X;go_wp2_with fail
 go_ret
 exact⟨w.heap.size,rfl,by rw[HT.o, <-a6.o];exact H9.o.part,H9.o.row.ext⟩
theorem jr5(f:Nat)(l:vL)(J:2<=l.length)(hln:l.length<=1000)(hok:jav (f+1) l)(hk:0 < comK l)(HB:jik (jal (comK l) l) (jab (f+1) (jal (comK l) l))):jik l (jab (f+1+1) l):=by
 intro w v hc hv
 obtain⟨a,ha⟩:∃ a,l[0]?=some a:=⟨_,bA vO⟩
 obtain⟨z,hz⟩:∃ z,l[l.length - 1]?=some z:=⟨_,bA vO⟩
 have ga:l.getD 0 pd=a:=by rw[bE,ha];rfl
 have gz:l.getD (l.length - 1) pd=z:=by rw[bE,hz];rfl
 obtain⟨f4,f5,d2,f6,f7⟩:=hok.size a (bJ ha)
 obtain⟨f8,f9,d3,g0,g1⟩:=hok.size z (bJ hz)
 have E:=(good (f+1) l hok).1;have d4:=hv;rcases hv with⟨_,_,_,h0⟩ |⟨b,o,c,rfl,hb,hcl,hcell⟩
 ·rw[h0]at J;simp at J
 obtain⟨q1,b3⟩:=hcell 0 a ha
 rw[Nat.zero_mul,gV]at q1 b3
 obtain⟨q2,_⟩:=hcell (l.length - 1) z hz
 obtain⟨A,K⟩:=vE (comK l)
 have b4:A=jam a.1 z.1:=by rw[K];unfold comK;rw[ga,gz]
 obtain⟨x,y⟩:=a
 obtain⟨xb,yb⟩:=z
 simp only at f4 f5 d2 f6 f7 f8 f9 d3 g0 g1 q1 b3 q2 b4;have X:=jcx (comK l) hok (fun p hp q hq=>((jby hok J p hp).1).trans (jby hok J q hq).1.symm) (fun p hp=>(jby hok J p hp).2);have a4:=(jby hok J (x,y) (bJ ha)).2;have d5:∀ p∈l,A<=p.1.size/\p.1.size<=1000000:=fun p hp=>⟨by rw[K];exact (jby hok J p hp).2,by have:=(hok.size p hp).2.1;omega⟩;rw[<-K]at hk X a4 HB;have a4:A<=x.size:=a4
 obtain⟨T',a5⟩:∃ T',T'=jab (f+1) (jal A l):=⟨_,rfl⟩
 have b5:=(good f _ (X.mono vO)).2.1 (fun e=>by have:=jaJ A l;rw[e]at this;simp at this;omega);rw[<-a5]at HB b5
 obtain⟨r,hr⟩:=vE (refB T'.text)
 have hn:jao (jab (f+1)) l=⟨2,x.extract 0 A,⟨#[]⟩,r :: jar 15⟩:=by unfold jao;rw[if_neg vO,if_neg vO, <-K,if_pos hk,ga, <-a5, <-hr]
 rw[hn]at E;have ht:jab (f+1+1) l=.mk (jaR ⟨2,x.extract 0 A,⟨#[]⟩,r :: jar 15⟩) (jbG T'):=by
  show PT.mk (jaR (jao _ l)) (jat _ l)=_;rw[hn];unfold jat;rw[if_neg vO, <-K,if_pos hk, <-a5]
 obtain⟨T,hT⟩:=vE (jab (f+1+1) l)
 rw[<-hT]at ht ⊢;have c0:((l.length:Int) == 0)=false:=by simp;exact fun e=>by rw[e]at J;simp at J
 have c1:¬(l.length:Int)=0:=vO
 have c2:((l.length:Int) == 1)=false:=by simp;omega
 have c3:¬(l.length:Int)=1:=vO
 have c4:(0:Int)<=(l.length:Int) - 1:=vO
 have c5:(l.length:Int) - 1 < (l.length:Int):=vO
 have c6:((l.length:Int) - 1).toNat=l.length - 1:=vO
 have c7:(0:Int) < (l.length:Int):=vO
 have d7:0 < l.length:=vO
 have d0:0 < A:=hk;have e0:(0:Int) < (A:Int):=vO
 have e1:(A:Int)<=(x.size:Int):=vO
 have e2:(x.extract 0 A).size=A:=by rw[cL];omega
 have HT:=Hd ht;have Q1:=Hd q1;have Q2:=Hd q2;have d6:=Hd b4;have HG:=Hd E;have g2:=Hd d4;have g3:=Hd d5;have b9:=Hd b5.kid;have HR:=Hd hr;have g4:=Hd HB;have HC:=Hd hc;have HL:=Hd (show jal A l≠[]from fun e=>by have:=jaJ A l;rw[e]at this;simp at this;omega);have g5:=Hd (show (jal A l).length<=1000000 by rw[jaJ];omega);clear hc ha hz ga gz hok E d4 hcell q1 b3 q2 K b4 X a4 d5 a5 b5 hr hn ht hT HB d2 d3 e2
 obtain⟨W1,Z⟩:=vE (w.alloc (.cells #[.string ⟨#[]⟩,.slice none 0 0] 141))
 go_enter Tryz.func72,Tryz.ntmps72;go_wp2_with (refine jah Tryz.allocNode rfl rfl ?_;intro W3 d8 b6;refine jae (vs:=jak.cells) rfl rfl rfl rfl d8 rfl Tryz.szNode (jad.one _) ?_;intro W4 a6 b7;simp only[bK]at a6 b7)
 have a0:Ext W1 W4:=by
  rw[<-Z]at b6;exact b6.trans' b7 (fun x hx e=>by have e:x=w.heap.size+1:=e;rw[Z,bK]at hx;omega)
 have hh:=jvL w W1 W4 (w.heap.size+1) Z a0 (by rw[Z,bK]) a6.lt;have d9:=Hd hh;have e3:=Hd a6;have Q:=Hd hh.row.ext;clear b6 b7 d8 Z a6 a0 hh;refine jan [0,1,2,3,4,5,6,7,8,9,10,11,12,13] Ext ExtR ExtT vY vY vY ?_;iterate 3 refine vK ?_
 refine qKL ⟨b,o,none⟩ _ rfl (fun w1 O=>jac Tryz.uStr rfl (jaa (jaa (by exact Q1.o) (Q.o.trans (jaq _))) O)) ?_;refine vS ?_;iterate 6 refine vK ?_
 refine qKL ⟨b,o+(l.length - 1) * 2,none⟩ _ rfl (fun w1 O=>jac Tryz.uStr rfl (jaa (jaa (by exact Q2.o) (Q.o.trans (jaq _))) O)) ?_;refine vS ?_;refine qKC _ 100 #[.string x,.string xb] (.int .i64 (A:Nat)) rfl (fun w1=>jaG (vX 100) vY) (fun w1 O=>by rw[d6.o];exact (jfL w1 x xb vO vO).mono (fun e w2 ⟨O,n,J⟩=>⟨O,by rw[J];exact (ExtR w1).drewN n⟩)) ?_;refine vS ?_;iterate 2 refine vK ?_
 refine qKE (fun w5 he=>?_);have a7:=(jaq W4).trans he;have e4:=Hd (d9.o.ext a7);have e5:=Hd (e3.o.keeps a7 (fun h=>h));have Q:=Hd (Q.o.trans a7);clear he a7 d9 e3;go_wp2_with fail
 refine jan [0,1,2,3,4,5,6,7,8,9,10,11,12] Ext ExtR ExtT vY vY vY ?_;iterate 3 refine vK ?_
 refine qKL ⟨b,o,none⟩ _ rfl (fun w1 O=>jac Tryz.uStr rfl (jaa (jaa (by exact Q1.o) (Q.o.trans (jaq _))) O)) ?_;refine vS ?_;iterate 6 refine vK ?_
 refine qKL ⟨b,o+(l.length - 1) * 2,none⟩ _ rfl (fun w1 O=>jac Tryz.uStr rfl (jaa (jaa (by exact Q2.o) (Q.o.trans (jaq _))) O)) ?_;refine vS ?_;refine qKC _ 100 #[.string x,.string xb] (.int .i64 (A:Nat)) rfl (fun w1=>jaG (vX 100) vY) (fun w1 O=>by rw[d6.o];exact (jfL w1 x xb vO vO).mono (fun e w2 ⟨O,n,J⟩=>⟨O,by rw[J];exact (ExtR w1).drewN n⟩)) ?_;refine vS ?_
 refine vK ?_
 refine qKE (fun w6 he=>?_);have a9:=(jaq w5).trans he;have g6:=Hd (e4.o.ext a9);have e6:=e5.o.keeps a9 (fun h=>h);have Q:=Hd (Q.o.trans a9);have q6:=jaa Q1.o Q.o;clear he a9 e4 e5;go_wp2_with (refine jae (vs:=jb9 2 (x.extract 0 A) ⟨#[]⟩ ⟨#[]⟩) rfl rfl rfl rfl e6 rfl Tryz.szNode (jbF _ _ _ _) ?_;intro W7 e7 e8)
 have e9:=Hd (g6.o.other e8);have g7:=Hd e7;clear e7 e8 e6 q6;have Q:=Hd e9.o.row.ext;refine (jnu W7 _ A l (g2.o.ext Q.o) vO g3.o).mono ?_;rintro e w8 ⟨v8,rfl,b0⟩;have b1:Ext W7 w8:=b0.ext;have g8:=Hd (e9.o.ext b1);have g9:=Hd (g7.o.keeps b1 (fun h=>h));have a1:=Hd b0.rd;have f1:=HC.o.ext (Q.o.trans b1)
 obtain⟨a8,c8,h3⟩:=b0.sl
 subst h3;clear b0 b1;go_wp2_with fail
 refine (jxr f1 g8.o (by simp) _ (jal A l) a1.o HL.o g5.o T' b9.o (g4.o w8 _ f1 a1.o)).mono ?_;rintro e b2 ⟨u,bs,rfl,f2,h5,c9,a2⟩;rw[<-HR.o];have H:=g9.o.keeps a2 (by rintro (h | h) <;> first | omega | cases h);have q3:b2.cell? ⟨w.heap.size+1,3,none⟩=some (.string ⟨#[]⟩):=H.cell (i:=3) vF;have f3:b2.frozen? ⟨w.heap.size+1,3,none⟩=false:=H.frozen;have a3:=H.set_same (i:=3) (.string r);have d1:Hid (Blk (b2.setCell ⟨w.heap.size+1,3,none⟩ (.string r)) (w.heap.size+1) (.cells (jad.cells ⟨2,x.extract 0 A,⟨#[]⟩,r :: jar 15⟩).toArray 99)):=Hd a3;have HH:=Hd (f2.other (jag.oneSet b2 ⟨w.heap.size+1,3,none⟩ (.string r)));clear f2 c9 a2 H a3;go_wp2_with (refine jaf 99 (.tmp 4) rfl rfl _ _ rfl (jas _ _ ⟨2,x.extract 0 A,⟨#[]⟩,r :: jar 15⟩ rfl d1.o) ?_)
 refine vH (jj8 (inlP _) _ ⟨2,x.extract 0 A,⟨#[]⟩,r :: jar 15⟩ HG.o) fun w9 hE=>?_;have h9:=HH.o.ext hE;have q0:w9.cell? ⟨w.heap.size,0,none⟩=some (.string ⟨#[]⟩):=h9.blk.cell (i:=0) vF;have f0:w9.frozen? ⟨w.heap.size,0,none⟩=false:=h9.blk.frozen;have H9:=Hd (h9.setText (jaR ⟨2,x.extract 0 A,⟨#[]⟩,r :: jar 15⟩))
 obtain⟨tx,b8⟩:=vE (jaR ⟨2,x.extract 0 A,⟨#[]⟩,r :: jar 15⟩)
 rw[<-b8]at H9 ⊢;have h4:=Hd b8;clear h9 b8;go_wp2_with fail
 go_ret
 exact⟨w.heap.size,rfl,by rw[HT.o, <-h4.o];exact H9.o.part,H9.o.row.ext⟩
end Go.Proofs.YtepbencaoiompaaGreatDoor
