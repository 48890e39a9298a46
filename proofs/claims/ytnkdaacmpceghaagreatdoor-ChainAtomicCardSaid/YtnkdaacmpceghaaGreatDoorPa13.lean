/- Lemmas; each is under no condition but those that it states. -/
import Derived.Test.YtnkdaacmpceghaaGreatDoorPa12
import Derived.Laws.Cover1
namespace Go.Proofs.YtnkdaacmpceghaaGreatDoor
set_option linter.unusedSimpArgs false
set_option linter.unusedVariables false
set_option maxRecDepth 100000
set_option maxHeartbeats 16000000
open Go Go.RowKit
variable (acc:vM)(k i:Nat)(w:vW){a:Act}{args vs lb:Array vV}{assign body:Code}{Q:Exit->Act->vW->Prop}{bs:List Nat}{b f sz m g o:Nat}{A A':Nat->Prop}{P:Program}{n:jae}{t r h y x s:vB}{v u u':vV}{R R':vV->vW->Prop}{W w' w0 W' w1 w2:vW}
abbrev Pair:=vB × vB
abbrev vL:=List Pair
def jds(k:vB):Bool:=decide (0 < k.size/\k.size<=6)
def jcu(k:vB):Bool:=decide (0 < k.size/\k.size<=80)
theorem ja5(h:s.size=0):s=⟨#[]⟩:=by
 obtain⟨⟨l⟩⟩:=s
 cases l with
 | nil=>rfl
 | cons x y=>exact absurd h (gV _)
theorem jgl(k:vB)(hs:k.size<=9223372036854775807):vQ 125 #[.string k] w fun e w'=>e=.returned (.bool (jds k))/\w'=w:=by
 by_cases h0:k.size=0
 ·have:=ja5 h0
  subst this;unfold vQ;go_in;go_wp2_with fail
  go_ret
  exact⟨rfl,rfl⟩
 ·have q:=jbq (s:=k) vO
  by_cases h6:k.size<=6
  ·have c:(k.size:Int)<=6:=vO
   have e:jds k=true:=by unfold jds;simp;omega
   have E:=Hd e;clear e;unfold vQ;go_in;go_wp2_with fail
   go_ret
   exact⟨by rw[E.o];rfl,rfl⟩
  ·have c:¬(k.size:Int)<=6:=vO
   have e:jds k=false:=by unfold jds;simp;omega
   have E:=Hd e;clear e;unfold vQ;go_in;go_wp2_with fail
   go_ret
   exact⟨by rw[E.o];rfl,rfl⟩
theorem jfU(k:vB)(hs:k.size<=9223372036854775807):vQ 126 #[.string k] w fun e w'=>e=.returned (.bool (jcu k))/\w'=w:=by
 by_cases h0:k.size=0
 ·have:=ja5 h0
  subst this;unfold vQ;go_in;go_wp2_with fail
  go_ret
  exact⟨rfl,rfl⟩
 ·have q:=jbq (s:=k) vO
  by_cases h6:k.size<=80
  ·have c:(k.size:Int)<=80:=vO
   have e:jcu k=true:=by unfold jcu;simp;omega
   have E:=Hd e;clear e;unfold vQ;go_in;go_wp2_with fail
   go_ret
   exact⟨by rw[E.o];rfl,rfl⟩
  ·have c:¬(k.size:Int)<=80:=vO
   have e:jcu k=false:=by unfold jcu;simp;omega
   have E:=Hd e;clear e;unfold vQ;go_in;go_wp2_with fail
   go_ret
   exact⟨by rw[E.o];rfl,rfl⟩
def RdP(w:vW)(v:vV)(xs:vL):Prop:=
 (∃ a c,v=.slice a 0 c/\xs=[])\/∃ b o c,v=.slice (some ⟨b,o,none⟩) xs.length c/\b < w.heap.size/\xs.length<=c/\∀ (j:Nat) x,xs[j]?=some x->w.cell? ⟨b,o+j * 2,none⟩=some (.string x.1)/\w.cell? ⟨b,o+j * 2+1,none⟩=some (.string x.2)
theorem RdP.ext{w:vW}{xs:vL}(h:RdP w v xs)(k:Ext w w'):RdP w' v xs:=by
 rcases h with h |⟨b,o,c,h1,h2,h3,h4⟩
 ·exact .inl h
 ·exact .inr ⟨b,o,c,h1,bC h2 k.size,h3,fun j x e=>⟨jaa (h4 j x e).1 k,jaa (h4 j x e).2 k⟩⟩
theorem RdP.sl{w:vW}{xs:vL}(h:RdP w v xs):∃ a c,v=.slice a xs.length c:=by
 rcases h with⟨a,c,h1,h2⟩ |⟨b,o,c,h1,_⟩
 ·exact⟨a,c,by rw[h1,h2];rfl⟩
 ·exact⟨_,c,h1⟩
def Pair.V(p:Pair):vV:=.agg #[.string p.1,.string p.2]
def badN(l:vL)(i:Nat):Bool := !jds (l.getD i (⟨#[]⟩,⟨#[]⟩)).1 || !jcu (l.getD i (⟨#[]⟩,⟨#[]⟩)).2 ||(decide (0 < i) && !jdv (l.getD (i - 1) (⟨#[]⟩,⟨#[]⟩)).1 (l.getD i (⟨#[]⟩,⟨#[]⟩)).1)
def jbf(l:vL):Int:=if (List.range l.length).any (badN l)then 1 else if 40 < l.length then 12 else 0
def jwV(w:vW)(l:vL)(i:vV)(wr:vW):Prop:=∃ k:Nat,k<=l.length/\i=.int .i64 k/\Ext w wr/\(List.range k).any (badN l)=false
theorem jhe(v:vV)(l:vL)(hv:RdP w v l)(hn:l.length<=9223372036854775807)(hs:∀ p∈l,p.1.size<=9223372036854775807/\p.2.size<=9223372036854775807):vR 83 #[v] w (.int .i64 (jbf l)):=by
 obtain⟨a,c,b4⟩:=hv.sl
 have HV:=Hd hv;have HS:=Hd hs;subst b4;clear hv hs;unfold vR vQ;go_in;go_wp2_with fail
 go_loopw [7] (fun i wr=>jwV w l i wr) (fun i _=>l.length - (intOf i).toNat)
 case atStart=>exact⟨0,by omega,rfl,ExtR w,rfl⟩
 case round =>
  obtain⟨k,hk,rfl,hE,a8⟩:=hrel
  have HE:=Hd hE;have a2:=Hd a8;clear hE a8
  by_cases hlt:k < l.length
  ·rcases HV.o with⟨_,_,_,h0⟩ |⟨b,o,c',hh,hb,hc,hcell⟩
   ·rw[h0]at hlt;cases hlt
   cases hh
   obtain⟨p,hp⟩:∃ p,l[k]?=some p:=⟨_,bB hlt⟩
   obtain⟨q1,q2⟩:=hcell k p hp
   have q1:=jaa q1 HE.o;have q2:=jaa q2 HE.o;have b1:(k:Int) < (l.length:Int):=vO
   obtain⟨x,y⟩:=p
   simp only at q1 q2;have K:l.getD k (⟨#[]⟩,⟨#[]⟩)=(x,y):=by rw[bJ,hp];rfl
   have a1:=HS.o (x,y) (bG hp);have a7:=Hd a1.1;have a9:=Hd a1.2;have a3:(wr.alloc (.cells #[.string x,.string y] 52)).cell? ⟨wr.heap.size,0,none⟩=some (.string x):=(Blk.new wr _).cell vF;have a4:(wr.alloc (.cells #[.string x,.string y] 52)).cell? ⟨wr.heap.size,1,none⟩=some (.string y):=(Blk.new wr _).cell vF;have Q0:=Hd a3;have Q1:=Hd a4;have A:badN l k=true->jbf l=1:=fun h=>by
    unfold jbf;rw[if_pos (gY.2 ⟨k,fZ.2 hlt,h⟩)]
   have H:badN l k=false->(List.range (k+1)).any (badN l)=false:=fun h=>by
    rw[gI,List.any_append,a2.o];simp[h]
   cases hk1:jds x with
   | false =>
    have Z:=Hd (A (by unfold badN;rw[K,hk1];rfl));have HK:=Hd hk1;clear hk1 K a1 a3 a4 A H hcell hp;go_wp2_with fail
    refine jaj (List.range 25) Ext ExtR ExtT vY vY vY ?_;simp only[List.range,List.range.loop]
    refine vK ?_
    refine qKL ⟨wr.heap.size,0,none⟩ _ rfl (fun O q=>jab Tryz.uStr rfl (jaa (by exact Q0.o) q)) ?_;refine vS ?_;refine qKC _ 125 #[.string x] (.bool false) rfl (fun w1=>jal (vX 125) vY) (fun w1 J=>(jgl w1 x (by have:=a7.o;omega)).mono (fun e O ⟨J,q⟩=>⟨by rw[J,HK.o],q ▸ ExtR w1⟩)) ?_;refine vS ?_;iterate 2 refine vK ?_
    iterate 4 (refine jbN _ rfl vY rfl ?_;refine vS ?_)
    iterate 2 refine vK ?_
    iterate 3 (refine jbN _ rfl vY rfl ?_;refine vS ?_)
    iterate 9 (refine jbN _ rfl vY rfl ?_;refine vS ?_)
    (refine jbN _ rfl vY rfl ?_;refine vS ?_)
    refine vK ?_
    refine qKE (fun w3 he=>?_);have X:=Hd (((HE.o.alloc _).trans (jak _)).trans he);clear he;go_wp2_with fail
    go_ret
    exact⟨by rw[Z.o];rfl,X.o⟩
   | true =>
    cases hv1:jcu y with
    | false =>
     have Z:=Hd (A (by unfold badN;rw[K,hk1,hv1];rfl));have HK:=Hd hk1;have a5:=Hd hv1;clear hk1 hv1 K a1 a3 a4 A H hcell hp;go_wp2_with fail
     refine jaj (List.range 25) Ext ExtR ExtT vY vY vY ?_;simp only[List.range,List.range.loop]
     refine vK ?_
     refine qKL ⟨wr.heap.size,0,none⟩ _ rfl (fun O q=>jab Tryz.uStr rfl (jaa (by exact Q0.o) q)) ?_;refine vS ?_;refine qKC _ 125 #[.string x] (.bool true) rfl (fun w1=>jal (vX 125) vY) (fun w1 J=>(jgl w1 x (by have:=a7.o;omega)).mono (fun e O ⟨J,q⟩=>⟨by rw[J,HK.o],q ▸ ExtR w1⟩)) ?_;refine vS ?_;iterate 3 refine vK ?_
     refine qKL ⟨wr.heap.size,1,none⟩ _ rfl (fun O q=>jab Tryz.uStr rfl (jaa (by exact Q1.o) q)) ?_;refine vS ?_;refine qKC _ 126 #[.string y] (.bool false) rfl (fun w1=>jal (vX 126) vY) (fun w1 J=>(jfU w1 y (by have:=a9.o;omega)).mono (fun e O ⟨J,q⟩=>⟨by rw[J,a5.o],q ▸ ExtR w1⟩)) ?_;refine vS ?_;iterate 3 refine vK ?_
     iterate 3 (refine jbN _ rfl vY rfl ?_;refine vS ?_)
     iterate 9 (refine jbN _ rfl vY rfl ?_;refine vS ?_)
     (refine jbN _ rfl vY rfl ?_;refine vS ?_)
     refine vK ?_
     refine qKE (fun w3 he=>?_);have X:=Hd (((HE.o.alloc _).trans (jak _)).trans he);clear he;go_wp2_with fail
     go_ret
     exact⟨by rw[Z.o];rfl,X.o⟩
    | true =>
     by_cases hk0:k=0
     ·have a0:=Hd (H (by unfold badN;rw[K,hk1,hv1,hk0];rfl))
      subst hk0;rw[iJ,gN]at q1 q2;have HK:=Hd hk1;have a5:=Hd hv1;clear hk1 hv1 K a1 a3 a4 A H hcell hp;go_wp2_with fail
      refine jaj (List.range 25) Ext ExtR ExtT vY vY vY ?_;simp only[List.range,List.range.loop]
      refine vK ?_
      refine qKL ⟨wr.heap.size,0,none⟩ _ rfl (fun O q=>jab Tryz.uStr rfl (jaa (by exact Q0.o) q)) ?_;refine vS ?_;refine qKC _ 125 #[.string x] (.bool true) rfl (fun w1=>jal (vX 125) vY) (fun w1 J=>(jgl w1 x (by have:=a7.o;omega)).mono (fun e O ⟨J,q⟩=>⟨by rw[J,HK.o],q ▸ ExtR w1⟩)) ?_;refine vS ?_;iterate 3 refine vK ?_
      refine qKL ⟨wr.heap.size,1,none⟩ _ rfl (fun O q=>jab Tryz.uStr rfl (jaa (by exact Q1.o) q)) ?_;refine vS ?_;refine qKC _ 126 #[.string y] (.bool true) rfl (fun w1=>jal (vX 126) vY) (fun w1 J=>(jfU w1 y (by have:=a9.o;omega)).mono (fun e O ⟨J,q⟩=>⟨by rw[J,a5.o],q ▸ ExtR w1⟩)) ?_;refine vS ?_;iterate 6 refine vK ?_
      iterate 9 (refine jbN _ rfl vY rfl ?_;refine vS ?_)
      iterate 2 refine vK ?_
      refine qKE (fun w3 he=>?_);have X:=Hd (((HE.o.alloc _).trans (jak _)).trans he);clear he;go_wp2_with fail
      go_roundw
      case rel=>exact⟨0+1,by omega,by go_num,X.o,a0.o⟩
      case measure=>exact vJ
     ·obtain⟨pp,b0⟩:∃ p,l[k - 1]?=some p:=⟨_,bB vO⟩
      obtain⟨z,zy⟩:=pp
      have b3:=jaa (jaa (hcell (k - 1) (z,zy) b0).1 HE.o) ((ExtR wr).alloc (.cells #[.string x,.string y] 52));have QP:=Hd b3;have b2:l.getD (k - 1) (⟨#[]⟩,⟨#[]⟩)=(z,zy):=by rw[bJ,b0];rfl
      have c0:(0:Int) < (k:Int):=vO
      have d0:0 < k:=vO
      have c1:(0:Int)<=(k:Int) - 1:=vO
      have c2:(k:Int) - 1 < (l.length:Int):=vO
      have c3:((k:Int) - 1).toNat=k - 1:=vO
      have HK:=Hd hk1;have a5:=Hd hv1;cases hls:Op.bytesLess z.toList x.toList with
      | false =>
       have Z:=Hd (A (by unfold badN jdv;rw[K,hk1,hv1,b2];simp only;rw[hls];simp;omega));clear hk1 hv1 K a1 a3 a4 A H hcell hp hk0 b0 b3 b2;go_wp2_with fail
       refine jaj (List.range 25) Ext ExtR ExtT vY vY vY ?_;simp only[List.range,List.range.loop]
       refine vK ?_
       refine qKL ⟨wr.heap.size,0,none⟩ _ rfl (fun O q=>jab Tryz.uStr rfl (jaa (by exact Q0.o) q)) ?_;refine vS ?_;refine qKC _ 125 #[.string x] (.bool true) rfl (fun w1=>jal (vX 125) vY) (fun w1 J=>(jgl w1 x (by have:=a7.o;omega)).mono (fun e O ⟨J,q⟩=>⟨by rw[J,HK.o],q ▸ ExtR w1⟩)) ?_;refine vS ?_;iterate 3 refine vK ?_
       refine qKL ⟨wr.heap.size,1,none⟩ _ rfl (fun O q=>jab Tryz.uStr rfl (jaa (by exact Q1.o) q)) ?_;refine vS ?_;refine qKC _ 126 #[.string y] (.bool true) rfl (fun w1=>jal (vX 126) vY) (fun w1 J=>(jfU w1 y (by have:=a9.o;omega)).mono (fun e O ⟨J,q⟩=>⟨by rw[J,a5.o],q ▸ ExtR w1⟩)) ?_;refine vS ?_;iterate 11 refine vK ?_
       refine qKL ⟨b,o+(k - 1) * 2,none⟩ _ rfl (fun O q=>jab Tryz.uStr rfl (jaa (by exact QP.o) q)) ?_;refine vS ?_
       refine vK ?_
       refine qKL ⟨wr.heap.size,0,none⟩ _ rfl (fun O q=>jab Tryz.uStr rfl (jaa (by exact Q0.o) q)) ?_;refine vS ?_;iterate 3 refine vK ?_
       refine qKE (fun w3 he=>?_);have X:=Hd (((HE.o.alloc _).trans (jak _)).trans he);clear he;go_wp2_with fail
       go_ret
       exact⟨by rw[Z.o];rfl,X.o⟩
      | true =>
       have a0:=Hd (H (by unfold badN jdv;rw[K,hk1,hv1,b2];simp only;rw[hls];simp));clear hk1 hv1 K a1 a3 a4 A H hcell hp hk0 b0 b3 b2;go_wp2_with fail
       refine jaj (List.range 25) Ext ExtR ExtT vY vY vY ?_;simp only[List.range,List.range.loop]
       refine vK ?_
       refine qKL ⟨wr.heap.size,0,none⟩ _ rfl (fun O q=>jab Tryz.uStr rfl (jaa (by exact Q0.o) q)) ?_;refine vS ?_;refine qKC _ 125 #[.string x] (.bool true) rfl (fun w1=>jal (vX 125) vY) (fun w1 J=>(jgl w1 x (by have:=a7.o;omega)).mono (fun e O ⟨J,q⟩=>⟨by rw[J,HK.o],q ▸ ExtR w1⟩)) ?_;refine vS ?_;iterate 3 refine vK ?_
       refine qKL ⟨wr.heap.size,1,none⟩ _ rfl (fun O q=>jab Tryz.uStr rfl (jaa (by exact Q1.o) q)) ?_;refine vS ?_;refine qKC _ 126 #[.string y] (.bool true) rfl (fun w1=>jal (vX 126) vY) (fun w1 J=>(jfU w1 y (by have:=a9.o;omega)).mono (fun e O ⟨J,q⟩=>⟨by rw[J,a5.o],q ▸ ExtR w1⟩)) ?_;refine vS ?_;iterate 11 refine vK ?_
       refine qKL ⟨b,o+(k - 1) * 2,none⟩ _ rfl (fun O q=>jab Tryz.uStr rfl (jaa (by exact QP.o) q)) ?_;refine vS ?_
       refine vK ?_
       refine qKL ⟨wr.heap.size,0,none⟩ _ rfl (fun O q=>jab Tryz.uStr rfl (jaa (by exact Q0.o) q)) ?_;refine vS ?_;iterate 3 refine vK ?_
       refine qKE (fun w3 he=>?_);have X:=Hd (((HE.o.alloc _).trans (jak _)).trans he);clear he;go_wp2_with fail
       go_roundw
       case rel=>exact⟨k+1,by omega,by go_num,X.o,a0.o⟩
       case measure=>exact vJ
  ·have b5:k=l.length:=vO
   subst b5
   by_cases h40:40 < l.length
   ·have c4:(40:Int) < (l.length:Int):=vO
    have e:jbf l=12:=by unfold jbf;rw[if_neg (by rw[a2.o];simp),if_pos h40]
    have E:=Hd e;clear e;go_wp2_with fail
    go_ret
    exact⟨by rw[E.o];rfl,HE.o⟩
   ·have c4:¬(40:Int) < (l.length:Int):=vO
    have e:jbf l=0:=by unfold jbf;rw[if_neg (by rw[a2.o];simp),if_neg h40]
    have E:=Hd e;clear e;go_wp2_with fail
    go_ret
    exact⟨by rw[E.o];rfl,HE.o⟩
section
section mixd
variable {P:Program} {l:List Oper} {E D:vW->vW->Prop}
def jbR(P:Program)(ops:Array Oper)(E D:vW->vW->Prop)(w:vW)(o:Oper)(v:vV)(a:Act):Prop:=
 (Region.wanted o (yielded ops a.tmps)=true/\∀ w1,D w w1->jlH P E w1 v ((execOp a.eval o).run P w1))\/(Region.wanted o (yielded ops a.tmps)=false/\v=undef)
theorem jbR.of_same{ops:Array Oper}{w:vW}{o:Oper}{v:vV}{a a':Act}(hy:jbR P ops E D w o v a)(he:execOp a'.eval o=execOp a.eval o)
  (hw:Region.wanted o (yielded ops a'.tmps)=Region.wanted o (yielded ops a.tmps)):jbR P ops E D w o v a':=by
 unfold jbR at *;rw[he,hw];exact hy
theorem jbR.st(hT:∀ x y z,D x y->D y z->D x z){ops:Array Oper}{w w1:vW}{o:Oper}{v:vV}{a:Act}(hy:jbR P ops E D w o v a)(h:D w w1):jbR P ops E D w1 o v a:=
 hy.imp (fun ⟨e,q⟩=>⟨e,fun A H=>q A (hT _ _ _ h H)⟩) id
theorem jbR.wpOp{ops:Array Oper}{i:Nat}{o:Oper}{v:vV}{a:Act}{w:vW}(hi:ops[i]?=some o)(hy:jbR P ops E D w o v a){K:Act->vW->Prop}{w1:vW}(H:D w w1)(hE:∀ w,E w w)
  (h:∀ w',E w1 w'->K (a.put o.dst v) w'):wpOp P ops NoQ i K a w1:=by
 unfold Go.wpOp;simp only[hi];rcases hy with⟨hw,hv⟩ |⟨hw,rfl⟩
 ·simp only[hw,if_true]
  refine .inl ?_;have q:=hv w1 H;unfold Oper.wp;generalize (execOp a.eval o).run P w1=r at *;cases r with
  | ok n w' =>
   cases n <;> simp only[jlH]at q <;> simp only[Oper.upon]
   case value u=>obtain⟨A,J⟩:=q;rw[A,J];exact h _ (hE w1)
   case skip=>obtain⟨A,J⟩:=q;rw[A, <-J];exact h _ (hE w1)
   case enter f args =>
    obtain⟨A,O⟩:=q;rw[A]
    exact O.mono fun e X ⟨Z,H⟩=>by subst Z;exact h _ H
  | halt x w'=>simp only[jlH]at q
 ·simp only[hw,cH,if_false];exact h _ (hE w1)
def anyD(P:Program)(ops:Array Oper)(hd:List Nat)(E D:vW->vW->Prop)(Q:Act->vW->Prop):Nat->Array Bool->Act->vW->Prop
 | 0,listed,a,w=>∀ w1,E w w1->Region.ready .any ops listed=[]/\Q a w1
 | fuel+1,listed,a,w=>∀ w1,E w w1 ->
  (Region.ready .any ops listed=[]->Q a w1) /\
  ∀ i∈Region.ready .any ops listed,wpOp P ops NoQ i (fun a' w'=>D w1 w'/\(i ∉ hd->E w1 w')/\anyD P ops hd E D Q fuel (listed.setIfInBounds i true) a' w') a w1
theorem joX(hT:∀ x y z,E x y->E y z->E x z){ops:Array Oper}{hd:List Nat}{Q:Act->vW->Prop}:∀ (fuel:Nat) (listed:Array Bool) (a:Act) (w w1:vW),anyD P ops hd E D Q fuel listed a w->E w w1->anyD P ops hd E D Q fuel listed a w1
 | 0,_,_,_,_,h,he=>fun e q=>h e (hT _ _ _ he q)
 | _+1,_,_,_,_,h,he=>fun e q=>h e (hT _ _ _ he q)
theorem jf0(hE:∀ w,E w w){ops:Array Oper}{hd:List Nat}{Q:Act->vW->Prop}{Q':Exit->Act->vW->Prop}(hQ:∀ a w,Q a w->Q' .normal a w) :
  ∀ (fuel:Nat) (listed:Array Bool) (a:Act) (w:vW),anyD P ops hd E D Q fuel listed a w->wpAny P .any ops Q' fuel listed a w
 | 0,_,_,w,h=>let ⟨h1,h2⟩:=h w (hE w);⟨h1,hQ _ _ h2⟩
 | fuel+1,_,_,w,h=>let ⟨h1,h2⟩:=h w (hE w)
  ⟨fun e=>hQ _ _ (h1 e),fun i hi=>jg6 (fun q w' ⟨_,_,A⟩=>jf0 hE hQ fuel _ q w' A) (h2 i hi)⟩
theorem jic(hE:∀ w,E w w)(hT:∀ x y z,E x y->E y z->E x z)(hD:∀ x y z,D x y->D y z->D x z)(hED:∀ x y,E x y->D x y){ops:Array Oper}{hd:List Nat}{Q:Act->vW->Prop}{i:Nat}{oi:Oper}{v:vV}(hi:ops[i]?=some oi)(hsel:∀ (j:Nat) (o:Oper) cs b,ops[j]?=some o->o.op≠.select cs b) :
  ∀ (A:Nat) (q:Array Bool) (a:Act) (w:vW),
   (∀ j oj,ops[j]?=some oj->j≠i->q.getD j true=false->(∀ e∈oj.after,Region.binds .any e=true->e.on≠i)->oi.apart ops oj=true) ->
   i∈Region.ready .any ops q->jbR P ops E D w oi v a ->
   anyD P ops hd E D Q A (q.setIfInBounds i true) (a.put oi.dst v) w->anyD P ops hd E D Q (A+1) q a w:=by
 intro A;induction A with
 | zero =>
  intro q a w _ hr hy H w1 O
  refine⟨fun h=>(by rw[h]at hr;cases hr),fun j hj=>?_⟩
  by_cases hji:j=i
  ·subst hji;exact hy.wpOp hi (hED _ _ O) hE (fun w' J=>⟨hED _ _ J,fun _=>J,joX hT _ _ _ _ _ H (hT _ _ _ O J)⟩)
  ·have:=ready_mono hj hji
   rw[(H w1 O).1]at this;cases this
 | succ A ih =>
  intro q a w K hr hy H w1 O
  refine⟨fun h=>(by rw[h]at hr;cases hr),fun j hj=>?_⟩
  by_cases hji:j=i
  ·subst hji;exact hy.wpOp hi (hED _ _ O) hE (fun w' J=>⟨hED _ _ J,fun _=>J,joX hT _ _ _ _ _ H (hT _ _ _ O J)⟩)
  ·have J:=(H w1 O).2 j (ready_mono hj hji)
   obtain⟨Z,oj,a0,a3⟩:=mem_ready.1 hj
   have a4:∀ e∈oj.after,Region.binds .any e=true->e.on≠i:=fun e O hb a7=>by
    have J:=a3 e O hb;have h0:=(mem_ready.1 hr).1;rw[a7]at J;rcases fN i q.size with h' | h'
    ·simp[h']at h0 J;rw[h0]at J;cases J
    ·simp[fU h']at J
   have h2:=jeL (v:=v) (Y:=fun a'=>execOp a'.eval oi=execOp a.eval oi/\Region.wanted oi (yielded ops a'.tmps)=Region.wanted oi (yielded ops a.tmps)) a0 (K j oj a0 hji Z a4) (fun cs b=>hsel i oi cs b hi) (fun cs b=>hsel j oj cs b a0)
    (fun a1 a2 h e1 e2=>⟨e1.trans h.1,e2.trans h.2⟩) ⟨rfl,rfl⟩ J
   have X:∀ k ok,ops[k]?=some ok->k≠i->(q.setIfInBounds j true).getD k true=false ->
     (∀ e∈ok.after,Region.binds .any e=true->e.on≠i)->oi.apart ops ok=true:=fun k ok hk a8 a5 a9=>by
    refine K k ok hk a8 ?_ a9
    by_cases hjk:j=k
    ·subst hjk;exact Z
    ·rw[getD_set_ne true hjk]at a5;exact a5
   refine wpOp_mono (fun a' w' h3=>⟨h3.2.1,h3.2.2.1,?_⟩) h2
   obtain⟨⟨e1,e2⟩,h4,_,h5⟩:=h3
   have b0:jbR P ops E D w' oi v a':=(hy.of_same e1 e2).st hD (hD _ _ _ (hED _ _ O) h4);refine ih (q.setIfInBounds j true) a' w' X (ready_mono hr (Ne.symm hji)) b0 ?_;rw[gH _ _ hji];exact h5
def MixD(P:Program)(l:List Oper)(hd:List Nat)(E D:vW->vW->Prop)(Q:Act->vW->Prop):List Nat->List Nat->Act->vW->Prop
 | [],done,a,w=>∀ w1,E w w1->Region.ready .any l.toArray (jaR l done)=[]/\Q a w1
 | k :: ord,done,a,w =>
  (k∈Region.ready .any l.toArray (jaR l done)/\Region.free .any l.toArray (jaR l done) k=true/\∃ o v,l[k]?=some o/\jbR P l.toArray E D w o v a/\MixD P l hd E D Q ord (k :: done) (a.put o.dst v) w) \/
  (Region.ready .any l.toArray (jaR l done)=[k]/\k∈hd/\∀ w1,E w w1->wpOp P l.toArray NoQ k (fun a' w'=>D w1 w'/\MixD P l hd E D Q ord (k :: done) a' w') a w1)
theorem je8(hE:∀ w,E w w)(hT:∀ x y z,E x y->E y z->E x z)(hD:∀ x y z,D x y->D y z->D x z)(hED:∀ x y,E x y->D x y)(hs:Region.noSelect l.toArray=true){hd:List Nat}{Q:Act->vW->Prop}:∀ (ord:List Nat) (done:List Nat) (a:Act) (w:vW),
  MixD P l hd E D Q ord done a w->anyD P l.toArray hd E D Q ord.length (jaR l done) a w
 | [],_,_,_,h=>h
 | k :: ord,done,a,w,h=>by
  rcases h with⟨hr,hf,o,v,ho,hy,h⟩ |⟨hr,hk,h⟩
  ·have e:l.toArray[k]?=some o:=by simpa using ho
   exact jic hE hT hD hED e (fY hs) ord.length (jaR l done) a w (gU e hf) hr hy (je8 hE hT hD hED hs ord _ _ _ h)
  ·intro w1 H
   refine⟨fun q=>(by rw[hr]at q;cases q),fun i hi=>?_⟩
   rw[hr]at hi;obtain rfl:i=k:=by simpa using hi
   exact wpOp_mono (fun K w' A=>⟨A.1,fun J=>absurd hk J,je8 hE hT hD hED hs ord _ _ _ A.2⟩) (h w1 H)
theorem jau(ord hd:List Nat)(E D:vW->vW->Prop)(hE:∀ w,E w w)(hT:∀ x y z,E x y->E y z->E x z)(hD:∀ x y z,D x y->D y z->D x z)(hED:∀ x y,E x y->D x y){id:Nat}{Q:Exit->Act->vW->Prop}{a:Act}{w:vW}
  (hm:P.follows .mixedOrders=true) (hs:Region.noSelect l.toArray=true) (hl:ord.length=l.toArray.size)
  (h:MixD P l hd E D (fun a w=>Q .normal a w) ord [] a w.drew):(Code.region id l.toArray true).wp P Q a w:=by
 refine wp_region_any hm ?_;rw[<-hl]
 have:=je8 hE hT hD hED hs ord _ _ _ h
 unfold jaR at this;rw[hl]at this ⊢;exact jf0 hE (fun _ _ h=>h) _ _ _ _ this
variable {Q:Act->vW->Prop} {ord done hd:List Nat} {a:Act} {w:vW} {k:Nat} {o:Oper}
def headD(l:List Oper)(done:List Nat)(k:Nat):Bool:=(Region.ready .any l.toArray (jaR l done)).contains k && Region.free .any l.toArray (jaR l done) k
def jjX(l:List Oper)(hd done:List Nat)(k:Nat):Bool:=Region.ready .any l.toArray (jaR l done) == [k] && hd.contains k
theorem jqP(o:Oper)(ho:l[k]?=some o)(hk:headD l done k=true)(hw:Region.wanted o (yielded l.toArray a.tmps)=true)(hq:jhB o.op=true)
  (h:∀ K:Act->Prop,(∀ a',MixD P l hd E D Q ord (k :: done) a' w->K a')->o.quiet P a (fun _=>True) K):MixD P l hd E D Q (k :: ord) done a w:=by
 simp only[headD,cC,cL]at hk
 obtain⟨v,A,H⟩:=h _ (fun _ h=>h)
 have q:jbR P l.toArray E D w o v a:=by
  refine .inl ⟨hw,fun w1 _=>?_⟩;have e:=A w1 trivial;unfold Oper.quietAt at e;have J:=fun f args w'=>jhL (ρ:=a.eval) hq P w1 w' f args;generalize (execOp a.eval o).run P w1=r at *;cases r with
  | ok n w'=>cases n <;> simp only[Oper.quietUpon]at e <;> first | exact e | exact absurd rfl (J _ _ _)
  | halt x w'=>simp only[Oper.quietUpon]at e
 exact .inl ⟨hk.1,hk.2,o,v,ho,q,H⟩
theorem jmV(o:Oper)(v:vV)(ho:l[k]?=some o)(hk:headD l done k=true)(hw:Region.wanted o (yielded l.toArray a.tmps)=true)
  (hv:∀ w1,D w w1->(execOp a.eval o).run P w1=.ok (.value v) w1) (h:MixD P l hd E D Q ord (k :: done) (a.put o.dst v) w):MixD P l hd E D Q (k :: ord) done a w:=by
 simp only[headD,cC,cL]at hk;exact .inl ⟨hk.1,hk.2,o,v,ho,.inl ⟨hw,fun w1 e=>by rw[hv w1 e];exact⟨rfl,rfl⟩⟩,h⟩
theorem qDV(o:Oper)(v:vV)(ho:l[k]?=some o)(hv:∀ w1,D w w1->(execOp a.eval o).run P w1=.ok (.value v) w1)(h:MixD P l hd E D Q ord (k :: done) (a.put o.dst v) w)(hk:headD l done k=true:=by kernel_rfl)(hw:Region.wanted o (yielded l.toArray a.tmps)=true:=by rfl):MixD P l hd E D Q (k :: ord) done a w:=jmV o v ho hk hw hv h
theorem jqO(p:Addr)(v:vV){t:TypeId}{x:Operand}{d:Option Tmp}{ty:TypeId}{pos:String}{af:Array Edge}{g:Option (Nat × Bool)}(ho:l[k]?=some ⟨d,.load t x,ty,pos,af,g⟩)(hk:headD l done k=true)
  (hw:Region.wanted ⟨d,.load t x,ty,pos,af,g⟩ (yielded l.toArray a.tmps)=true) (hx:a.eval x=.pointer (some p))
  (hv:∀ w1,D w w1->(Instr.loadAt t (.pointer (some p))).run P w1=.ok v w1) (h:MixD P l hd E D Q ord (k :: done) (a.put d v) w):MixD P l hd E D Q (k :: ord) done a w:=by
 refine jmV _ v ho hk hw (fun w1 e=>?_) h
 have:=hv w1 e
 simp only[execOp,hx,bK,this,Result.andThen,cP]
theorem qDL{t:TypeId}{x:Operand}{d:Option Tmp}{ty:TypeId}{pos:String}{af:Array Edge}{g:Option (Nat × Bool)}(p:Addr)(v:vV)(ho:l[k]?=some ⟨d,.load t x,ty,pos,af,g⟩)(hv:∀ w1,D w w1->(Instr.loadAt t (.pointer (some p))).run P w1=.ok v w1)(h:MixD P l hd E D Q ord (k :: done) (a.put d v) w)(hk:headD l done k=true:=by kernel_rfl)(hw:Region.wanted ⟨d,.load t x,ty,pos,af,g⟩ (yielded l.toArray a.tmps)=true:=by rfl)(hx:a.eval x=.pointer (some p):=by rfl):MixD P l hd E D Q (k :: ord) done a w:=jqO p v ho hk hw hx hv h
theorem jdK(o:Oper)(f:FuncId)(args:Array vV)(v:vV)(ho:l[k]?=some o)(hk:headD l done k=true)(hw:Region.wanted o (yielded l.toArray a.tmps)=true)
  (hv:∀ w1,(execOp a.eval o).run P w1=.ok (.enter f args) w1) (hc:∀ w1,D w w1->Calls P f args w1 (fun e A=>e=.returned v/\E w1 A))
  (h:MixD P l hd E D Q ord (k :: done) (a.put o.dst v) w):MixD P l hd E D Q (k :: ord) done a w:=by
 simp only[headD,cC,cL]at hk;exact .inl ⟨hk.1,hk.2,o,v,ho,.inl ⟨hw,fun w1 q=>by rw[hv w1];exact⟨rfl,hc w1 q⟩⟩,h⟩
theorem jqN(o:Oper)(ho:l[k]?=some o)(hk:jjX l hd done k=true)(hw:Region.wanted o (yielded l.toArray a.tmps)=true)
  (h:∀ w1,E w w1->∀ K:Act->vW->Prop,(∀ a' w',D w1 w'->MixD P l hd E D Q ord (k :: done) a' w'->K a' w')->o.wp P a w1 K NoQ):MixD P l hd E D Q (k :: ord) done a w:=by
 simp only[jjX,cC,beq_iff_eq,cL]at hk;refine .inr ⟨hk.1,hk.2,fun w1 q=>?_⟩;unfold wpOp;have e:l.toArray[k]?=some o:=by simpa using ho
 simp only[e,hw,if_true];exact .inl (h w1 q _ (fun _ _ A H=>⟨A,H⟩))
theorem qDH(o:Oper)(ho:l[k]?=some o)(h:∀ w1,E w w1->∀ K:Act->vW->Prop,(∀ a' w',D w1 w'->MixD P l hd E D Q ord (k :: done) a' w'->K a' w')->o.wp P a w1 K NoQ)(hk:jjX l hd done k=true:=by kernel_rfl)(hw:Region.wanted o (yielded l.toArray a.tmps)=true:=by rfl):MixD P l hd E D Q (k :: ord) done a w:=jqN o ho hk hw h
theorem jtz(hk:(Region.ready .any l.toArray (jaR l done)).isEmpty=true)(h:∀ w1,E w w1->Q a w1):MixD P l hd E D Q [] done a w:=
 fun w1 e=>⟨by simpa using hk,h w1 e⟩
theorem qDE(h:∀ w1,E w w1->Q a w1)(hk:(Region.ready .any l.toArray (jaR l done)).isEmpty=true:=by kernel_rfl):MixD P l hd E D Q [] done a w:=jtz hk h
end mixd
end
def jch(xs:vL):List vV:=xs.flatMap fun p=>[.string p.1,.string p.2]
theorem jeO(xs:vL):(jch xs).length=xs.length * 2:=by
 induction xs with
 | nil=>rfl
 | cons x r ih=>unfold jch at *;rw[dY,bI,ih];simp;omega
theorem jb0(xs ys:vL):jch (xs++ys)=jch xs++jch ys:=by simp[jch]
theorem jeN:∀ (xs:vL) (j:Nat) (p:Pair),xs[j]?=some p->(jch xs)[j * 2]?=some (.string p.1)/\(jch xs)[j * 2+1]?=some (.string p.2)
 | [],j,p,h=>by simp at h
 | x :: r,0,p,h=>by simp at h;subst h;exact⟨rfl,rfl⟩
 | x :: r,j+1,p,h=>by
  have:=jeN r j p (by simpa using h)
  rw[show (j+1) * 2=j * 2+1+1 by omega];exact this
theorem Tryz.uRows:Tryz.prog.underlying 165=some (.slice 250):=vY
theorem Tryz.infoRow:(Tryz.prog.info? 250).map (fun i=>(i.zero,i.size,i.bytes))=some (some (.agg #[.string ⟨#[]⟩,.string ⟨#[]⟩]),2,32):=vY
theorem Tryz.sRows:jcw Tryz.prog 165 250 2 32:=jcw.mk' Tryz.uRows Tryz.infoRow rfl vI
abbrev PRow(w0 w:vW)(v:vV)(n:Nat)(xs:vL):Prop:=ORow 250 2 w0 w v n (jch xs)
theorem PRow.rd{w:vW}{n:Nat}{xs:vL}(h:PRow w0 w v n xs):RdP w v xs:=by
 have A:xs.length=n:=by have:=h.len;rw[jeO]at this;omega
 obtain⟨_,⟨rfl,Z⟩ |⟨g,e,H,rfl,h3,J,K,h6,h7⟩⟩:=h.own
 ·exact .inl ⟨none,0,rfl,bO vO⟩
 ·subst A
  refine .inr ⟨g,0,e,rfl,(cX.1 J).1,K,fun j x q=>?_⟩;have hj:=(bH.1 q).1
  obtain⟨O,X⟩:=jeN xs j x q
  exact⟨by rw[bT,h.own.cellAt (j * 2) vO,O],by rw[bT,h.own.cellAt (j * 2+1) vO,X]⟩
def jeg(l:vL):vL:=l.map fun p=>(jaJ p.1,p.2)
def ju5(w:vW)(l:vL)(v i:vV)(wr:vW):Prop:=∃ k:Nat,k<=l.length/\i=.int .i64 k/\PRow w wr v k ((jeg l).take k)
theorem jv7{w:vW}{T:TypeId}{n:Nat}{xs:List vV}(h:ORow T sz w0 w v n xs):¬ v.ownBlock=some w.heap.size:=fun e=>by have:=h.lt _ e;omega
theorem jyA(v:vV)(l:vL)(hv:RdP w v l)(hn:l.length<=1000000)(hs:∀ p∈l,p.1.size<=1000000):vQ 85 #[v] w fun e w'=>∃ u,e=.returned u/\PRow w w' u l.length (jeg l):=by
 obtain⟨a,c,a7⟩:=hv.sl
 have HV:=Hd hv;have HS:=Hd hs;subst a7;clear hv hs
 obtain⟨i0,hi,a8,a9,b0⟩:=info_parts Tryz.infoRow
 obtain⟨w1,b6,A,Z⟩:=run_make_own (P:=Tryz.prog) (w:=w) w.heap.size 165 250 i0 _ 2 Tryz.uRows hi a8 a9 .i64 .i64 l.length (by rw[b0];omega) (by unfold maxLen;omega) (bL _)
 have HO:=Hd A;have HG:=Hd Z;clear A Z;unfold vQ;go_in;go_wp2_with fail
 go_loopw [3,11] (fun v i wr=>ju5 w l v i wr) (fun _ i _=>l.length - (intOf i).toNat)
 case atStart=>exact⟨0,cB _,rfl,ORow.made w HO.o HG.o⟩
 case round =>
  obtain⟨k,hk,rfl,hR⟩:=hrel
  obtain⟨a2,c2,rfl⟩:=hR.sl
  have O:=Hd hR;clear hR
  by_cases hlt:k < l.length
  ·rcases HV.o with⟨_,_,_,h0⟩ |⟨b,o,c',hh,hb,hc,hcell⟩
   ·rw[h0]at hlt;cases hlt
   cases hh
   obtain⟨p,hp⟩:∃ p,l[k]?=some p:=⟨_,bB hlt⟩
   obtain⟨q1,q2⟩:=hcell k p hp
   have q1:=jaa q1 O.o.ext;have q2:=jaa q2 O.o.ext;have H:=HS.o p (bG hp)
   obtain⟨x,y⟩:=p
   simp only at q1 q2 H;have b1:(k:Int) < (l.length:Int):=vO
   have a0:(jeg l).take (k+1)=(jeg l).take k++[(jaJ x,y)]:=by
    rw[bX];unfold jeg;rw[bV,hp];rfl
   have b2:=Hd a0;have b3:=Hd H;have Q0:=Hd (show (wr.alloc (.cells #[.string x,.string y] 52)).cell? ⟨wr.heap.size,0,none⟩=some (.string x)from(Blk.new wr _).cell vF);have Q1:=Hd (show (wr.alloc (.cells #[.string x,.string y] 52)).cell? ⟨wr.heap.size,1,none⟩=some (.string y)from(Blk.new wr _).cell vF);have NB:=Hd (jv7 O.o);clear hcell hp H a0;go_wp2_with fail
   refine jau [0,1,2,3,4,5,6,7,8,9] [7,8] Ext (jac (fun b=>(Value.slice a2 k c2).ownBlock=some b)) ExtR ExtT (fun x y z h k=>jac.trans h k) (fun x y h=>h.mono (fun _ _ h=>h.elim)) vY vY vY ?_;iterate 2 refine vD ?_
   refine qDL ⟨wr.heap.size,0,none⟩ _ rfl (fun X h2=>jab Tryz.uStr rfl (jai (by exact Q0.o) h2 NB.o)) ?_;refine vS ?_;refine jdK _ 117 #[.string x] (.string (jaJ x)) rfl vY rfl (fun w1=>jal (vX 117) vY) (fun w1 h1=>je3 w1 x b3.o) ?_;refine vS ?_
   refine vD ?_
   refine qDL ⟨wr.heap.size,1,none⟩ _ rfl (fun X h2=>jab Tryz.uStr rfl (jai (by exact Q1.o) h2 NB.o)) ?_;refine vS ?_
   refine vD ?_
   refine qDH _ rfl (fun X q K hK=>?_);have a1:=Hd (O.o.mono ((((ExtR wr).alloc _).trans (jak _)).trans q));clear q O;go_simp;refine hK _ _ ((jac.refl _ X).alloc _) ?_;clear hK K;refine qDH _ rfl (fun w3 q K hK=>?_);have a3:=Hd (a1.o.mono (((ExtR X).alloc _).trans q));have hB:∀ j u,([.string (jaJ x),.string y]:List vV)[j]?=some u->w3.cell? ((⟨X.heap.size,0,none⟩:Addr).add j)=some u:=fun j u hj=>jaa (jaN (Blk.new X (.cells [Value.string (jaJ x),.string y].toArray 250)) j u hj) q;refine jgI Tryz.sRows a3.o (.tmp 15) (.tmp 22) rfl rfl hB (by intro u hu;simp at hu;rcases hu with rfl | rfl <;> rfl) rfl rfl (by unfold maxLen;omega) vO (fun v' w4 r1 r2 r3=>hK _ _ r2 ?_);have a5:PRow w w4 v' (k+1) ((jeg l).take (k+1)):=by
    unfold PRow;rw[b2.o,jb0];exact r1
   have J:=Hd a5;clear hK K q r1 r2 r3 a5 hB a1 a3
   obtain⟨a4,c4,rfl⟩:=J.o.sl
   refine vS ?_
   refine vD ?_
   refine qDE (fun w5 q=>?_);have b4:=Hd (J.o.mono q);clear q J;go_wp2_with fail
   go_roundw
   case rel=>exact⟨k+1,by omega,by go_num,b4.o⟩
   case measure=>exact vJ
  ·have b5:k=l.length:=vO
   subst b5;go_wp2;go_ret;have h:=O.o;rw[cF (by simp[jeg])]at h
   exact⟨_,rfl,h⟩
def ja9(d:Nat)(l:vL):vL:=l.map fun p=>(p.1.extract d p.1.size,p.2)
def juT(w:vW)(d:Nat)(l:vL)(v i:vV)(wr:vW):Prop:=∃ k:Nat,k<=l.length/\i=.int .i64 k/\PRow w wr v k ((ja9 d l).take k)
theorem jk6(v:vV)(d:Nat)(l:vL)(hv:RdP w v l)(hn:l.length<=1000000)(hs:∀ p∈l,d<=p.1.size/\p.1.size<=1000000):vQ 133 #[v,.int .i64 d] w fun e w'=>∃ u,e=.returned u/\PRow w w' u l.length (ja9 d l):=by
 obtain⟨a,c,a7⟩:=hv.sl
 have HV:=Hd hv;have HS:=Hd hs;subst a7;clear hv hs
 obtain⟨i0,hi,a8,a9,b0⟩:=info_parts Tryz.infoRow
 obtain⟨w1,b6,A,X⟩:=run_make_own (P:=Tryz.prog) (w:=w) w.heap.size 165 250 i0 _ 2 Tryz.uRows hi a8 a9 .i64 .i64 l.length (by rw[b0];omega) (by unfold maxLen;omega) (bL _)
 have HO:=Hd A;have HG:=Hd X;clear A X;unfold vQ;go_in;go_wp2_with fail
 go_loopw [5,13] (fun v i wr=>juT w d l v i wr) (fun _ i _=>l.length - (intOf i).toNat)
 case atStart=>exact⟨0,cB _,rfl,ORow.made w HO.o HG.o⟩
 case round =>
  obtain⟨k,hk,rfl,hR⟩:=hrel
  obtain⟨a2,c2,rfl⟩:=hR.sl
  have J:=Hd hR;clear hR
  by_cases hlt:k < l.length
  ·rcases HV.o with⟨_,_,_,h0⟩ |⟨b,o,c',hh,hb,hc,hcell⟩
   ·rw[h0]at hlt;cases hlt
   cases hh
   obtain⟨p,hp⟩:∃ p,l[k]?=some p:=⟨_,bB hlt⟩
   obtain⟨q1,q2⟩:=hcell k p hp
   have q1:=jaa q1 J.o.ext;have q2:=jaa q2 J.o.ext;have Z:=HS.o p (bG hp)
   obtain⟨x,y⟩:=p
   simp only at q1 q2 Z;have b1:(k:Int) < (l.length:Int):=vO
   have b2:(d:Int)<=(x.size:Int):=vO
   have a0:(ja9 d l).take (k+1)=(ja9 d l).take k++[(x.extract d x.size,y)]:=by
    rw[bX];unfold ja9;rw[bV,hp];rfl
   have b3:=Hd a0;have Q0:=Hd (show (wr.alloc (.cells #[.string x,.string y] 250)).cell? ⟨wr.heap.size,0,none⟩=some (.string x)from(Blk.new wr _).cell vF);have Q1:=Hd (show (wr.alloc (.cells #[.string x,.string y] 250)).cell? ⟨wr.heap.size,1,none⟩=some (.string y)from(Blk.new wr _).cell vF);have NB:=Hd (jv7 J.o);clear hcell hp Z a0;go_wp2_with fail
   refine jau [0,1,2,3,4,5,6,7,8,9,10] [8,9] Ext (jac (fun b=>(Value.slice a2 k c2).ownBlock=some b)) ExtR ExtT (fun x y z h k=>jac.trans h k) (fun x y h=>h.mono (fun _ _ h=>h.elim)) vY vY vY ?_;iterate 2 refine vD ?_
   refine qDL ⟨wr.heap.size,0,none⟩ _ rfl (fun O h2=>jab Tryz.uStr rfl (jai (by exact Q0.o) h2 NB.o)) ?_;refine vS ?_;iterate 3 refine vD ?_
   refine qDL ⟨wr.heap.size,1,none⟩ _ rfl (fun O h2=>jab Tryz.uStr rfl (jai (by exact Q1.o) h2 NB.o)) ?_;refine vS ?_
   refine vD ?_
   refine qDH _ rfl (fun O q K hK=>?_);have a1:=Hd (J.o.mono ((((ExtR wr).alloc _).trans (jak _)).trans q));clear q J;go_simp;refine hK _ _ ((jac.refl _ O).alloc _) ?_;clear hK K;refine qDH _ rfl (fun w3 q K hK=>?_);have a3:=Hd (a1.o.mono (((ExtR O).alloc _).trans q));have hB:∀ j u,([.string (x.extract d x.size),.string y]:List vV)[j]?=some u->w3.cell? ((⟨O.heap.size,0,none⟩:Addr).add j)=some u:=fun j u hj=>jaa (jaN (Blk.new O (.cells [Value.string (x.extract d x.size),.string y].toArray 250)) j u hj) q;refine jgI Tryz.sRows a3.o (.tmp 17) (.tmp 25) rfl rfl hB (by intro u hu;simp at hu;rcases hu with rfl | rfl <;> rfl) rfl rfl (by unfold maxLen;omega) vO (fun v' w4 r1 r2 r3=>hK _ _ r2 ?_);have a5:PRow w w4 v' (k+1) ((ja9 d l).take (k+1)):=by
    unfold PRow;rw[b3.o,jb0];exact r1
   have H:=Hd a5;clear hK K q r1 r2 r3 a5 hB a1 a3
   obtain⟨a4,c4,rfl⟩:=H.o.sl
   refine vS ?_
   refine vD ?_
   refine qDE (fun w5 q=>?_);have b4:=Hd (H.o.mono q);clear q H;go_wp2_with fail
   go_roundw
   case rel=>exact⟨k+1,by omega,by go_num,b4.o⟩
   case measure=>exact vJ
  ·have b5:k=l.length:=vO
   subst b5;go_wp2;go_ret;have h:=J.o;rw[cF (by simp[ja9])]at h
   exact⟨_,rfl,h⟩
def jjw(i:Nat)(p:Pair):Bool:=match p.1.data.toList with | []=>false | a :: _=>a.toNat == i
theorem jtR(h:0 < x.size):jjw i (x,y)=(x[0].toNat == i):=by
 obtain⟨⟨l⟩⟩:=x
 cases l with
 | nil=>exact absurd h (Nat.lt_irrefl 0)
 | cons a r=>rfl
theorem jsn(a b:Nat):((a:Int) ==(b:Int))=(a == b):=by
 by_cases h:a=b
 ·subst h;simp
 ·have e:¬(a:Int)=(b:Int):=vO
  rw[beq_eq_false_iff_ne.2 h,beq_eq_false_iff_ne.2 e]
theorem jyn(x y:vB)(gi i:Nat)(hs:x.size<=1000000)(hi:i < 256)(hc:w.cell? ⟨gi,0,none⟩=some (.int .i64 (i:Int))):vR 135 #[.agg #[.string x,.string y],.pointer (some ⟨gi,0,none⟩)] w (.bool (jjw i (x,y))):=by
 have K:=Hd (show (w.alloc (.cells #[.string x,.string y] 250)).cell? ⟨w.heap.size,0,none⟩=some (.string x)from(Blk.new w _).cell vF);have QI:=Hd (jaa hc ((ExtR w).alloc (.cells #[.string x,.string y] 250)));clear hc
 by_cases h0:x.size=0
 ·have:=ja5 h0
  subst this;have E:Hid (jjw i (⟨#[]⟩,y)=false):=rfl;unfold vR vQ;go_in;go_wp2_with fail
  refine jaj [0,1,2,3,4,5,6,7,8,9,10,11] Ext ExtR ExtT vY vY vY ?_
  refine vK ?_
  refine qKL ⟨w.heap.size,0,none⟩ _ rfl (fun O q=>jab Tryz.uStr rfl (jaa (by exact K.o) q)) ?_;refine vS ?_;iterate 2 refine vK ?_
  iterate 6 (refine jbN _ rfl vY rfl ?_;refine vS ?_)
  iterate 2 refine vK ?_
  refine qKE (fun w3 H=>?_);have X:=Hd ((((ExtR w).alloc (.cells #[.string ⟨#[]⟩,.string y] 250)).trans (jak _)).trans H);clear H;go_wp2_with fail
  go_ret
  exact⟨by rw[E.o];rfl,X.o⟩
 ·have e:0 < x.size:=vO
  have a2:=jbq (s:=x) e;have c0:(0:Int) < (x.size:Int):=vO
  have c1:=x[0].toNat_lt;have E:=Hd (jtR (y:=y) i e);have J:((x[0].toNat:Int) ==(i:Int))=(x[0].toNat == i):=jsn _ _;have Z:=Hd J;clear J;unfold vR vQ;go_in;go_wp2_with fail
  refine jaj [0,1,2,3,4,5,6,7,8,9,10,11] Ext ExtR ExtT vY vY vY ?_
  refine vK ?_
  refine qKL ⟨w.heap.size,0,none⟩ _ rfl (fun O q=>jab Tryz.uStr rfl (jaa (by exact K.o) q)) ?_;refine vS ?_;iterate 3 refine vK ?_
  refine qKL ⟨w.heap.size,0,none⟩ _ rfl (fun O q=>jab Tryz.uStr rfl (jaa (by exact K.o) q)) ?_;refine vS ?_;iterate 2 refine vK ?_
  refine qKL ⟨gi,0,none⟩ _ rfl (fun O q=>jab Tryz.uInt rfl (jaa (by exact QI.o) q)) ?_;refine vS ?_;iterate 3 refine vK ?_
  refine qKE (fun w3 H=>?_);have a0:=Hd ((((ExtR w).alloc (.cells #[.string x,.string y] 250)).trans (jak _)).trans H);clear H;rw[Z.o, <-E.o]
  obtain⟨bb,A⟩:=vE (jjw i (x,y))
  rw[<-A];have a1:=Hd A;clear A;go_wp2_with fail
  go_ret
  exact⟨by rw[<-a1.o];rfl,a0.o⟩
def cutL(i:Nat)(l:vL):vL:=l.filter (jjw i)
theorem jsH(l:vL){k:Nat}{p:Pair}(h:l[k]?=some p):cutL i (l.take (k+1))=cutL i (l.take k)++(if jjw i p then [p]else []):=by
 unfold cutL;rw[bX,h,List.filter_append,Option.toList_some,List.filter_cons];simp
def jwW(w:vW)(i:Nat)(l:vL)(v j:vV)(wr:vW):Prop:=∃ k n:Nat,k<=l.length/\n<=k/\j=.int .i64 k/\PRow w wr v n (cutL i (l.take k))
theorem jxD(v:vV)(gi i:Nat)(l:vL)(hv:RdP w v l)(hn:l.length<=1000000)(hs:∀ p∈l,p.1.size<=1000000)(hi:i < 256)(hc:w.cell? ⟨gi,0,none⟩=some (.int .i64 (i:Int))):vQ 134 #[v,.func (.func 135) #[] #[.pointer (some ⟨gi,0,none⟩)]] w fun e w'=>∃ u n,e=.returned u/\PRow w w' u n (cutL i l):=by
 obtain⟨a,c,a0⟩:=hv.sl
 have HV:=Hd hv;have HS:=Hd hs;have HC:=Hd hc;subst a0;clear hv hs hc;unfold vQ;go_in;go_wp2_with fail
 go_loopw [5,10] (fun v j wr=>jwW w i l v j wr) (fun _ j _=>l.length - (intOf j).toNat)
 case atStart=>exact⟨0,0,cB _,cB _,rfl,ORow.nil _ _ (ExtR w)⟩
 case round =>
  obtain⟨k,n,hk,a4,rfl,hR⟩:=hrel
  obtain⟨a2,c2,rfl⟩:=hR.sl
  have K:=Hd hR;clear hR
  by_cases hlt:k < l.length
  ·rcases HV.o with⟨_,_,_,h0⟩ |⟨b,o,c',hh,hb,hc,hcell⟩
   ·rw[h0]at hlt;cases hlt
   cases hh
   obtain⟨p,Z⟩:∃ p,l[k]?=some p:=⟨_,bB hlt⟩
   obtain⟨q1,q2⟩:=hcell k p Z
   have q1:=jaa q1 K.o.ext;have q2:=jaa q2 K.o.ext;have O:=HS.o p (bG Z);have X:=jsH i l Z
   obtain⟨x,y⟩:=p
   simp only at q1 q2 O;have b1:(k:Int) < (l.length:Int):=vO
   have q:=Hd X;clear hcell Z X;go_wp2_with fail
   refine vC (jyn _ x y gi i O hi (jaa HC.o (K.o.ext.trans ((ExtR wr).alloc _)))) fun w3 hE=>?_;have hX:=((ExtR wr).alloc (.cells #[.string x,.string y] 250)).trans hE;have A:=Hd (K.o.mono hX);have H:=(Blk.new wr (.cells #[.string x,.string y] 250)).keeps hE (fun h=>h);have p0:=H.cell (i:=0) (v:=.string x) vF;have p1:=H.cell (i:=1) (v:=.string y) vF;clear hX hE H q1 q2 K;cases hpk:jjw i (x,y)with
   | true =>
    rw[hpk,if_pos rfl]at q;go_wp2_with (at_builtin;refine ja0 Tryz.sRows (A.o.mono ((ExtR w3).alloc _)) (.tmp 17) (.tmp 19) rfl rfl rfl (jaN (Blk.new w3 _)) (news:=[.string x,.string y]) (by intro u hu;simp at hu;rcases hu with rfl | rfl <;> rfl) rfl rfl ?c1 ?c2 (fun v' w' r1 r2 r3=>?_))
    case c1=>unfold maxLen;omega
    case c2=>omega
    have J:PRow w w' v' (n+1) (cutL i (l.take (k+1))):=by unfold PRow;rw[q.o,jb0];exact r1
    obtain⟨a5,c5,rfl⟩:=J.sl
    have a1:=Hd J;clear r1 r2 r3 J A;go_wp2_with fail
    go_roundw
    case rel=>exact⟨k+1,n+1,by omega,by omega,by go_num,a1.o⟩
    case measure=>exact vJ
   | false =>
    rw[hpk,if_neg (by simp),cA]at q;go_wp2_with fail
    go_roundw
    case rel=>exact⟨k+1,n,by omega,by omega,by go_num,by rw[q.o];exact A.o⟩
    case measure=>exact vJ
  ·have a3:k=l.length:=vO
   subst a3;go_wp2;go_ret;have h:=K.o;rw[cG]at h
   exact⟨_,_,rfl,h⟩
theorem jbZ{t e ty:TypeId}{i:TypeInfo}(ht:P.underlying t=some (.slice e))(hi:P.info? e=some i)(base:Option Addr)(n c:Nat)(hle:n<=c)(c2:Nat)(w:vW) :
  (Builtin.append_ #[t,t] ty #[.slice base n c,.slice none 0 c2]).run P w=.ok (.slice base n c) w:=by
 have q:(sizeOf e).run P w=.ok i.size w:=by simp[sizeOf,typeInfo,hi]
 have A:∀ w,(Builtin.lenOf (.slice none 0 c2)).run P w=.ok 0 w:=fun w=>rfl;cases base <;> simp[Builtin.append_,bK,Result.andThen,run_underlying ht,q,A,cP,Builtin.firstCells,hle,storeCells]
inductive PT where
 | mk (text:vB) (below:List PT)
def PT.text:PT->vB | .mk t _=>t
def PT.kids:PT->List PT | .mk _ ks=>ks
def ptrV(b:Nat):vV:=.pointer (some ⟨b,0,none⟩)
def RdQ(A:Nat->Prop)(W:vW)(v:vV)(bs:List Nat):Prop:=
 (v=.slice none 0 0/\bs=[])\/∃ g c,v=.slice (some ⟨g,0,none⟩) bs.length c/\bs≠[]/\A g/\g < W.heap.size/\bs.length<=c/\∀ (j:Nat) b,bs[j]?=some b->W.cell? ⟨g,j,none⟩=some (ptrV b)
mutual
def jbE(A:Nat->Prop):PT->Nat->vW->Prop
 | .mk t ks,b,W=>A b/\∃ v bs,Blk W b (.cells #[.string t,v] 162)/\RdQ A W v bs/\jaM A ks bs W
def jaM(A:Nat->Prop):List PT->List Nat->vW->Prop
 | [],bs,_=>bs=[]
 | k :: ks,bs,W=>∃ b r,bs=b :: r/\jbE A k b W/\jaM A ks r W
end
theorem RdQ.keeps{F:BSet}(h:RdQ A W v bs)(k:jac F W W')(hF:∀ x,A x->¬ F x):RdQ A W' v bs:=by
 rcases h with h |⟨g,c,h1,h2,h3,h4,h5,h6⟩
 ·exact .inl h
 ·exact .inr ⟨g,c,h1,h2,h3,bC h4 k.size,h5,fun j b hb=>jai (h6 j b hb) k (hF g h3)⟩
theorem RdQ.mono(h:RdQ A W v bs)(hA:∀ x,A x->x < W.heap.size->A' x):RdQ A' W v bs:=by
 rcases h with h |⟨g,c,h1,h2,h3,h4,h5,h6⟩
 ·exact .inl h
 ·exact .inr ⟨g,c,h1,h2,hA g h3 h4,h4,h5,h6⟩
mutual
theorem jbE.keeps{A:Nat->Prop}{F:BSet}{W W':vW}(k:jac F W W')(hF:∀ x,A x->¬ F x):∀ (T:PT) (b:Nat),jbE A T b W->jbE A T b W'
 | .mk t ks,b,h=>by
  unfold jbE at *
  obtain⟨e,v,q,H,J,K⟩:=h
  exact⟨e,v,q,H.keeps k (hF b e),J.keeps k hF,jaM.keeps k hF ks q K⟩
theorem jaM.keeps{A:Nat->Prop}{F:BSet}{W W':vW}(k:jac F W W')(hF:∀ x,A x->¬ F x):∀ (ks:List PT) (bs:List Nat),jaM A ks bs W->jaM A ks bs W'
 | [],bs,h=>by unfold jaM at *;exact h
 | x :: ks,bs,h=>by
  unfold jaM at *
  obtain⟨b,r,e,q,H⟩:=h
  exact⟨b,r,e,jbE.keeps k hF x b q,jaM.keeps k hF ks r H⟩
end
mutual
theorem jbE.mono{A A':Nat->Prop}{W:vW}(hA:∀ x,A x->x < W.heap.size->A' x):∀ (T:PT) (b:Nat),jbE A T b W->jbE A' T b W
 | .mk t ks,b,h=>by
  unfold jbE at *
  obtain⟨H,v,e,q,J,K⟩:=h
  exact⟨hA b H q.lt,v,e,q,J.mono hA,jaM.mono hA ks e K⟩
theorem jaM.mono{A A':Nat->Prop}{W:vW}(hA:∀ x,A x->x < W.heap.size->A' x):∀ (ks:List PT) (bs:List Nat),jaM A ks bs W->jaM A' ks bs W
 | [],bs,h=>by unfold jaM at *;exact h
 | x :: ks,bs,h=>by
  unfold jaM at *
  obtain⟨b,r,e,q,H⟩:=h
  exact⟨b,r,e,jbE.mono hA x b q,jaM.mono hA ks r H⟩
end
theorem jaM.append{A:Nat->Prop}{W:vW}:∀ (ks:List PT) (bs:List Nat) (ks':List PT) (bs':List Nat),jaM A ks bs W->jaM A ks' bs' W->jaM A (ks++ks') (bs++bs') W
 | [],bs,ks',bs',h,h'=>by unfold jaM at h;subst h;exact h'
 | x :: ks,bs,ks',bs',h,h'=>by
  unfold jaM at h
  obtain⟨b,r,rfl,e,q⟩:=h
  show jaM A (x ::(ks++ks')) (b ::(r++bs')) W;unfold jaM
  exact⟨b,r++bs',rfl,e,jaM.append ks r ks' bs' q h'⟩
theorem Tryz.uParts:Tryz.prog.underlying 160=some (.slice 163):=vY
theorem Tryz.infoPtr:(Tryz.prog.info? 163).map (fun i=>(i.zero,i.size,i.bytes))=some (some (.pointer none),1,8):=vY
theorem Tryz.sParts:jcw Tryz.prog 160 163 1 8:=jcw.mk' Tryz.uParts Tryz.infoPtr rfl vI
abbrev QRow(w0 w:vW)(v:vV)(bs:List Nat):Prop:=ORow 163 1 w0 w v bs.length (bs.map ptrV)
structure jc9(w0 W:World)(b m:Nat)(t:vB)(ks:List PT)(u:Value)(bs:List Nat):Prop where
 blk:Blk W b (.cells #[.string t,u] 162)
 new:w0.heap.size<=b
 row:QRow w0 W u bs
 nil:bs=[]->u=.slice none 0 0
 nb:¬ u.ownBlock=some b
 bm:m≠b
 mb:¬ u.ownBlock=some m
 mn:w0.heap.size<=m
 ml:m < W.heap.size
 ks:jaM (fun x=>w0.heap.size<=x/\x≠b/\x≠m/\¬ u.ownBlock=some x) ks bs W
theorem jc9.ext{ks:List PT}(h:jc9 w0 W b m t ks u bs)(e:Ext W W'):jc9 w0 W' b m t ks u bs:=
 ⟨h.blk.keeps e (fun h=>h),h.new,h.row.mono e,h.nil,h.nb,h.bm,h.mb,h.mn,bC h.ml e.size,jaM.keeps e (fun _ _ h=>h) _ _ h.ks⟩
theorem jc9.other{ks:List PT}(h:jc9 w0 W b m t ks u bs)(e:jac (fun x=>x=m) W W'):jc9 w0 W' b m t ks u bs:=
 ⟨h.blk.keeps e (fun e=>h.bm e.symm),h.new,h.row.keeps e (fun x q e=>h.mb (by have e:x=m:=e;rw[<-e];exact q)) (fun x q e=>by have e:x=m:=e;have:=h.mn;omega),h.nil,h.nb,h.bm,h.mb,h.mn,bC h.ml e.size,
  jaM.keeps e (fun x q e=>q.2.2.1 e) _ _ h.ks⟩
theorem jc9.setText{ks:List PT}(h:jc9 w0 W b m t ks u bs)(t':vB):jc9 w0 (W.setCell ⟨b,0,none⟩ (.string t')) b m t' ks u bs:=
 have K:=jac.oneSet W ⟨b,0,none⟩ (.string t')
 ⟨h.blk.set_same (i:=0) (.string t'),h.new,h.row.keeps K (fun x q e=>h.nb (by have e:x=b:=e;rw[<-e];exact q)) (fun x q e=>by have e:x=b:=e;have:=h.new;omega),h.nil,h.nb,h.bm,h.mb,h.mn,bC h.ml K.size,jaM.keeps K (fun x q e=>q.2.1 e) _ _ h.ks⟩
theorem jc9.part{ks:List PT}(h:jc9 w0 W b m t ks u bs):jbE (fun x=>w0.heap.size<=x) (.mk t ks) b W:=by
 unfold jbE
 refine⟨h.new,u,bs,h.blk,?_,jaM.mono (fun x q _=>q.1) _ _ h.ks⟩
 by_cases h0:bs=[]
 ·exact .inl ⟨h.nil h0,h0⟩
 ·obtain⟨_,⟨rfl,K⟩ |⟨g,e,A,rfl,O,H,J,X,Z⟩⟩:=h.row.own
  ·exact absurd (bO vO) h0
  ·refine .inr ⟨g,e,rfl,h0,h.row.new g rfl,(cX.1 H).1,J,fun j b hb=>?_⟩
   have hj:=(bH.1 hb).1;rw[h.row.own.cellAt j vO,bV,hb];rfl
def jfC(T:PT):List PT:=if T.text.size < 32 then []else [T]
structure juX(T:PT):Prop where
 size:T.text.size<=100000
 small:T.text.size < 32->T.kids=[]
 nohash:T.text.size < 32->∃ q,cutN T.text=some q/\jfA T.text q=none
theorem jth(W:vW)(b:Nat)(a:Option Addr)(c:Nat):vQ 132 #[ptrV b,.slice a 0 c] W fun e w'=>e=.returned (.string ⟨#[]⟩)/\w'=W:=by
 unfold ptrV;unfold vQ;go_in;go_wp2_with fail
 go_ret
 exact⟨rfl,rfl⟩
theorem jde{w:vW}{d:Option Tmp}{args:Array Operand}{ats:Array TypeId}{ty:TypeId}{pos:String}{af:Array Edge}{g:Option (Nat × Bool)}(h:(Builtin.append_ ats ty vs).run P w=.ok v w')(hv:args.map a.eval=vs) :
  (execOp a.eval ⟨d,.call { callee:=.builtin .append,args:=args,argTypes:=ats },ty,pos,af,g⟩).run P w=.ok (.value v) w':=by
 subst hv;simp[execOp,resolve,invoke,Go.builtin,Act.eval,bK,Result.andThen,cP,h]
theorem jc9.add{ks:List PT}{k:Nat}{T:PT}(h:jc9 w0 W b m t ks u bs)(hk:jbE (fun x=>w1.heap.size<=x) T k W)(h1:b < w1.heap.size)(h1m:m < w1.heap.size)(h2:∀ x,u.ownBlock=some x->x < w1.heap.size)(h3:w0.heap.size<=w1.heap.size)
  (r1:QRow w0 w2 u' (bs++[k])) (r2:jac (fun x=>u.ownBlock=some x) W w2) (r3:u'.ownBlock=u.ownBlock\/∀ x,u'.ownBlock=some x->W.heap.size<=x) :
  jc9 w0 (w2.setCell ⟨b,1,none⟩ u') b m t (ks++[T]) u' (bs++[k]):=by
 have K:jac (fun x=>x=b\/u.ownBlock=some x) W (w2.setCell ⟨b,1,none⟩ u'):=(r2.mono (fun x _ q=>.inr q)).setCell (.inl (.inl rfl)) _;have A:=h.blk.lt;have J:¬ u'.ownBlock=some b:=fun e=>by
  rcases r3 with r3 | r3
  ·exact h.nb (r3 ▸ e)
  ·have:=r3 b e;omega
 have H:∀ x,x < W.heap.size->¬ u.ownBlock=some x->¬ u'.ownBlock=some x:=fun x q X e=>by
  rcases r3 with r3 | r3
  ·exact X (r3 ▸ e)
  ·have:=r3 x e;omega
 refine⟨?_,h.new,r1.keeps (jac.oneSet w2 ⟨b,1,none⟩ u') (fun x q e=>J (by have e:x=b:=e;rw[<-e];exact q)) (fun x q e=>by have e:x=b:=e;have:=h.new;omega),fun e=>absurd e (by simp),J,h.bm,H m h.ml h.mb,h.mn,bC h.ml K.size,?_⟩
 ·have:=(h.blk.keeps r2 h.nb).set_same (i:=1) u'
  exact this
 ·refine jaM.append _ _ _ _ ?_ ?_
  ·refine jaM.keeps K (fun x q e=>?_) _ _ (jaM.mono (A':=fun x=>w0.heap.size<=x/\x≠b/\¬ u.ownBlock=some x/\x≠m/\¬ u'.ownBlock=some x) (fun x q A=>⟨q.1,q.2.1,q.2.2.2,q.2.2.1,H x A q.2.2.2⟩) _ _ h.ks) |> jaM.mono (fun x q _=>⟨q.1,q.2.1,q.2.2.2.1,q.2.2.2.2⟩) _ _
   rcases e with e | e
   ·exact q.2.1 e
   ·exact q.2.2.1 e
  ·unfold jaM
   refine⟨k,[],rfl,?_,by unfold jaM;rfl⟩
   have O:jbE (fun x=>w0.heap.size<=x/\x≠b/\¬ u.ownBlock=some x/\x≠m/\¬ u'.ownBlock=some x) T k W:=jbE.mono (fun x q A=>⟨by omega,by omega,fun e=>by have:=h2 x e;omega,by omega,H x A (fun e=>by have:=h2 x e;omega)⟩) _ _ hk;refine jbE.mono (fun x q _=>⟨q.1,q.2.1,q.2.2.2.1,q.2.2.2.2⟩) _ _ (jbE.keeps K (fun x q e=>?_) _ _ O);rcases e with e | e
   ·exact q.2.1 e
   ·exact q.2.2.1 e
theorem jc9.same{ks:List PT}(h:jc9 w0 W b m t ks u bs):jc9 w0 (W.setCell ⟨b,1,none⟩ u) b m t ks u bs:=
 have K:=jac.oneSet W ⟨b,1,none⟩ u
 ⟨h.blk.set_same (i:=1) u,h.new,h.row.keeps K (fun x q e=>h.nb (by have e:x=b:=e;rw[<-e];exact q)) (fun x q e=>by have e:x=b:=e;have:=h.new;omega),h.nil,h.nb,h.bm,h.mb,h.mn,bC h.ml K.size,jaM.keeps K (fun x q e=>q.2.1 e) _ _ h.ks⟩
theorem jbE.open{T:PT}(h:jbE A T b W):A b/\∃ v bs,Blk W b (.cells #[.string T.text,v] 162)/\RdQ A W v bs/\jaM A T.kids bs W:=by
 cases T with
 | mk t ks=>unfold jbE at h;exact h
theorem juG(hc:jbA W){ks:List PT}(h:jc9 w0 W b m t ks u bs)(hbs:bs.length<=100)(v:vV)(l:vL)(hv:RdP W v l)(hl:l≠[])(hln:l.length<=1000000)(T:PT)(hT:juX T)
  (hb:vQ 84 #[v] W fun e w'=>∃ k,e=.returned (ptrV k)/\jbE (fun x=>W.heap.size<=x) T k w'/\Ext W w') :
  vQ 132 #[ptrV b,v] W fun e w'=>∃ u' bs',e=.returned (.string (refB T.text))/\jc9 w0 w' b m t (ks++jfC T) u' bs'/\bs'.length<=bs.length+1/\Ext w0 w'/\jac (fun x=>x=b\/u.ownBlock=some x) W w':=by
 obtain⟨av,cv,rfl⟩:=hv.sl
 have c4:l.length≠0:=fun e=>hl (bO e);have c0:((l.length:Int) == 0)=false:=by simp;exact hl
 have c1:¬(l.length:Int)=0:=vO
 have HB:=Hd hb;have H:=Hd h;have HC:=Hd hc;have HT:=Hd hT
 obtain⟨s,hs⟩:=vE T.text
 have b4:refB T.text=refB s:=by rw[hs]
 rw[b4];have HS:=Hd hs;clear hb h hc hT hv hl c4 hs b4;unfold ptrV;unfold vQ;go_in;go_wp2_with fail
 refine HB.o.mono ?_;rintro e w1 ⟨k,rfl,hk,J⟩;have HK:=Hd hk
 obtain⟨e4,vk,bk,a7,b5,b6⟩:=hk.open
 have q0:w1.cell? ⟨k,0,none⟩=some (.string s):=by rw[HS.o];exact a7.cell vF
 have H1:=Hd (H.o.ext J);have HE:=Hd J;have c7:=Hd (HC.o.ext J);have c8:=Hd a7;have c9:=Hd b5;have d0:=Hd b6;clear J hk a7 b5 b6;unfold ptrV;go_wp2_with fail
 refine vC (jwh w1 s c7.o) fun w2 J=>?_;have b7:=Hd J;have H2:=Hd (H1.o.ext J)
 by_cases hsm:s.size < 32
 ·have a2:T.text.size < 32:=by rw[<-HS.o];exact hsm
  obtain⟨q,O,X⟩:=HT.o.nohash a2
  rw[<-HS.o]at O X;have hr:refB s=s:=by unfold refB;rw[if_pos hsm]
  rw[hr];have a3:=HT.o.small a2;have a4:=d0.o;rw[a3]at a4;unfold jaM at a4;have a8:=c9.o;rw[a4]at a8;have b8:vk=.slice none 0 0:=by
   rcases a8 with⟨h1,_⟩ |⟨g,c,_,h2,_⟩
   ·exact h1
   ·exact absurd rfl h2
  have A:ks++jfC T=ks:=by unfold jfC;rw[if_pos a2,cA]
  have Z:=Hd A;have a0:=Hd hr;have a9:=Hd O;have b0:=Hd X;have a1:=c8.o.keeps J (fun h=>h);rw[b8]at a1;have QK:=Hd (a1.cell (i:=1) (v:=.slice none 0 0) vF);clear J O X hr a3 a4 a8 b8 a1 A;go_wp2_with fail
  refine vC (jfB w2 s q vO a9.o) fun w3 J=>?_;rw[b0.o];have H3:=Hd (H2.o.ext J);have d1:=Hd (jaa QK.o J);have b1:=Hd ((HE.o.trans b7.o).trans J);clear J
  obtain⟨au,cu,hu⟩:=H3.o.row.sl
  subst hu;unfold optV;simp only;go_wp2_with fail
  have d2:bs.length<=cu:=by
   obtain⟨_,⟨hx,h2⟩ |⟨g,e5,e6,hx,h3,h4,h5,h6,h7⟩⟩:=H3.o.row.own
   ·have:=dC hx;omega
   ·have:=dC hx;omega
  refine jaq [0,1,2,3,4,5,6,7,8,9,10,11,12] [12] Ext ExtR ExtT vY vY vY ?_;iterate 2 refine vP ?_
  refine qA _ (.pointer (some ⟨b,0,none⟩)) rfl (fun w1=>by kernel_rfl) ?_;refine vS ?_
  refine vP ?_
  refine qL ⟨b,1,none⟩ _ rfl (fun w1 h1=>jab Tryz.uParts rfl (jaa (by exact H3.o.blk.cell (i:=1) (v:=.slice au bs.length cu) vF) h1)) ?_;refine vS ?_
  refine vP ?_
  refine qA _ (.pointer (some ⟨k,0,none⟩)) rfl (fun w1=>by kernel_rfl) ?_;refine vS ?_
  refine vP ?_
  refine qL ⟨k,1,none⟩ _ rfl (fun w1 h1=>jab Tryz.uParts rfl (jaa (by exact d1.o) h1)) ?_;refine vS ?_
  obtain⟨i0,z0,d3,_⟩:=Tryz.sParts.hi
  refine qA _ (.slice au bs.length cu) rfl (fun w1=>jde (jbZ Tryz.uParts d3 au bs.length cu d2 0 w1) vY) ?_;refine vS ?_;refine qA _ (.pointer (some ⟨b,0,none⟩)) rfl (fun w1=>by kernel_rfl) ?_;refine vS ?_
  refine vP ?_
  refine qH _ rfl (fun w4 he K hK=>?_);have h4:=H3.o.ext ((jak w3).trans he);have q1:w4.cell? ⟨b,1,none⟩=some (.slice au bs.length cu):=h4.blk.cell (i:=1) vF;have f1:w4.frozen? ⟨b,1,none⟩=false:=h4.blk.frozen;have H4:=Hd h4;have d4:=Hd (b1.o.trans ((jak w3).trans he));clear he h4;go_simp;refine hK _ _ ?_;clear hK K q1 f1;have H5:=Hd H4.o.same;refine qE (fun w5 he=>?_);have H6:=Hd (H5.o.ext he);have d5:=Hd ((((d4.o.mono (G:=fun x=>x=b\/(Value.slice au bs.length cu).ownBlock=some x) (fun _ _ h=>h.elim)).setCell (p:=⟨b,1,none⟩) (.inl (.inl rfl)) (.slice au bs.length cu)).trans (he.mono (fun _ _ h=>h.elim))));clear he H5 H4;go_wp2_with fail
  go_ret
  exact⟨_,bs,by rw[a0.o];rfl,by rw[Z.o];exact H6.o,by omega,H6.o.row.ext,d5.o⟩
 ·have a2:¬ T.text.size < 32:=by rw[<-HS.o];exact hsm
  obtain⟨r,hr⟩:=vE (refB s)
  have b2:r=jam (shaB s):=by rw[hr];unfold refB;rw[if_neg hsm]
  obtain⟨q,O,X⟩:=jeu (shaB s) (jbg s)
  rw[<-b2]at O X;have d6:r.size<=1000000000:=by have:=jaS (shaB s);have:=jbg s;rw[b2];omega
  have A:ks++jfC T=ks++[T]:=by unfold jfC;rw[if_neg a2]
  rw[<-hr];have Z:=Hd A;have a0:=Hd hr;have a9:=Hd O;have b0:=Hd X;have d7:=Hd (jbE.keeps J (fun _ _ h=>h) _ _ HK.o);clear J O X hr b2 A a2;go_wp2_with fail
  refine vC (jfB w2 r q d6 a9.o) fun w3 J=>?_;rw[b0.o];have h3:=H2.o.ext J;have b3:=Hd (jbE.keeps J (fun _ _ h=>h) _ _ d7.o);have b9:=(HE.o.trans b7.o).trans J
  obtain⟨au,cu,hu⟩:=h3.row.sl
  subst hu;have q1:w3.cell? ⟨b,1,none⟩=some (.slice au bs.length cu):=h3.blk.cell (i:=1) vF;have H3:=Hd h3;have d8:=H.o.blk.lt;have c2:=H.o.row.lt;have d9:=Hd c2;have e0:=H.o.row.ext.size;have b1:=Hd b9;clear J h3 b9 c2;unfold optV;simp only;go_wp2_with (at_builtin;refine ja0 Tryz.sParts (H3.o.row.mono ((ExtR w3).alloc _)) (.tmp 29) (.tmp 31) rfl rfl rfl (jaN (Blk.new w3 _)) (news:=[ptrV k]) (by intro u hu;simp at hu;rw[hu];rfl) rfl rfl (by unfold maxLen;omega) vO (fun v' w4 r1 r2 r3=>?_);obtain⟨a5,c5,e2⟩:=r1.sl;subst e2;have c3:=(H3.o.blk.alloc _).keeps r2 H3.o.nb;have qb:w4.cell? ⟨b,1,none⟩=some (.slice au bs.length cu):=c3.cell (i:=1) vF;have fb:w4.frozen? ⟨b,1,none⟩=false:=c3.frozen)
  have e1:QRow w0 w4 (.slice a5 (bs.length+1) c5) (bs++[k]):=by
   unfold QRow;rw[bI,bY];exact r1
  have h5:=jc9.add (w1:=W) (H3.o.ext ((ExtR w3).alloc _)) (jbE.keeps ((ExtR w3).alloc _) (fun _ _ h=>h) _ _ b3.o) d8 H.o.ml d9.o e0 e1 r2 r3;have e3:jac (fun x=>x=b\/(Value.slice au bs.length cu).ownBlock=some x) W (w4.setCell ⟨b,1,none⟩ (.slice a5 (bs.length+1) c5)):=
   ((((b1.o.alloc _).mono (G:=fun x=>x=b\/(Value.slice au bs.length cu).ownBlock=some x) (fun _ _ h=>h.elim)).trans (r2.mono (fun _ _ h=>.inr h)))).setCell (.inl (.inl rfl)) _
  go_ret
  exact⟨_,bs++[k],by rw[<-a0.o];rfl,by rw[Z.o];exact h5,by simp,h5.row.ext,e3⟩
abbrev Lt(a b:vN):Prop:=Op.bytesLess a b=true
theorem jbi{a b:vU}{x y:vN}:Lt (a :: x) (b :: y)↔a < b\/(a=b/\Lt x y):=by
 unfold Lt;rw[Op.bytesLess];simp
theorem not_lt_nil(a:vN):¬ Lt a []:=by
 unfold Lt;cases a <;> simp[Op.bytesLess]
theorem jqY{b:vU}{y:vN}:Lt [] (b :: y):=rfl
theorem lt_irrefl:∀ a:vN,¬ Lt a a
 | [],h=>not_lt_nil _ h
 | a :: x,h=>by
  rcases jbi.1 h with h | h
  ·exact iB a h
  ·exact lt_irrefl x h.2
theorem jbM:∀ (a b:vN),a.take (jbs a b)=b.take (jbs a b)/\jbs a b<=a.length/\jbs a b<=b.length
 | [],b=>by simp[jbs]
 | x :: r,[]=>by simp[jbs]
 | x :: r,y :: t=>by
  unfold jbs;split
  ·rename_i h
   obtain⟨e,q,A⟩:=jbM r t
   subst h;simp only[fP,bU,e]
   exact⟨trivial,by omega,by omega⟩
  ·simp
theorem jhg(a b:vN):jbs (a.drop (jbs a b)) (b.drop (jbs a b))=0:=by
 obtain⟨e,q,A⟩:=jbM a b
 have:=jdU a b (jbs a b) e q A
 omega
theorem jpc:∀ (k:Nat) (a m b:vN),Lt a m->Lt m b->a.take k=b.take k->k<=a.length->k<=b.length->m.take k=a.take k/\k<=m.length
 | 0,a,m,b,_,_,_,_,_=>by simp
 | k+1,[],m,b,_,_,_,h,_=>by simp at h
 | k+1,x :: a,m,[],_,_,_,_,h=>by simp at h
 | k+1,x :: a,[],y :: b,h,_,_,_,_=>absurd h (not_lt_nil _)
 | k+1,x :: a,z :: m,y :: b,h1,h2,e,h4,h5=>by
  simp only[fP,List.cons.injEq]at e
  obtain⟨rfl,e⟩:=e
  have q:x=z:=by
   rcases jbi.1 h1 with h | h
   ·rcases jbi.1 h2 with h' | h'
    ·exact absurd (UInt8.lt_trans h h') (iB x)
    ·rw[h'.1]at h;exact absurd h (iB x)
   ·exact h.1
  subst q;have A:Lt a m:=by
   rcases jbi.1 h1 with h | h
   ·exact absurd h (iB x)
   ·exact h.2
  have H:Lt m b:=by
   rcases jbi.1 h2 with h | h
   ·exact absurd h (iB x)
   ·exact h.2
  obtain⟨J,K⟩:=jpc k a m b A H e (by simpa using h4) (by simpa using h5)
  simp only[fP,J,bU]
  exact⟨trivial,by omega⟩
theorem jqG:∀ (k:Nat) (a b:vN),Lt a b->a.take k=b.take k->k<=a.length->k<=b.length->Lt (a.drop k) (b.drop k)
 | 0,a,b,h,_,_,_=>h
 | k+1,[],b,_,_,h,_=>by simp at h
 | k+1,x :: a,[],h,_,_,_=>absurd h (not_lt_nil _)
 | k+1,x :: a,y :: b,h,h1,h2,h3=>by
  simp only[fP,List.cons.injEq]at h1;rcases jbi.1 h with h | h
  ·rw[h1.1]at h;exact absurd h (iB y)
  ·exact jqG k a b h.2 h1.2 (by simpa using h2) (by simpa using h3)
abbrev Pair.l(p:Pair):vN:=p.1.data.toList
structure jcE(f:Nat)(l:vL):Prop where
 size:∀ p∈l,p.1.size<=f/\p.1.size<=12/\jaE p.1=true/\0 < p.2.size/\p.2.size<=80
 rise:l.Pairwise fun p q=>Lt p.l q.l
theorem jdE(b:vB)(k n:Nat)(h:b.size<=n):(b.extract k n).data.toList=b.data.toList.drop k:=by
 rw[fH,gA,fL,cF];rw[gX];have:b.data.toList.length=b.size:=rfl;omega
theorem jaQ(b:vB)(k:Nat):(b.extract k b.size).size=b.size - k:=by rw[dH];omega
theorem jbb{b:vB}(h:jaE b=true)(k n:Nat):jaE (b.extract k n)=true:=by
 unfold jaE at *;rw[dI]at *;intro x e;refine h x ?_;rw[fH,gA,fL]at e;exact List.mem_of_mem_drop (iA e)
def pd:Pair:=(⟨#[]⟩,⟨#[]⟩)
def comK(l:vL):Nat:=jar (l.getD 0 pd).1 (l.getD (l.length - 1) pd).1
theorem jfJ{l:vL}{R:Pair->Pair->Prop}(h:l.Pairwise R){i j:Nat}{p q:Pair}(hij:i < j)(hi:l[i]?=some p)(hj:l[j]?=some q):R p q:=by
 obtain⟨e,rfl⟩:=bH.1 hi
 obtain⟨A,rfl⟩:=bH.1 hj
 exact gD.1 h i j e A hij
theorem jdT{l:vL}(h:jcE f l)(h2:2<=l.length):∀ p∈l,p.l.take (comK l)=(l.getD 0 pd).l.take (comK l)/\comK l<=p.1.size:=by
 intro p K
 obtain⟨i,hi⟩:=fO K
 have O:=(bH.1 hi).1
 obtain⟨a,e⟩:∃ a,l[0]?=some a:=⟨_,bB vO⟩
 obtain⟨b,hb⟩:∃ b,l[l.length - 1]?=some b:=⟨_,bB vO⟩
 have q:l.getD 0 pd=a:=by rw[bJ,e];rfl
 have X:l.getD (l.length - 1) pd=b:=by rw[bJ,hb];rfl
 have Z:comK l=jbs a.l b.l:=by unfold comK jar;rw[q,X]
 obtain⟨A,H,J⟩:=jbM a.l b.l
 rw[Z,q]
 by_cases h0:i=0
 ·subst h0;rw[e]at hi;obtain rfl:=bP hi;exact⟨rfl,H⟩
 ·by_cases hn:i=l.length - 1
  ·subst hn;rw[hb]at hi;obtain rfl:=bP hi;exact⟨A.symm,J⟩
  ·exact jpc _ a.l p.l b.l (jfJ h.rise vO e hi) (jfJ h.rise vO hi hb) A H J
theorem jgX{l:vL}(h:jcE f l)(hk:∀ p∈l,∀ q∈l,p.l.take k=q.l.take k)(hs:∀ p∈l,k<=p.1.size):jcE (f - k) (ja9 k l):=by
 refine⟨fun p e=>?_,?_⟩
 ·obtain⟨q,A,rfl⟩:=bD.1 e
  obtain⟨X,Z,J,K,O⟩:=h.size q A
  refine⟨?_,?_,jbb J _ _,K,O⟩
  ·show (q.1.extract k q.1.size).size<=_;rw[jaQ];omega
  ·show (q.1.extract k q.1.size).size<=_;rw[jaQ];omega
 ·unfold ja9
  rw[iG];refine List.Pairwise.imp_of_mem (fun {p q} e A H=>?_) h.rise;show Lt (p.1.extract k p.1.size).data.toList (q.1.extract k q.1.size).data.toList;rw[jdE _ _ _ (bL _),jdE _ _ _ (bL _)];exact jqG k _ _ H (hk p e q A) (hs p e) (hs q A)
theorem jfv{i:Nat}{l:vL}{p:Pair}(h:p∈cutL i l):p∈l/\∃ a r,p.l=a :: r/\a.toNat=i:=by
 obtain⟨q,e⟩:=cI.1 h
 refine⟨q,?_⟩
 unfold jjw at e;cases hp:p.1.data.toList with
 | nil=>rw[hp]at e;cases e
 | cons a r=>rw[hp]at e;exact⟨a,r,hp,by simpa using e⟩
theorem jvq{l:vL}(h:jcE f l):jcE f (cutL i l):=
 ⟨fun p e=>h.size p (jfv e).1,List.Pairwise.filter _ h.rise⟩
theorem jrI{l:vL}(h:jcE f l):jcE (f - 1) (ja9 1 (cutL i l)):=by
 refine jgX 1 (jvq i h) (fun p e q J=>?_) (fun p e=>?_)
 ·obtain⟨_,a,r,A,H⟩:=jfv e
  obtain⟨_,b,t,K,O⟩:=jfv J
  rw[A,K,fV.1 (H.trans O.symm)];rfl
 ·obtain⟨_,a,r,A,H⟩:=jfv e
  show 1<=p.1.data.toList.length;rw[show p.1.data.toList=a :: r from A];simp
def jbU(B:vL->PT)(l:vL):jae:=
 if l.length=0 then jas
 else if l.length=1 then ⟨1,(l.getD 0 pd).1,(l.getD 0 pd).2,jaw 16⟩
 else if 0 < comK l then ⟨2,(l.getD 0 pd).1.extract 0 (comK l),⟨#[]⟩,refB (B (ja9 (comK l) l)).text :: jaw 15⟩
 else ⟨3,⟨#[]⟩,if (l.getD 0 pd).1.size=0 then (l.getD 0 pd).2 else ⟨#[]⟩,(List.range 16).map fun i=>if (cutL i l).length=0 then ⟨#[]⟩else refB (B (ja9 1 (cutL i l))).text⟩
def jda(B:vL->PT)(l:vL):List PT:=
 if l.length<=1 then []
 else if 0 < comK l then jfC (B (ja9 (comK l) l))
 else (List.range 16).flatMap fun i=>if (cutL i l).length=0 then []else jfC (B (ja9 1 (cutL i l)))
def jaz:Nat->vL->PT
 | 0,_=>.mk ⟨#[]⟩ []
 | f+1,l=>.mk (jaV (jbU (jaz f) l)) (jda (jaz f) l)
theorem jcE.mono{l:vL}(h:jcE f l)(hg:f<=g):jcE g l:=⟨fun p e=>by obtain⟨A,q⟩:=h.size p e;exact⟨by omega,q⟩,h.rise⟩
theorem jhO:∀ (l:vM) (i j:Nat) (r:vB),l[j]?=some r->r.size≠0->(i+j,r)∈jav i l
 | [],i,j,r,h,_=>by simp at h
 | x :: l,i,0,r,h,h0=>by
  simp at h;subst h;unfold jav;rw[if_neg h0];exact cJ ..
 | x :: l,i,j+1,r,h,h0=>by
  have:=jhO l (i+1) j r (by simpa using h) h0
  rw[show i+(j+1)=i+1+j by omega];unfold jav;split
  ·exact this
  ·exact bW _ this
theorem jyJ{α:Type}{a b:α}{l:List α}(ha:a∈l)(hb:b∈l)(h:a≠b):2<=l.length:=by
 match l,ha,hb with
 | [x],ha,hb =>
  rw[bM]at ha hb;exact absurd (ha.trans hb.symm) h
 | x :: y :: r,_,_=>simp
theorem jyj{α:Type}{a:α}{l:List α}(ha:a∈l):1<=l.length:=by cases l <;> simp at ha ⊢
structure jib(f:Nat)(T:PT)(n:jae):Prop where
 text:T.text=jaV n
 good:jaW (InlD f) n
 kind:n.kind≠0
 small:T.text.size < 32->T.kids=[]
theorem jib.may{T:PT}(h:jib f T n):MayP (InlD (f+1)) (refB T.text)/\(T.text.size < 32->InlD (f+1) (refB T.text) n):=by
 by_cases hs:T.text.size < 32
 ·have e:refB T.text=jaV n:=by unfold refB;rw[if_pos hs,h.text]
  have q:InlD (f+1) (refB T.text) n:=by rw[e];exact⟨h.good,rfl,by rw[<-h.text];exact hs,h.kind⟩
  exact⟨.inr ⟨n,q⟩,fun _=>q⟩
 ·exact⟨.inl ⟨shaB T.text,jbg _,by unfold refB;rw[if_neg hs]⟩,fun h=>absurd h hs⟩
theorem MayP.pos(h:MayP (InlD f) r):r.size≠0:=by
 rcases h with h |⟨m,h⟩
 ·rw[h.size];omega
 ·exact (inlP f).pos r m h
theorem jib.kid{T:PT}(h:jib f T n):juX T:=by
 have e:=h.good.one (inlP f)
 refine⟨by have:=jiG n e;rw[h.text];omega,h.small,fun H=>?_⟩
 obtain⟨xs,q,A⟩:=jiF n e h.kind
 rw[h.text,q];exact jks xs A
theorem jyt{T:PT}(h:¬ T.text.size < 32):(refB T.text).size=33:=by
 have:je2 (refB T.text):=⟨shaB T.text,jbg _,by unfold refB;rw[if_neg h]⟩
 exact this.size
theorem jgU:∀ (l:vM) (x:vB),x∈l->x.size<=(catB l).size
 | y :: l,x,h=>by
  rw[jbe];rcases bZ.1 h with rfl | h
  ·omega
  ·have:=jgU l x h;omega
theorem jg2(xs:vM):(catB xs).size<=(ja6 xs).size:=by unfold ja6;rw[cD];omega
theorem jiu{k:Nat}{l:vL}{i:Nat}(h:i < l.length):(ja9 k l).getD i pd=((l.getD i pd).1.extract k (l.getD i pd).1.size,(l.getD i pd).2):=by
 unfold ja9;rw[bJ,bV,bJ,bB h];rfl
theorem jbC(l:vL):(ja9 k l).length=l.length:=by simp[ja9]
theorem jpI{l:vL}(h:0 < l.length):comK (ja9 (comK l) l)=0:=by
 have e:comK (ja9 (comK l) l)=jbs (((l.getD 0 pd).l).drop (comK l)) (((l.getD (l.length - 1) pd).l).drop (comK l)):=by
  conv=>lhs;unfold comK
  rw[jbC,jiu h,jiu vO];unfold jar;simp only;rw[jdE _ _ _ (bL _),jdE _ _ _ (bL _)];rfl
 rw[e];exact jhg _ _
theorem jhF{p:Pair}(h:jaE p.1=true){a:vU}{r:vN}(hp:p.l=a :: r):a.toNat < 16:=by
 have:a<=15:=of_decide_eq_true (dI.1 h a (by rw[show p.1.data.toList=a :: r from hp];exact cJ ..))
 have:=fB.1 this
 have e:(15:vU).toNat=15:=rfl;omega
theorem good:∀ (f:Nat) (l:vL),jcE f l->jaW (InlD f) (jbU (jaz f) l)/\(l≠[]->jib f (jaz (f+1) l) (jbU (jaz f) l))/\(2<=l.length->comK l=0->(jbU (jaz f) l).kind=3):=by
 intro f;induction f with
 | zero =>
  intro l h;have hl:l.length<=1:=by
   rcases fN l.length 2 with h2 | h2
   ·omega
   ·obtain⟨a,ha⟩:∃ a,l[0]?=some a:=⟨_,bB vO⟩
    obtain⟨b,hb⟩:∃ b,l[1]?=some b:=⟨_,bB vO⟩
    have A:=jfJ h.rise vO ha hb
    have:=(h.size b (bG hb)).1
    rw[show b.l=[]from bO (by show b.1.size=0;omega)]at A;exact absurd A (not_lt_nil _)
  by_cases O:l.length=0
  ·have e:jbU (jaz 0) l=jas:=by unfold jbU;rw[if_pos O]
   rw[e]
   exact⟨.none,fun hn=>absurd (bO O) hn,fun h2=>by omega⟩
  ·have h1:l.length=1:=vO
   obtain⟨p,J⟩:=vE (l.getD 0 pd)
   have e:jbU (jaz 0) l=⟨1,p.1,p.2,jaw 16⟩:=by unfold jbU;rw[if_neg O,if_pos h1,J]
   have a5:p∈l:=by rw[J,bJ,bB vO];exact dW _
   obtain⟨s1,s2,s3,s4,s5⟩:=h.size p a5
   have X:jaW (InlD 0) ⟨1,p.1,p.2,jaw 16⟩:=.leaf p.1 p.2 (by simp[jae.pathOk,s2,s3]) s4 s5;rw[e]
   exact⟨X,fun _=>⟨by unfold jaz;rw[e];rfl,X,by simp,fun _=>by unfold jaz jda;rw[if_pos vO];rfl⟩,fun h2=>by omega⟩
 | succ f ih =>
  intro l h
  by_cases O:l.length=0
  ·have e:jbU (jaz (f+1)) l=jas:=by unfold jbU;rw[if_pos O]
   rw[e]
   exact⟨.none,fun hn=>absurd (bO O) hn,fun h2=>by omega⟩
  by_cases h1:l.length=1
  ·obtain⟨p,J⟩:=vE (l.getD 0 pd)
   have e:jbU (jaz (f+1)) l=⟨1,p.1,p.2,jaw 16⟩:=by unfold jbU;rw[if_neg O,if_pos h1,J]
   have a5:p∈l:=by rw[J,bJ,bB vO];exact dW _
   obtain⟨s1,s2,s3,s4,s5⟩:=h.size p a5
   have X:jaW (InlD (f+1)) ⟨1,p.1,p.2,jaw 16⟩:=.leaf p.1 p.2 (by simp[jae.pathOk,s2,s3]) s4 s5;rw[e]
   exact⟨X,fun _=>⟨by unfold jaz;rw[e];rfl,X,by simp,fun _=>by unfold jaz jda;rw[if_pos vO];rfl⟩,fun h2=>by omega⟩
  have h2:2<=l.length:=vO
  have H:=jdT h h2
  obtain⟨a,ha⟩:∃ a,l[0]?=some a:=⟨_,bB vO⟩
  obtain⟨b,hb⟩:∃ b,l[l.length - 1]?=some b:=⟨_,bB vO⟩
  have ga:l.getD 0 pd=a:=by rw[bJ,ha];rfl
  have gb:l.getD (l.length - 1) pd=b:=by rw[bJ,hb];rfl
  have A:=jfJ h.rise vO ha hb
  obtain⟨c8,c9,b7,d0,b8⟩:=h.size a (bG ha)
  obtain⟨d1,d2,d3,d4,d5⟩:=h.size b (bG hb)
  by_cases hk:0 < comK l
  ·have b9:jcE f (ja9 (comK l) l):=(jgX (comK l) h (fun p J q hq=>(H p J).1.trans (H q hq).1.symm) (fun p J=>(H p J).2)).mono vO
   obtain⟨_,i2,i3⟩:=ih _ b9
   have b2:=i2 (fun e=>by have:=jbC (comK l) l;rw[e]at this;simp at this;omega);have c0:=i3 (by rw[jbC];omega) (jpI vO);have e:jbU (jaz (f+1)) l=⟨2,a.1.extract 0 (comK l),⟨#[]⟩,refB (jaz (f+1) (ja9 (comK l) l)).text :: jaw 15⟩:=by unfold jbU;rw[if_neg O,if_neg h1,if_pos hk,ga]
   have d6:=(H a (bG ha)).2;have c1:(a.1.extract 0 (comK l)).size=comK l:=by rw[dH];omega
   have X:jaW (InlD (f+1)) (jbU (jaz (f+1)) l):=by
    rw[e];refine .ext _ _ ?_ b2.may.1.pos ?_
    ·simp[jae.pathOk,c1,jbb b7];omega
    ·by_cases hs:(jaz (f+1) (ja9 (comK l) l)).text.size < 32
     ·exact .inr ⟨_,b2.may.2 hs,c0⟩
     ·exact .inl ⟨_,jbg _,by unfold refB;rw[if_neg hs]⟩
   refine⟨X,fun _=>⟨rfl,X,by rw[e];simp,fun Z=>?_⟩,fun _ a7=>by omega⟩
   have a0:(jaz (f+1+1) l).kids=jfC (jaz (f+1) (ja9 (comK l) l)):=by
    show jda (jaz (f+1)) l=_;unfold jda;rw[if_neg vO,if_pos hk]
   rw[a0];unfold jfC;rw[if_pos];rcases fN (jaz (f+1) (ja9 (comK l) l)).text.size 32 with hx | hx
   ·exact hx
   ·have c2:=jyt (T:=jaz (f+1) (ja9 (comK l) l)) vO
    have ht:(jaz (f+1+1) l).text=extB (jbU (jaz (f+1)) l):=by show jaV (jbU (jaz (f+1)) l)=_;rw[e];rfl
    rw[ht,e]at Z
    have:=jg2 [jam (putB (a.1.extract 0 (comK l)) false),refB (jaz (f+1) (ja9 (comK l) l)).text]
    have:=jgU [jam (putB (a.1.extract 0 (comK l)) false),refB (jaz (f+1) (ja9 (comK l) l)).text] _ (bW _ (cJ ..))
    have a2:(ja6 [jam (putB (a.1.extract 0 (comK l)) false),refB (jaz (f+1) (ja9 (comK l) l)).text]).size < 32:=Z;omega
  ·obtain⟨K,a4⟩:=vE ((List.range 16).map fun i=>if (cutL i l).length=0 then (⟨#[]⟩:vB)else refB (jaz (f+1) (ja9 1 (cutL i l))).text)
   have e:jbU (jaz (f+1)) l=⟨3,⟨#[]⟩,if a.1.size=0 then a.2 else ⟨#[]⟩,K⟩:=by unfold jbU;rw[if_neg O,if_neg h1,if_neg hk,ga,a4]
   have a3:∀ i,(cutL i l).length≠0->jib f (jaz (f+1) (ja9 1 (cutL i l))) (jbU (jaz f) (ja9 1 (cutL i l))):=fun i hi =>
    (ih _ (jrI i h)).2.1 (fun e=>by have:=jbC 1 (cutL i l);rw[e]at this;simp at this;omega)
   have b3:K.length=16:=by rw[a4];simp
   have b4:∀ i,i < 16->K[i]?=some (if (cutL i l).length=0 then (⟨#[]⟩:vB)else refB (jaz (f+1) (ja9 1 (cutL i l))).text):=fun i hi=>by
    rw[a4,bV,fF hi];rfl
   have a9:∀ r∈K,r.size≠0->MayP (InlD (f+1)) r:=by
    intro r hr b5;rw[a4]at hr
    obtain⟨i,_,rfl⟩:=bD.1 hr
    by_cases hi:(cutL i l).length=0
    ·rw[if_pos hi]at b5;exact absurd rfl b5
    ·rw[if_neg hi];exact (a3 i hi).may.1
   have a8:∀ (p:Pair) (x:vU) (r:vN),p∈l->p.l=x :: r->∃ y,(x.toNat,y)∈jav 0 K:=by
    intro p x r J b6;have hx:=jhF (h.size p J).2.2.1 b6;have hc:(cutL x.toNat l).length≠0:=by
     intro O;have hm:p∈cutL x.toNat l:=cI.2 ⟨J,by unfold jjw;rw[show p.1.data.toList=x :: r from b6];simp⟩;rw[bO O]at hm;cases hm
    have h5:=b4 x.toNat hx;rw[if_neg hc]at h5
    have:=jhO K 0 x.toNat _ h5 (a3 _ hc).may.1.pos
    rw[bT]at this
    exact⟨_,this⟩
   have d7:comK l=jbs a.l b.l:=by unfold comK jar;rw[ga,gb]
   have a7:jbs a.l b.l=0:=vO
   have a1:2<=min (if a.1.size=0 then a.2 else (⟨#[]⟩:vB)).size 1+(jav 0 K).length:=by
    cases hal:a.l with
    | nil =>
     have c3:a.1.size=0:=by show a.1.data.toList.length=0;rw[show a.1.data.toList=[]from hal];rfl
     rw[if_pos c3];cases hbl:b.l with
     | nil=>rw[hbl]at A;exact absurd A (not_lt_nil _)
     | cons y r =>
      obtain⟨z,hz⟩:=a8 b y r (bG hb) hbl
      have:=jyj hz
      omega
    | cons x r =>
     cases hbl:b.l with
     | nil=>rw[hbl]at A;exact absurd A (not_lt_nil _)
     | cons y t =>
      obtain⟨z,hz⟩:=a8 a x r (bG ha) hal
      obtain⟨z',c4⟩:=a8 b y t (bG hb) hbl
      have c5:x≠y:=by
       intro e;rw[hal,hbl,e]at a7;simp[jbs]at a7
      have:=jyJ hz c4 (fun e=>c5 (fV.1 (Prod.mk.inj e).1))
      omega
   have X:jaW (InlD (f+1)) (jbU (jaz (f+1)) l):=by
    rw[e];refine .branch _ _ b3 ?_ a9 a1;split
    ·exact b8
    ·exact cB _
   refine⟨X,fun _=>⟨rfl,X,by rw[e];simp,fun Z=>?_⟩,fun _ _=>by rw[e]⟩
   have a0:(jaz (f+1+1) l).kids=(List.range 16).flatMap fun i=>if (cutL i l).length=0 then []else jfC (jaz (f+1) (ja9 1 (cutL i l))):=by
    show jda (jaz (f+1)) l=_;unfold jda;rw[if_neg vO,if_neg hk]
   rw[a0,List.flatMap_eq_nil_iff];intro i hi;have b0:=fZ.1 hi
   by_cases hc:(cutL i l).length=0
   ·rw[if_pos hc]
   ·rw[if_neg hc]
    unfold jfC;rw[if_pos];rcases fN (jaz (f+1) (ja9 1 (cutL i l))).text.size 32 with hx | hx
    ·exact hx
    ·have c2:=jyt (T:=jaz (f+1) (ja9 1 (cutL i l))) vO
     have ht:(jaz (f+1+1) l).text=jhb (jbU (jaz (f+1)) l):=by show jaV (jbU (jaz (f+1)) l)=_;rw[e];rfl
     rw[ht,e]at Z;have h6:=b4 i b0;rw[if_neg hc]at h6;have c7:jbB ⟨3,⟨#[]⟩,if a.1.size=0 then a.2 else ⟨#[]⟩,K⟩=jbJ K (if a.1.size=0 then a.2 else ⟨#[]⟩):=jf3 _ b3;have b1:refB (jaz (f+1) (ja9 1 (cutL i l))).text∈jbJ K (if a.1.size=0 then a.2 else ⟨#[]⟩):=by
      unfold jbJ;refine List.mem_append_left _ (bD.2 ⟨_,bG h6,?_⟩);rw[if_neg vO]
     have h7:=jgU _ _ b1;have h8:=jg2 (jbJ K (if a.1.size=0 then a.2 else ⟨#[]⟩));have a2:(ja6 (jbB ⟨3,⟨#[]⟩,if a.1.size=0 then a.2 else ⟨#[]⟩,K⟩)).size < 32:=Z;rw[c7]at a2;omega
def jg7(l:vL)(T:PT):Prop:=∀ (w:vW) (v:vV),jbA w->RdP w v l->vQ 84 #[v] w fun e w'=>∃ k,e=.returned (ptrV k)/\jbE (fun x=>w.heap.size<=x) T k w'/\Ext w w'
theorem jtg(W1 W2:vW)(bn:Nat)(h1:W1=w.alloc (.cells #[.string ⟨#[]⟩,.slice none 0 0] 162))(h2:Ext W1 W2)(h3:bn=W1.heap.size)(h4:bn < W2.heap.size):jc9 w W2 w.heap.size bn ⟨#[]⟩ [] (.slice none 0 0) []:=by
 have A:W1.heap.size=w.heap.size+1:=by rw[h1,bF]
 have q:Ext w W2:=(by rw[h1]at h2;exact ((ExtR w).alloc _).trans h2)
 refine⟨?_,bL _,ORow.nil _ _ q,fun _=>rfl,fun e=>(by cases e),by omega,fun e=>(by cases e),by omega,h4,by unfold jaM;rfl⟩
 rw[h1]at h2;exact (Blk.new w _).keeps h2 (fun h=>h)
theorem jnI(f:Nat)(l:vL)(h0:l.length=0):jg7 l (jaz (f+1) l):=by
 intro w v hc hv
 obtain⟨a,c,X⟩:=hv.sl
 rw[h0]at X;subst X;have ht:jaz (f+1) l=.mk (jaV jas) []:=by
  show PT.mk (jaV (jbU _ l)) (jda _ l)=_;unfold jbU jda;rw[if_pos h0,if_pos vO]
 rw[ht];clear hv hc h0
 obtain⟨W1,q⟩:=vE (w.alloc (.cells #[.string ⟨#[]⟩,.slice none 0 0] 162))
 have a0:=Hd q;go_enter Tryz.func84,Tryz.ntmps84;go_wp2_with (first |(refine jah Tryz.allocNode rfl rfl ?_;intro W3 Z J;refine jad (vs:=jas.cells) rfl rfl rfl rfl Z rfl Tryz.szNode (jae.one _) ?_;intro W4 A K;simp only[bF]at A K) |(refine jaf 206 (.tmp 4) rfl rfl _ _ rfl (jap _ _ jas rfl A) ?_))
 have H:Ext W1 W4:=by
  rw[<-q]at J;exact J.trans' K (fun x hx e=>by have e:x=w.heap.size+1:=e;rw[q,bF]at hx;omega)
 have HH:=Hd (jtg w W1 W4 (w.heap.size+1) q H (by rw[q,bF]) A.lt);have HG:=Hd (jaW.none (I:=InlD f));clear J K Z q a0 ht;unfold jae.V;refine vH (jiH (inlP f) _ jas HG.o) fun w9 hE=>?_;have h9:=HH.o.ext hE;have q0:w9.cell? ⟨w.heap.size,0,none⟩=some (.string ⟨#[]⟩):=h9.blk.cell (i:=0) vF;have f0:w9.frozen? ⟨w.heap.size,0,none⟩=false:=h9.blk.frozen;have H9:=Hd (h9.setText (jaV jas))
 obtain⟨tx,O⟩:=vE (jaV jas)
 rw[<-O]at H9 ⊢;have a1:=Hd O;clear h9 O A H;go_wp2_with fail
 go_ret
 exact⟨w.heap.size,rfl,by rw[<-a1.o];exact H9.o.part,H9.o.row.ext⟩
theorem jpk(f:Nat)(l:vL)(H:l.length=1)(hok:jcE f l):jg7 l (jaz (f+1) l):=by
 intro w v hc hv
 obtain⟨p,hp⟩:∃ p,l=[p]:=by
  match l,H with
  | [p],_=>exact⟨p,rfl⟩
 have hn:jbU (jaz f) l=⟨1,p.1,p.2,jaw 16⟩:=by unfold jbU;rw[if_neg vO,if_pos H,hp];rfl
 have q:=(good f l hok).1;rw[hn]at q;have ht:jaz (f+1) l=.mk (jaV ⟨1,p.1,p.2,jaw 16⟩) []:=by
  show PT.mk (jaV (jbU _ l)) (jda _ l)=_;rw[hn];unfold jda;rw[if_pos vO]
 obtain⟨T,hT⟩:=vE (jaz (f+1) l)
 rw[<-hT]at ht ⊢;have HT:=Hd ht;rcases hv with⟨_,_,_,h0⟩ |⟨b,o,c,rfl,hb,hcl,hcell⟩
 ·rw[h0]at H;cases H
 obtain⟨q1,q2⟩:=hcell 0 p (by rw[hp];rfl)
 rw[iJ,gN]at q1 q2;rw[H]at hcl ⊢
 obtain⟨x,y⟩:=p
 have q:=q;have Q1:=Hd q1;have Q2:=Hd q2;have HG:=Hd q
 obtain⟨W1,A⟩:=vE (w.alloc (.cells #[.string ⟨#[]⟩,.slice none 0 0] 162))
 clear hc H hok hp hn q ht hT hcell q1 q2;go_enter Tryz.func84,Tryz.ntmps84;go_wp2_with (refine jah Tryz.allocNode rfl rfl ?_;intro W3 a2 Z;refine jad (vs:=jas.cells) rfl rfl rfl rfl a2 rfl Tryz.szNode (jae.one _) ?_;intro W4 J a0;simp only[bF]at J a0)
 have X:Ext W1 W4:=by
  rw[<-A]at Z;exact Z.trans' a0 (fun x hx e=>by have e:x=w.heap.size+1:=e;rw[A,bF]at hx;omega)
 have hh:=jtg w W1 W4 (w.heap.size+1) A X (by rw[A,bF]) J.lt;have O:=Hd hh;have a3:=Hd J;clear Z a0 a2 A J X hh;refine jaq [0,1,2,3,4,5,6,7,8,9] [9] Ext ExtR ExtT vY vY vY ?_;iterate 3 refine vP ?_
 refine qL ⟨b,o,none⟩ _ rfl (fun w1 H=>jab Tryz.uStr rfl (jaa (jaa (by exact Q1.o) (O.o.row.ext.trans (jak _))) H)) ?_;refine vS ?_;iterate 3 refine vP ?_
 refine qL ⟨b,o+1,none⟩ _ rfl (fun w1 H=>jab Tryz.uStr rfl (jaa (jaa (by exact Q2.o) (O.o.row.ext.trans (jak _))) H)) ?_;refine vS ?_
 refine vP ?_
 refine qH _ rfl (fun w5 he K hK=>?_);have hX:=(jak W4).trans he;refine jdl (vs:=jbW 1 x y ⟨#[]⟩) rfl rfl rfl (a3.o.keeps hX (fun h=>h)) rfl Tryz.szNode (jbX _ _ _ _) ?_;intro W6 a4 a5;have H6:=Hd ((O.o.ext hX).other a5);have a7:=Hd (show Blk W6 (w.heap.size+1) (.cells (jae.cells ⟨1,x,y,jaw 16⟩).toArray 206)from a4);clear he hX a4 a5 Q1 Q2 a3 O;refine vS ?_;refine hK _ _ ?_;clear hK K;refine qE (fun w7 he=>?_);have HH:=Hd (H6.o.ext he);have a8:=a7.o.keeps he (fun h=>h);clear he a7 H6;go_wp2_with (refine jaf 206 (.tmp 4) rfl rfl _ _ rfl (jap _ _ ⟨1,x,y,jaw 16⟩ rfl a8) ?_)
 refine vH (jiH (inlP _) _ ⟨1,x,y,jaw 16⟩ HG.o) fun w9 hE=>?_;have h9:=HH.o.ext hE;have q0:w9.cell? ⟨w.heap.size,0,none⟩=some (.string ⟨#[]⟩):=h9.blk.cell (i:=0) vF;have f0:w9.frozen? ⟨w.heap.size,0,none⟩=false:=h9.blk.frozen;have H9:=Hd (h9.setText (jaV ⟨1,x,y,jaw 16⟩))
 obtain⟨tx,a1⟩:=vE (jaV ⟨1,x,y,jaw 16⟩)
 rw[<-a1]at H9 ⊢;have a9:=Hd a1;clear h9 a1;go_wp2_with fail
 go_ret
 exact⟨w.heap.size,rfl,by rw[HT.o, <-a9.o];exact H9.o.part,H9.o.row.ext⟩
theorem jpj(f:Nat)(l:vL)(K:2<=l.length)(hln:l.length<=1000)(hok:jcE (f+1) l)(hk:0 < comK l)(HB:jg7 (ja9 (comK l) l) (jaz (f+1) (ja9 (comK l) l))):jg7 l (jaz (f+1+1) l):=by
 intro w v hc hv
 obtain⟨a,ha⟩:∃ a,l[0]?=some a:=⟨_,bB vO⟩
 obtain⟨z,hz⟩:∃ z,l[l.length - 1]?=some z:=⟨_,bB vO⟩
 have ga:l.getD 0 pd=a:=by rw[bJ,ha];rfl
 have gz:l.getD (l.length - 1) pd=z:=by rw[bJ,hz];rfl
 obtain⟨f7,f8,d5,f9,g0⟩:=hok.size a (bG ha)
 obtain⟨g2,g3,d6,g4,g5⟩:=hok.size z (bG hz)
 have H:=(good (f+1) l hok).1;have d8:=hv;rcases hv with⟨_,_,_,h0⟩ |⟨b,o,c,rfl,hb,hcl,hcell⟩
 ·rw[h0]at K;simp at K
 obtain⟨q1,b6⟩:=hcell 0 a ha
 rw[iJ,gN]at q1 b6
 obtain⟨q2,_⟩:=hcell (l.length - 1) z hz
 obtain⟨A,O⟩:=vE (comK l)
 have b7:A=jar a.1 z.1:=by rw[O];unfold comK;rw[ga,gz]
 obtain⟨x,y⟩:=a
 obtain⟨xb,yb⟩:=z
 simp only at f7 f8 d5 f9 g0 g2 g3 d6 g4 g5 q1 b6 q2 b7;have a0:=jgX (comK l) hok (fun p hp q hq=>((jdT hok K p hp).1).trans (jdT hok K q hq).1.symm) (fun p hp=>(jdT hok K p hp).2);have a7:=(jdT hok K (x,y) (bG ha)).2;have d9:∀ p∈l,A<=p.1.size/\p.1.size<=1000000:=fun p hp=>⟨by rw[O];exact (jdT hok K p hp).2,by have:=(hok.size p hp).2.1;omega⟩;rw[<-O]at hk a0 a7 HB;have a7:A<=x.size:=a7
 obtain⟨T',a9⟩:∃ T',T'=jaz (f+1) (ja9 A l):=⟨_,rfl⟩
 have b8:=(good f _ (a0.mono vO)).2.1 (fun e=>by have:=jbC A l;rw[e]at this;simp at this;omega);rw[<-a9]at HB b8
 obtain⟨r,hr⟩:=vE (refB T'.text)
 have hn:jbU (jaz (f+1)) l=⟨2,x.extract 0 A,⟨#[]⟩,r :: jaw 15⟩:=by unfold jbU;rw[if_neg vO,if_neg vO, <-O,if_pos hk,ga, <-a9, <-hr]
 rw[hn]at H;have ht:jaz (f+1+1) l=.mk (jaV ⟨2,x.extract 0 A,⟨#[]⟩,r :: jaw 15⟩) (jfC T'):=by
  show PT.mk (jaV (jbU _ l)) (jda _ l)=_;rw[hn];unfold jda;rw[if_neg vO, <-O,if_pos hk, <-a9]
 obtain⟨T,hT⟩:=vE (jaz (f+1+1) l)
 rw[<-hT]at ht ⊢;have c0:((l.length:Int) == 0)=false:=by simp;exact fun e=>by rw[e]at K;simp at K
 have c1:¬(l.length:Int)=0:=vO
 have c2:((l.length:Int) == 1)=false:=by simp;omega
 have c3:¬(l.length:Int)=1:=vO
 have c4:(0:Int)<=(l.length:Int) - 1:=vO
 have c5:(l.length:Int) - 1 < (l.length:Int):=vO
 have c6:((l.length:Int) - 1).toNat=l.length - 1:=vO
 have c7:(0:Int) < (l.length:Int):=vO
 have d7:0 < l.length:=vO
 have d0:0 < A:=hk;have e0:(0:Int) < (A:Int):=vO
 have e1:(A:Int)<=(x.size:Int):=vO
 have e2:(x.extract 0 A).size=A:=by rw[dH];omega
 have HT:=Hd ht;have Q1:=Hd q1;have Q2:=Hd q2;have e3:=Hd b7;have HG:=Hd H;have g6:=Hd d8;have g7:=Hd d9;have d2:=Hd b8.kid;have HR:=Hd hr;have g8:=Hd HB;have HC:=Hd hc;have HL:=Hd (show ja9 A l≠[]from fun e=>by have:=jbC A l;rw[e]at this;simp at this;omega);have g9:=Hd (show (ja9 A l).length<=1000000 by rw[jbC];omega);clear hc ha hz ga gz hok H d8 hcell q1 b6 q2 O b7 a0 a7 d9 a9 b8 hr hn ht hT HB d5 d6 e2
 obtain⟨W1,a1⟩:=vE (w.alloc (.cells #[.string ⟨#[]⟩,.slice none 0 0] 162))
 go_enter Tryz.func84,Tryz.ntmps84;go_wp2_with (refine jah Tryz.allocNode rfl rfl ?_;intro W3 e4 b9;refine jad (vs:=jas.cells) rfl rfl rfl rfl e4 rfl Tryz.szNode (jae.one _) ?_;intro W4 b0 c9;simp only[bF]at b0 c9)
 have a2:Ext W1 W4:=by
  rw[<-a1]at b9;exact b9.trans' c9 (fun x hx e=>by have e:x=w.heap.size+1:=e;rw[a1,bF]at hx;omega)
 have hh:=jtg w W1 W4 (w.heap.size+1) a1 a2 (by rw[a1,bF]) b0.lt;have e5:=Hd hh;have e6:=Hd b0;have Z:=Hd hh.row.ext;clear b9 c9 e4 a1 b0 a2 hh;refine jaj [0,1,2,3,4,5,6,7,8,9,10,11,12,13] Ext ExtR ExtT vY vY vY ?_;iterate 3 refine vK ?_
 refine qKL ⟨b,o,none⟩ _ rfl (fun w1 X=>jab Tryz.uStr rfl (jaa (jaa (by exact Q1.o) (Z.o.trans (jak _))) X)) ?_;refine vS ?_;iterate 6 refine vK ?_
 refine qKL ⟨b,o+(l.length - 1) * 2,none⟩ _ rfl (fun w1 X=>jab Tryz.uStr rfl (jaa (jaa (by exact Q2.o) (Z.o.trans (jak _))) X)) ?_;refine vS ?_;refine qKC _ 131 #[.string x,.string xb] (.int .i64 (A:Nat)) rfl (fun w1=>jal (vX 131) vY) (fun w1 X=>by rw[e3.o];exact (jeR w1 x xb vO vO).mono (fun e w2 ⟨X,n,K⟩=>⟨X,by rw[K];exact (ExtR w1).drewN n⟩)) ?_;refine vS ?_;iterate 2 refine vK ?_
 refine qKE (fun w5 he=>?_);have b1:=(jak W4).trans he;have e7:=Hd (e5.o.ext b1);have e8:=Hd (e6.o.keeps b1 (fun h=>h));have Z:=Hd (Z.o.trans b1);clear he b1 e5 e6;go_wp2_with fail
 refine jaj [0,1,2,3,4,5,6,7,8,9,10,11,12] Ext ExtR ExtT vY vY vY ?_;iterate 3 refine vK ?_
 refine qKL ⟨b,o,none⟩ _ rfl (fun w1 X=>jab Tryz.uStr rfl (jaa (jaa (by exact Q1.o) (Z.o.trans (jak _))) X)) ?_;refine vS ?_;iterate 6 refine vK ?_
 refine qKL ⟨b,o+(l.length - 1) * 2,none⟩ _ rfl (fun w1 X=>jab Tryz.uStr rfl (jaa (jaa (by exact Q2.o) (Z.o.trans (jak _))) X)) ?_;refine vS ?_;refine qKC _ 131 #[.string x,.string xb] (.int .i64 (A:Nat)) rfl (fun w1=>jal (vX 131) vY) (fun w1 X=>by rw[e3.o];exact (jeR w1 x xb vO vO).mono (fun e w2 ⟨X,n,K⟩=>⟨X,by rw[K];exact (ExtR w1).drewN n⟩)) ?_;refine vS ?_
 refine vK ?_
 refine qKE (fun w6 he=>?_);have b2:=(jak w5).trans he;have h3:=Hd (e7.o.ext b2);have e9:=e8.o.keeps b2 (fun h=>h);have Z:=Hd (Z.o.trans b2);have q6:=jaa Q1.o Z.o;clear he b2 e7 e8;go_wp2_with (refine jad (vs:=jbW 2 (x.extract 0 A) ⟨#[]⟩ ⟨#[]⟩) rfl rfl rfl rfl e9 rfl Tryz.szNode (jbX _ _ _ _) ?_;intro W7 f1 f2)
 have f4:=Hd (h3.o.other f2);have h4:=Hd f1;clear f1 f2 e9 q6;have Z:=Hd f4.o.row.ext;refine (jk6 W7 _ A l (g6.o.ext Z.o) vO g7.o).mono ?_;rintro e w8 ⟨v8,rfl,b3⟩;have b4:Ext W7 w8:=b3.ext;have h5:=Hd (f4.o.ext b4);have h6:=Hd (h4.o.keeps b4 (fun h=>h));have a3:=Hd b3.rd;have f5:=HC.o.ext (Z.o.trans b4)
 obtain⟨a8,c8,h7⟩:=b3.sl
 subst h7;clear b3 b4;go_wp2_with fail
 refine (juG f5 h5.o (by simp) _ (ja9 A l) a3.o HL.o g9.o T' d2.o (g8.o w8 _ f5 a3.o)).mono ?_;rintro e b5 ⟨u,bs,rfl,f6,i0,d3,a4⟩;rw[<-HR.o];have J:=h6.o.keeps a4 (by rintro (h | h) <;> first | omega | cases h);have q3:b5.cell? ⟨w.heap.size+1,3,none⟩=some (.string ⟨#[]⟩):=J.cell (i:=3) vF;have f3:b5.frozen? ⟨w.heap.size+1,3,none⟩=false:=J.frozen;have a5:=J.set_same (i:=3) (.string r);have d4:Hid (Blk (b5.setCell ⟨w.heap.size+1,3,none⟩ (.string r)) (w.heap.size+1) (.cells (jae.cells ⟨2,x.extract 0 A,⟨#[]⟩,r :: jaw 15⟩).toArray 206)):=Hd a5;have HH:=Hd (f6.other (jac.oneSet b5 ⟨w.heap.size+1,3,none⟩ (.string r)));clear f6 d3 a4 J a5;go_wp2_with (refine jaf 206 (.tmp 4) rfl rfl _ _ rfl (jap _ _ ⟨2,x.extract 0 A,⟨#[]⟩,r :: jaw 15⟩ rfl d4.o) ?_)
 refine vH (jiH (inlP _) _ ⟨2,x.extract 0 A,⟨#[]⟩,r :: jaw 15⟩ HG.o) fun w9 hE=>?_;have h9:=HH.o.ext hE;have q0:w9.cell? ⟨w.heap.size,0,none⟩=some (.string ⟨#[]⟩):=h9.blk.cell (i:=0) vF;have f0:w9.frozen? ⟨w.heap.size,0,none⟩=false:=h9.blk.frozen;have H9:=Hd (h9.setText (jaV ⟨2,x.extract 0 A,⟨#[]⟩,r :: jaw 15⟩))
 obtain⟨tx,d1⟩:=vE (jaV ⟨2,x.extract 0 A,⟨#[]⟩,r :: jaw 15⟩)
 rw[<-d1]at H9 ⊢;have h8:=Hd d1;clear h9 d1;go_wp2_with fail
 go_ret
 exact⟨w.heap.size,rfl,by rw[HT.o, <-h8.o];exact H9.o.part,H9.o.row.ext⟩
def ksK(B:vL->PT)(l:vL)(k:Nat):List PT:=(List.range k).flatMap fun i=>if (cutL i l).length=0 then []else jfC (B (ja9 1 (cutL i l)))
theorem jtp(B:vL->PT)(l:vL)(k:Nat):ksK B l (k+1)=ksK B l k++(if (cutL k l).length=0 then []else jfC (B (ja9 1 (cutL k l)))):=by
 unfold ksK;rw[gI,dZ];simp
def jwT(w:vW)(bn:Nat)(B:vL->PT)(l:vL)(rs:vM)(i:vV)(wr:vW):Prop:=∃ k:Nat,k<=16/\i=.int .i64 k/\∃ u bs,jc9 w wr w.heap.size bn ⟨#[]⟩ (ksK B l k) u bs/\bs.length<=k/\Blk wr bn (.cells (brN rs k).cells.toArray 206)
theorem jaT{o:Oper}{w:vW}{K:Act->vW->Prop}{f:FuncId}(hv:(execOp a.eval o).run P w=.ok (.enter f args) w)(h:Calls P f args w (fun e q=>∃ v,e=.returned v/\K (a.put o.dst v) q)):o.wp P a w K Q:=by
 unfold Oper.wp;rw[hv];exact h.mono fun e q ⟨v,A,H⟩=>by subst A;exact H
theorem jj2(f:Nat)(l:vL)(h2:2<=l.length)(hln:l.length<=1000)(hok:jcE (f+1) l)(hk:¬ 0 < comK l)(HB:∀ i,(cutL i l).length≠0->jg7 (ja9 1 (cutL i l)) (jaz (f+1) (ja9 1 (cutL i l)))):jg7 l (jaz (f+1+1) l):=by
 intro w v hc hv
 obtain⟨a,ha⟩:∃ a,l[0]?=some a:=⟨_,bB vO⟩
 obtain⟨z,hz⟩:∃ z,l[l.length - 1]?=some z:=⟨_,bB vO⟩
 have ga:l.getD 0 pd=a:=by rw[bJ,ha];rfl
 have gz:l.getD (l.length - 1) pd=z:=by rw[bJ,hz];rfl
 obtain⟨i1,i2,f3,i3,i4⟩:=hok.size a (bG ha)
 obtain⟨i5,i6,f4,i7,i8⟩:=hok.size z (bG hz)
 have J:=(good (f+1) l hok).1;have f5:=hv;rcases hv with⟨_,_,_,h0⟩ |⟨b,o,c,rfl,hb,hcl,hcell⟩
 ·rw[h0]at h2;simp at h2
 obtain⟨q1,a3⟩:=hcell 0 a ha
 rw[iJ,gN]at q1 a3
 obtain⟨q2,_⟩:=hcell (l.length - 1) z hz
 obtain⟨kk,d2⟩:=vE (comK l)
 have d3:kk=jar a.1 z.1:=by rw[d2];unfold comK;rw[ga,gz]
 obtain⟨x,y⟩:=a
 obtain⟨xb,yb⟩:=z
 simp only at i1 i2 f3 i3 i4 i5 i6 f4 i7 i8 q1 a3 q2 d3
 obtain⟨A,b5⟩:=vE ((List.range 16).map fun i=>if (cutL i l).length=0 then (⟨#[]⟩:vB)else refB (jaz (f+1) (ja9 1 (cutL i l))).text)
 obtain⟨q,a0⟩:=vE (if x.size=0 then y else (⟨#[]⟩:vB))
 have hn:jbU (jaz (f+1)) l=⟨3,⟨#[]⟩,q,A⟩:=by unfold jbU;rw[if_neg vO,if_neg vO,if_neg hk,ga,b5,a0]
 rw[hn]at J;have ht:jaz (f+1+1) l=.mk (jaV ⟨3,⟨#[]⟩,q,A⟩) (ksK (jaz (f+1)) l 16):=by
  show PT.mk (jaV (jbU _ l)) (jda _ l)=_;rw[hn];unfold jda;rw[if_neg vO,if_neg hk];rfl
 obtain⟨T,hT⟩:=vE (jaz (f+1+1) l)
 rw[<-hT]at ht ⊢;have f6:A.length=16:=by rw[b5];simp
 have f8:∀ i,i < 16->A[i]?=some (if (cutL i l).length=0 then (⟨#[]⟩:vB)else refB (jaz (f+1) (ja9 1 (cutL i l))).text):=fun i hi=>by
  rw[b5,bV,fF hi];rfl
 have b0:∀ i,(cutL i l).length≠0->juX (jaz (f+1) (ja9 1 (cutL i l))):=fun i hi =>
  (((good f _ (jrI i hok)).2.1 (fun e=>by have:=jbC 1 (cutL i l);rw[e]at this;simp at this;omega)).kid)
 have d4:∀ p∈l,p.1.size<=1000000:=fun p hp=>by have:=(hok.size p hp).2.1;omega
 have f9:∀ i,∀ p∈cutL i l,1<=p.1.size/\p.1.size<=1000000:=fun i p hp=>by
  obtain⟨hm,a',r',e',_⟩:=jfv hp
  exact⟨by show 1<=p.1.data.toList.length;rw[show p.1.data.toList=a' :: r' from e'];simp,d4 p hm⟩
 have g0:∀ i,(cutL i l).length<=1000:=fun i=>bE (dU _ _) hln;have c0:((l.length:Int) == 0)=false:=by simp;exact fun e=>by rw[e]at h2;simp at h2
 have c1:¬(l.length:Int)=0:=vO
 have c2:((l.length:Int) == 1)=false:=by simp;omega
 have c3:¬(l.length:Int)=1:=vO
 have c4:(0:Int)<=(l.length:Int) - 1:=vO
 have c5:(l.length:Int) - 1 < (l.length:Int):=vO
 have c6:((l.length:Int) - 1).toNat=l.length - 1:=vO
 have c7:(0:Int) < (l.length:Int):=vO
 have d7:0 < l.length:=vO
 rw[<-d2]at hk;have d0:¬ 0 < kk:=hk;have e0:¬(0:Int) < (kk:Int):=vO
 have HT:=Hd ht;have Q1:=Hd q1;have i9:=Hd a3;have Q2:=Hd q2;have j0:=Hd d3;have HG:=Hd J;have j1:=Hd f5;have j2:=Hd d4;have j3:=Hd f9;have g2:=Hd g0;have e9:=Hd b0;have j4:=Hd f8;have a5:=Hd f6;have b2:=Hd a0;have j5:=Hd HB;have HC:=Hd hc;clear hc ha hz ga gz hok J f5 hcell q1 a3 q2 d2 d3 d4 f9 g0 b0 f8 f6 a0 b5 hn ht hT HB f3 f4
 obtain⟨W1,a7⟩:=vE (w.alloc (.cells #[.string ⟨#[]⟩,.slice none 0 0] 162))
 go_enter Tryz.func84,Tryz.ntmps84;go_wp2_with (refine jah Tryz.allocNode rfl rfl ?_;intro W3 g3 d5;refine jad (vs:=jas.cells) rfl rfl rfl rfl g3 rfl Tryz.szNode (jae.one _) ?_;intro W4 b6 d6;simp only[bF]at b6 d6)
 have b3:Ext W1 W4:=by
  rw[<-a7]at d5;exact d5.trans' d6 (fun x hx e=>by have e:x=w.heap.size+1:=e;rw[a7,bF]at hx;omega)
 have hh:=jtg w W1 W4 (w.heap.size+1) a7 b3 (by rw[a7,bF]) b6.lt;have g4:=Hd hh;have g5:=Hd b6;have HX:=Hd hh.row.ext;clear d5 d6 g3 a7 b6 b3 hh;refine jaj [0,1,2,3,4,5,6,7,8,9,10,11,12,13] Ext ExtR ExtT vY vY vY ?_;iterate 3 refine vK ?_
 refine qKL ⟨b,o,none⟩ _ rfl (fun w1 h1=>jab Tryz.uStr rfl (jaa (jaa (by exact Q1.o) (HX.o.trans (jak _))) h1)) ?_;refine vS ?_;iterate 6 refine vK ?_
 refine qKL ⟨b,o+(l.length - 1) * 2,none⟩ _ rfl (fun w1 h1=>jab Tryz.uStr rfl (jaa (jaa (by exact Q2.o) (HX.o.trans (jak _))) h1)) ?_;refine vS ?_;refine qKC _ 131 #[.string x,.string xb] (.int .i64 (kk:Nat)) rfl (fun w1=>jal (vX 131) vY) (fun w1 h1=>by rw[j0.o];exact (jeR w1 x xb vO vO).mono (fun e w2 ⟨h1,n,h2⟩=>⟨h1,by rw[h2];exact (ExtR w1).drewN n⟩)) ?_;refine vS ?_;iterate 2 refine vK ?_
 refine qKE (fun w5 H=>?_);have b7:=(jak W4).trans H;have O:=Hd (g4.o.ext b7);have b8:=Hd (g5.o.keeps b7 (fun h=>h));have HX:=Hd (HX.o.trans b7);clear H b7 g4 g5;have q0:=b8.o.cell (i:=0) (v:=.int .i64 0) vF;have f0:w5.frozen? ⟨w.heap.size+1,0,none⟩=false:=b8.o.frozen;have K6:=jac.oneSet w5 ⟨w.heap.size+1,0,none⟩ (.int .i64 3);have b9:=Hd (O.o.other K6);have c8:Hid (Blk (w5.setCell ⟨w.heap.size+1,0,none⟩ (.int .i64 3)) (w.heap.size+1) (.cells (brN A 0).cells.toArray 206)):=Hd (b8.o.set_same (i:=0) (.int .i64 3));clear K6 b8 O HX;go_wp2_with fail
 go_loopw [11] (fun i wr=>jwT w (w.heap.size+1) (jaz (f+1)) l A i wr) (fun i _=>16 - (intOf i).toNat)
 case atStart=>exact⟨0,by omega,rfl,_,[],b9.o,by simp,c8.o⟩
 case round =>
  obtain⟨k,f1,rfl,u,bs,hH,k5,Z⟩:=hrel
  obtain⟨au,cu,hu⟩:=hH.row.sl
  subst hu;have HH:=Hd hH;have HB:=Hd Z;have HX:=Hd hH.row.ext;clear hH Z
  by_cases hlt:k < 16
  ·have b1:(k:Int) < 16:=vO
   have k6:=HH.o.ml;have QI:=Hd (show (wr.alloc (.cells #[.int .i64 (k:Int)] 3)).cell? ⟨wr.heap.size,0,none⟩=some (.int .i64 (k:Int))from(Blk.new wr _).cell vF);have g6:=jv7 HH.o.row;have k7:w.heap.size < wr.heap.size:=HH.o.blk.lt;have NF:=Hd (show ¬(wr.heap.size=w.heap.size\/wr.heap.size=w.heap.size+1\/(Value.slice au bs.length cu).ownBlock=some wr.heap.size)from fun h=>by
    rcases h with h | h | h
    ·omega
    ·omega
    ·exact g6 h)
   clear g6;go_wp2_with fail
   refine jau [0,1,2,3,7,4,5,6,8,9] [4,5,6,9] Ext (jac (fun x=>x=w.heap.size\/x=w.heap.size+1\/(Value.slice au bs.length cu).ownBlock=some x)) ExtR ExtT (fun x y z h k=>jac.trans h k) (fun x y h=>h.mono (fun _ _ h=>h.elim)) vY vY vY ?_;refine qDL ⟨wr.heap.size,0,none⟩ _ rfl (fun w2 h2=>jab Tryz.uInt rfl (jai (by exact QI.o) h2 (by exact NF.o))) ?_;refine vS ?_;iterate 4 refine vD ?_
   refine qDH _ rfl (fun w1 H K hK=>?_);have d8:=(((ExtR wr).alloc (.cells #[.int .i64 (k:Int)] 3)).trans (jak _)).trans H;have g7:=jaa (jaa QI.o (jak _)) H;refine jaT (jal (vX 134) vY) ((jxD w1 _ wr.heap.size k l (j1.o.ext (HX.o.trans d8)) vO j2.o vO g7).mono ?_);rintro e w2 ⟨v2,n2,rfl,a8⟩;have g8:=Hd a8.rd;have g9:=Hd (d8.trans a8.ext)
   refine⟨_,rfl,hK _ _ (a8.ext.mono (fun _ _ h=>h.elim)) ?_⟩
   obtain⟨a2,c2,j6⟩:=a8.rd.sl
   subst j6;clear hK K H d8 g7 a8;refine vS ?_;refine qDH _ rfl (fun w3 H K hK=>?_);refine jaT (jal (vX 133) vY) ((jk6 w3 _ 1 (cutL k l) (g8.o.ext H) (by have:=g2.o k;omega) (j3.o k)).mono ?_);rintro e w4 ⟨v4,rfl,a9⟩;have h3:=Hd a9.rd;have j7:=Hd ((g9.o.trans H).trans a9.ext)
   refine⟨_,rfl,hK _ _ (a9.ext.mono (fun _ _ h=>h.elim)) ?_⟩
   obtain⟨a4,h4,j8⟩:=a9.rd.sl
   subst j8;clear hK K H a9 g8 g9;refine vS ?_;refine qDH _ rfl (fun d9 H K hK=>?_);have e1:=Hd (j7.o.trans H);have e2:=Hd (h3.o.ext H);have O:=Hd (HH.o.ext e1.o);have e3:=HC.o.ext (HX.o.trans e1.o)
   obtain⟨rk,c9⟩:=vE (if (cutL k l).length=0 then (⟨#[]⟩:vB)else refB (jaz (f+1) (ja9 1 (cutL k l))).text)
   refine jaT (f:=132) (args:=#[ptrV w.heap.size,.slice a4 (ja9 1 (cutL k l)).length h4]) (jal (vX 132) vY) ((show Calls _ _ _ _ (fun e w'=>∃ u' bs',e=.returned (.string rk)/\jc9 w w' w.heap.size (w.heap.size+1) ⟨#[]⟩ (ksK (jaz (f+1)) l (k+1)) u' bs'/\bs'.length<=bs.length+1/\Ext w w'/\jac (fun x=>x=w.heap.size\/(Value.slice au bs.length cu).ownBlock=some x) d9 w')from ?hold).mono ?_)
   case hold =>
    rw[jtp]
    by_cases hc0:(cutL k l).length=0
    ·rw[c9,if_pos hc0,if_pos hc0,cA,jbC,hc0]
     refine (jth d9 w.heap.size a4 h4).mono ?_;rintro e w6 ⟨rfl,rfl⟩
     exact⟨_,bs,rfl,O.o,by omega,O.o.row.ext,jac.refl _ _⟩
    ·rw[c9,if_neg hc0,if_neg hc0]
     exact juG e3 O.o vO _ (ja9 1 (cutL k l)) e2.o (fun e=>hc0 (by have:=jbC 1 (cutL k l);rw[e]at this;simpa using this.symm)) (by rw[jbC];have:=g2.o k;omega) _ (e9.o k hc0) (j5.o k hc0 d9 _ e3 e2.o)
   rintro e w6 ⟨u6,j9,rfl,h6,k8,k0,e4⟩
   refine⟨_,rfl,hK _ _ (e4.mono (fun x _ h=>h.elim .inl (fun h=>.inr (.inr h)))) ?_⟩
   have h5:=(HB.o.keeps e1.o (fun h=>h)).keeps e4 (fun h=>by
    rcases h with h | h
    ·omega
    ·exact HH.o.mb h)
   have c8:=Hd h5;have b9:=Hd h6;have k1:=Hd ((j4.o k hlt).trans (by rw[<-c9]));clear hK K H h6 k0 e4 h5 e3 c9 h3 e2 O;refine vS ?_
   refine vD ?_
   refine qDH _ rfl (fun w7 H K hK=>?_);have d1:=c8.o.keeps H (fun h=>h)
   obtain⟨old,q7⟩:∃ v,w7.cell? ⟨w.heap.size+1,3+k,none⟩=some v:=⟨_,d1.cellL (bB (by rw[jae.cells_len _ (jph a5.o f1)];omega))⟩
   have f7:w7.frozen? ⟨w.heap.size+1,3+k,none⟩=false:=d1.frozen;have e5:=d1.set_same (i:=3+k) (.string rk);rw[show (brN A k).cells.toArray.setIfInBounds (3+k) (.string rk)=((brN A k).cells.set (3+k) (.string rk)).toArray by simp,jpi a5.o hlt rk k1.o]at e5;have h7:=Hd e5;have K8:=jac.oneSet w7 ⟨w.heap.size+1,3+k,none⟩ (.string rk);have h8:=Hd ((b9.o.ext H).other K8);have i0:=Hd (K8.mono (G:=fun x=>x=w.heap.size\/x=w.heap.size+1\/(Value.slice au bs.length cu).ownBlock=some x) (fun x _ e=>.inr (.inl e)));clear H d1 e5 K8 c8 b9;go_simp;refine hK _ _ i0.o ?_;clear hK K q7 f7;refine qDE (fun w9 H=>?_);have k2:=Hd (h8.o.ext H);have k3:=Hd (h7.o.keeps H (fun h=>h));clear H h8 h7 i0;go_wp2_with fail
   go_roundw
   case rel=>exact⟨k+1,by omega,by go_num,u6,j9,k2.o,by omega,k3.o⟩
   case measure=>exact vJ
  ·have b4:k=16:=vO
   subst b4;have e6:brN A 16=⟨3,⟨#[]⟩,⟨#[]⟩,A⟩:=by unfold brN jaw;rw[cF (by have:=a5.o;omega)];simp
   have Z:=HB.o;rw[e6]at Z;have q1:=jaa Q1.o HX.o
   by_cases hx0:x.size=0
   ·have k4:=ja5 hx0
    have hv:q=y:=by rw[b2.o,if_pos hx0]
    have a3:=jaa i9.o HX.o;subst k4;have q2:wr.cell? ⟨w.heap.size+1,2,none⟩=some (.string ⟨#[]⟩):=Z.cellL vF;have f2:wr.frozen? ⟨w.heap.size+1,2,none⟩=false:=Z.frozen;have e7:=Z.set_same (i:=2) (.string y);rw[show (jae.cells ⟨3,⟨#[]⟩,⟨#[]⟩,A⟩).toArray.setIfInBounds 2 (.string y)=(jae.cells ⟨3,⟨#[]⟩,y,A⟩).toArray by simp[jae.cells]]at e7;have a1:=Hd (show Blk (wr.setCell ⟨w.heap.size+1,2,none⟩ (.string y)) (w.heap.size+1) (.cells (jae.cells ⟨3,⟨#[]⟩,q,A⟩).toArray 206)from by rw[hv];exact e7);have HH:=Hd (HH.o.other (jac.oneSet wr ⟨w.heap.size+1,2,none⟩ (.string y)));have HV:=Hd hv;clear Z e7 e6 hv;go_wp2_with (refine jaf 206 (.tmp 4) rfl rfl _ _ rfl (jap _ _ ⟨3,⟨#[]⟩,q,A⟩ a5.o a1.o) ?_)
    refine vH (jiH (inlP _) _ ⟨3,⟨#[]⟩,q,A⟩ HG.o) fun w9 hE=>?_;have h9:=HH.o.ext hE;have q0:w9.cell? ⟨w.heap.size,0,none⟩=some (.string ⟨#[]⟩):=h9.blk.cell (i:=0) vF;have f0:w9.frozen? ⟨w.heap.size,0,none⟩=false:=h9.blk.frozen;have H9:=Hd (h9.setText (jaV ⟨3,⟨#[]⟩,q,A⟩))
    obtain⟨tx,X⟩:=vE (jaV ⟨3,⟨#[]⟩,q,A⟩)
    rw[<-X]at H9 ⊢;have e8:=Hd X;clear h9 X;go_wp2_with fail
    go_ret
    exact⟨w.heap.size,rfl,by rw[HT.o, <-e8.o];exact H9.o.part,H9.o.row.ext⟩
   ·have k9:=jbq (s:=x) vO
    have hv:q=⟨#[]⟩:=by rw[b2.o,if_neg hx0]
    rw[<-hv]at Z;have a1:=Hd (show Blk wr (w.heap.size+1) (.cells (jae.cells ⟨3,⟨#[]⟩,q,A⟩).toArray 206)from by rw[hv]at Z ⊢;exact Z);have HV:=Hd hv;clear Z e6 hv;go_wp2_with (refine jaf 206 (.tmp 4) rfl rfl _ _ rfl (jap _ _ ⟨3,⟨#[]⟩,q,A⟩ a5.o a1.o) ?_)
    refine vH (jiH (inlP _) _ ⟨3,⟨#[]⟩,q,A⟩ HG.o) fun w9 hE=>?_;have h9:=HH.o.ext hE;have q0:w9.cell? ⟨w.heap.size,0,none⟩=some (.string ⟨#[]⟩):=h9.blk.cell (i:=0) vF;have f0:w9.frozen? ⟨w.heap.size,0,none⟩=false:=h9.blk.frozen;have H9:=Hd (h9.setText (jaV ⟨3,⟨#[]⟩,q,A⟩))
    obtain⟨tx,X⟩:=vE (jaV ⟨3,⟨#[]⟩,q,A⟩)
    rw[<-X]at H9 ⊢;have e8:=Hd X;clear h9 X;go_wp2_with fail
    go_ret
    exact⟨w.heap.size,rfl,by rw[HT.o, <-e8.o];exact H9.o.part,H9.o.row.ext⟩
theorem jlf:∀ (f:Nat) (l:vL),jcE f l->l.length<=1000->jg7 l (jaz (f+1) l)
 | f,l,hok,hln=>by
  by_cases h0:l.length=0
  ·exact jnI f l h0
  by_cases h1:l.length=1
  ·exact jpk f l h1 hok
  have e:2<=l.length:=vO
  cases f with
  | zero =>
   exfalso
   obtain⟨a,J⟩:∃ a,l[0]?=some a:=⟨_,bB vO⟩
   obtain⟨b,hb⟩:∃ b,l[1]?=some b:=⟨_,bB vO⟩
   have A:=jfJ hok.rise vO J hb
   have:=(hok.size b (bG hb)).1
   rw[show b.l=[]from bO (by show b.1.size=0;omega)]at A;exact not_lt_nil _ A
  | succ f =>
   by_cases hk:0 < comK l
   ·exact jpj f l e hln hok hk (jlf f _ ((jgX (comK l) hok (fun p H q K=>((jdT hok e p H).1).trans (jdT hok e q K).1.symm) (fun p H=>(jdT hok e p H).2)).mono vO) (by rw[jbC];exact hln))
   ·exact jj2 f l e hln hok hk (fun i _=>jlf f _ (jrI i hok) (by rw[jbC];exact bE (dU _ _) hln))
theorem jqW(b:vU):(b >>> 4).toNat=b.toNat / 16:=by
 have:∀ c:Fin 256,(UInt8.ofNat c.1 >>> 4).toNat=c.1 / 16:=by decide
 have h:=this ⟨b.toNat,b.toNat_lt⟩;simpa using h
theorem jqX(b:vU):(b &&& 15).toNat=b.toNat % 16:=by
 have:∀ c:Fin 256,(UInt8.ofNat c.1 &&& 15).toNat=c.1 % 16:=by decide
 have h:=this ⟨b.toNat,b.toNat_lt⟩;simpa using h
theorem jqI:∀ (a b:vN),Lt a b->Lt (jef a) (jef b)
 | a,[],h=>absurd h (not_lt_nil _)
 | [],y :: b,_=>rfl
 | x :: a,y :: b,h=>by
  show Lt ((x >>> 4) ::(x &&& 15) :: jef a) ((y >>> 4) ::(y &&& 15) :: jef b);have e:=jqW x;have q:=jqW y;have A:=jqX x;have H:=jqX y;rcases jbi.1 h with h |⟨he,h2⟩
  ·have h:=dS.1 h
   by_cases hh:x.toNat / 16 < y.toNat / 16
   ·exact jbi.2 (.inl (dS.2 vO))
   ·refine jbi.2 (.inr ⟨fV.1 vO,jbi.2 (.inl (dS.2 vO))⟩)
  ·subst he;exact jbi.2 (.inr ⟨rfl,jbi.2 (.inr ⟨rfl,jqI a b h2⟩)⟩)
theorem jc7(s:vB):jaE (jaJ s)=true:=by
 unfold jaE jaJ;rw[dI];intro x e;have e:x∈jef s.data.toList:=e;unfold jef at e
 obtain⟨b,_,hb⟩:=fI.1 e
 have A:=jqW b;have H:=jqX b;have J:=b.toNat_lt;have q:(15:vU).toNat=15:=rfl;refine decide_eq_true (fB.2 ?_);rcases bZ.1 hb with rfl | hb
 ·omega
 ·rw[bM.1 hb];omega
theorem jeA(s:vB):(jaJ s).size=2 * s.size:=by
 show (jef s.data.toList).length=2 * s.data.toList.length;unfold jef;induction s.data.toList with
 | nil=>rfl
 | cons x r ih=>rw[dY,bI,ih,bU,bU,bU,dA];omega
structure jxa(l:vL):Prop where
 size:∀ p∈l,0 < p.1.size/\p.1.size<=6/\0 < p.2.size/\p.2.size<=80
 rise:l.Pairwise fun p q=>Lt p.l q.l
 len:l.length<=40
theorem jfE:∀ (a b c:vN),Lt a b->Lt b c->Lt a c
 | a,b,[],_,h=>absurd h (not_lt_nil _)
 | a,[],z :: c,h,_=>absurd h (not_lt_nil _)
 | [],y :: b,z :: c,_,_=>rfl
 | x :: a,y :: b,z :: c,h1,h2=>by
  rcases jbi.1 h1 with h |⟨rfl,h⟩
  ·rcases jbi.1 h2 with h' |⟨rfl,h'⟩
   ·exact jbi.2 (.inl (UInt8.lt_trans h h'))
   ·exact jbi.2 (.inl h)
  ·rcases jbi.1 h2 with h' |⟨rfl,h'⟩
   ·exact jbi.2 (.inl h')
   ·exact jbi.2 (.inr ⟨rfl,jfE a b c h h'⟩)
theorem ja1{l:vL}(h:jbf l=0):jxa l:=by
 unfold jbf at h;split at h
 ·cases h
 rename_i hb
 split at h
 ·cases h
 rename_i hl
 have H:∀ i,i < l.length->badN l i=false:=fun i hi=>by
  cases hbi:badN l i with
  | false=>rfl
  | true=>exact absurd (gY.2 ⟨i,fZ.2 hi,hbi⟩) hb
 refine⟨fun p Z=>?_,?_,by omega⟩
 ·obtain⟨i,hi⟩:=fO Z
  have q:=H i (bH.1 hi).1;have hg:l.getD i (⟨#[]⟩,⟨#[]⟩)=p:=by rw[bJ,hi];rfl
  unfold badN at q;rw[hg]at q;simp only[iQ,Bool.not_eq_false']at q;have A:=q.1.1;have K:=q.1.2;unfold jds at A;unfold jcu at K;simp only[decide_eq_true_eq]at A K
  exact⟨A.1,A.2,K.1,K.2⟩
 ·have J:∀ i,i+1 < l.length->Lt (l.getD i pd).l (l.getD (i+1) pd).l:=fun i hi=>by
   have q:=H (i+1) hi;unfold badN at q;simp only[iQ,Bool.and_eq_false_iff,Bool.not_eq_false']at q;rcases q.2 with A | A
   ·simp at A
   ·rw[Nat.add_sub_cancel]at A
    have:Op.bytesLess (l.getD i pd).1.toList (l.getD (i+1) pd).1.toList=true:=A
    rw[bR,bR]at this;exact this
  rw[gD];intro i j hi hj a0;have e:∀ k (X:k < l.length),l.getD k pd=l[k]:=fun k X=>by rw[bJ,bB X];rfl
  have O:∀ d,∀ i,i+d+1 < l.length->Lt (l.getD i pd).l (l.getD (i+d+1) pd).l:=by
   intro d;induction d with
   | zero=>exact fun i hi=>J i hi
   | succ d ih=>exact fun i hi=>jfE _ _ _ (ih i vO) (J (i+d+1) hi)
  have:=O (j - i - 1) i vO
  rw[show i+(j - i - 1)+1=j by omega,e i hi,e j hj]at this;exact this
theorem jjE{l:vL}(h:jxa l):jcE 12 (jeg l):=by
 refine⟨fun p e=>?_,?_⟩
 ·obtain⟨q,A,rfl⟩:=bD.1 e
  obtain⟨K,O,H,J⟩:=h.size q A
  have X:=jeA q.1
  exact⟨by show (jaJ q.1).size<=_;omega,by show (jaJ q.1).size<=_;omega,jc7 _,H,J⟩
 ·unfold jeg
  rw[iG];exact h.rise.imp fun {p q} h=>jqI _ _ h
def jlR(l:vL):PT:=jaz 13 (jeg l)
section
attribute [local go_sem] Oper.semAt_some
def memB(acc:vM)(x:vB):Bool:=(acc.map (·.data.toList)).contains x.data.toList
theorem jfF(x:vB):memB acc x=true↔x∈acc:=by
 unfold memB;rw[cL,bD]
 exact⟨fun ⟨y,q,e⟩=>by rw[<-show y=x from ByteArray.ext (Array.ext' e)];exact q,fun h=>⟨x,h,rfl⟩⟩
def addF(acc:vM)(x:vB):vM:=if memB acc x=true then acc else acc++[x]
def jb6(l:vM):vM:=l.foldl addF []
theorem jr8(x y:vB):y∈addF acc x↔y∈acc\/y=x:=by
 unfold addF;split
 ·rename_i h;exact⟨.inl,fun q=>q.elim id (fun e=>e ▸ (jfF _ _).1 h)⟩
 ·simp
theorem jc4(l:vM)(y:vB):y∈jb6 l↔y∈l:=by
 unfold jb6
 suffices ∀ e,y∈l.foldl addF e↔y∈e\/y∈l by simpa using this []
 induction l with
 | nil=>intro e;simp
 | cons x r ih=>intro e;rw[iD,ih,jr8,bZ];exact or_assoc
theorem jhv(l:vM)(x:vB):jb6 (l++[x])=addF (jb6 l) x:=by
 unfold jb6;rw[dX];rfl
theorem jn6(l:vM):(jb6 l).length<=l.length:=by
 unfold jb6
 suffices ∀ e,(l.foldl addF e).length<=e.length+l.length by simpa using this []
 induction l with
 | nil=>intro e;simp
 | cons x r ih =>
  intro e;rw[iD,bU];have q:=ih (addF e x);have A:(addF e x).length<=e.length+1:=by unfold addF;split <;> simp
  omega
theorem jdD{K:Type}[DecidableEq K](k:K)(v:vV)(n:Nat)(k':K):∀ (l:List (Ent K)),jay (jba l k v n) k'=if k'=k then some v else jay l k'
 | []=>by
  by_cases h:k'=k
  ·subst h;simp[jba,jay]
  ·simp[jba,jay,h]
 | x :: r=>by
  have H:=jdD k v n k' r;unfold jba
  by_cases hk:k=x.1
  ·rw[if_pos hk]
   by_cases h:k'=k
   ·subst h;simp[jay]
   ·have q:¬ k'=x.1:=fun e=>h (e.trans hk.symm)
    simp[jay,h,q]
  ·rw[if_neg hk]
   by_cases h:k'=x.1
   ·have q:¬ k'=k:=fun e=>hk (e.symm.trans h)
    rw[if_neg q];simp[jay,h]
   ·have A:∀ l,jay (x :: l) k'=jay l k':=fun l=>by simp[jay,h]
    rw[A,A,H]
def cntB(l:vM)(x:vB):Nat:=(l.map (·.data.toList)).count x.data.toList
def cntV(n:Nat):Option vV:=if n=0 then none else some (.int .i64 (n:Int))
theorem Tryz.uMapSI:Tryz.prog.underlying 124=some (.map 9 3):=vY
noncomputable abbrev Tryz.ES:jaO Tryz.prog 9 (vN):=jx0 Tryz.uStr
theorem Tryz.zeroI:(zeroValue 3).run Tryz.prog w=.ok (.int .i64 0) w:=vY
end
section
attribute [local go_sem] Oper.semAt_some
theorem Tryz.makeMapSI(W:vW):(Instr.makeMap 124 none).run Tryz.prog W=.ok (.map (some W.heap.size)) (W.alloc (.map #[] 0)):=vY
end
theorem jyI(v:vV)(l:vL)(hc:jbA w)(hv:RdP w v l)(h:jbf l=0):vR 42 #[v] w (.tuple #[.string (jlR l).text,.int .i64 0]):=by
 have A:=ja1 h
 obtain⟨a,c,rfl⟩:=hv.sl;have HV:=Hd hv;have J:=Hd A;have HC:=Hd hc;have H:=Hd h;have K:=Hd A.len;clear hv A hc h;unfold vR vQ;go_in;go_wp2_with fail
 refine vH (jhe w _ l HV.o (by have:=K.o;omega) (fun p O=>by have:=J.o.size p O;omega)) fun w1 HE=>?_;rw[H.o];go_wp2_with fail
 refine (jyA w1 _ l (HV.o.ext HE.o) (by have:=K.o;omega) (fun p O=>by have:=J.o.size p O;omega)).mono ?_;rintro e w2 ⟨u,rfl,X⟩;have HR:=Hd X.rd;have HX:=Hd (HE.o.trans X.ext);clear X
 obtain⟨a2,c2,hu⟩:=HR.o.sl
 subst hu;go_wp2_with fail
 refine (jlf 12 (jeg l) (jjE J.o) (by unfold jeg;rw[bS];have:=K.o;omega) w2 _ (HC.o.ext HX.o) HR.o).mono ?_;rintro e w3 ⟨k,rfl,hk,hE⟩
 obtain⟨a0,vk,bk,q,_⟩:=hk.open
 have q0:w3.cell? ⟨k,0,none⟩=some (.string (jaz 13 (jeg l)).text):=q.cell vF;have Z:=Hd (HX.o.trans hE);clear hk q hE;unfold ptrV;go_wp2_with fail
 go_ret2
 exact⟨rfl,Z.o⟩
theorem jrv(v:vV)(l:vL)(hc:jbA w)(hv:RdP w v l)(h:jbf l=0):vR 15 #[v] w (.tuple #[.string (shaB (jlR l).text),.int .i64 0]):=by
 have A:=jyI w v l hc hv h
 obtain⟨a,c,rfl⟩:=hv.sl
 obtain⟨t,J⟩:=vE (jlR l).text
 rw[<-J]at A ⊢;have O:=Hd A;have X:=Hd hc;clear A hc hv J h;unfold vR vQ;go_in;go_wp2_with fail
 refine O.o.mono ?_;rintro e w1 ⟨rfl,q⟩;have K:=Hd q;clear q;go_wp2_with fail
 refine vH (of_t _ _ [t] (by simp) (jeD w1 [t] 9) (X.o.ext (K.o.alloc _))) fun Z q=>?_;rw[jdS];have H:=Hd ((K.o.alloc _).trans q);go_wp2_with fail
 go_ret2
 exact⟨rfl,H.o⟩
theorem Tryz.isEntry:jb2 (Tryz.prog.underlying 52)=true:=vY
theorem Tryz.szEntry:(Tryz.prog.info? 52).map (·.size)=some 2:=vY
theorem jhD{w:vW}(h1:w.cell? ⟨b,o,none⟩=some (.string x))(h2:w.cell? ⟨b,o+1,none⟩=some (.string y)):(Instr.loadAt 52 (.pointer (some ⟨b,o,none⟩))).run Tryz.prog w=.ok (.agg #[.string x,.string y]) w:=by
 obtain⟨A,q⟩:=jbv Tryz.isEntry
 refine ja2 (xs:=[.string x,.string y]) q Tryz.szEntry (fun j v e=>?_);rw[Addr.add_lit]
 match j,e with
 | 0,e=>simp at e;subst e;exact h1
 | 1,e=>simp at e;subst e;exact h2
 | j+2,e=>simp at e
theorem jjl(x y:vB):(x.toList == y.toList)=decide (x=y):=by
 by_cases h:x=y
 ·simp[h]
 ·have e:¬ x.toList=y.toList:=fun q=>h (jiY q)
  simp only[h,decide_false];exact beq_eq_false_iff_ne.2 e
theorem jy9{f:FuncId}{w:vW}
  (h:Calls P f args w fun | .returned v,w'=>R v w' | _,_=>False) (h':Calls P f args w fun | .returned v,w'=>R' v w' | _,_=>False) (hi:P.inits.idxOf? f=none) :
  ∃ v w',R v w'/\R' v w':=by
 obtain⟨n,v,w1,e,q⟩:=h.done hi
 obtain⟨m,J,K,A,H⟩:=h'.done hi
 have a:=runN_ended e m;have b:=runN_ended A n;rw[iL,a]at b;injection b with ho hw;injection ho with hv;subst hv hw
 exact⟨_,_,q,H⟩
theorem jr9{f:FuncId}{w:vW}{a b:vV}{R R':vW->Prop}
  (h:Calls P f args w fun e w'=>e=.returned a/\R w') (h':Calls P f args w fun e w'=>e=.returned b/\R' w') (hi:P.inits.idxOf? f=none):a=b:=by
 obtain⟨v,w',A,H⟩:=jy9 (R:=fun v _=>v=a) (R':=fun v _=>v=b)
  (h.mono fun e w' q=>by obtain⟨rfl,_⟩:=q;rfl) (h'.mono fun e w' q=>by obtain⟨rfl,_⟩:=q;rfl) hi
 exact A.symm.trans H
theorem jq1{m:jae}(h:n.V=m.V):n=m:=by
 obtain⟨k,p,v,A⟩:=n
 obtain⟨H,Z,v',e⟩:=m
 unfold jae.V jae.cells at h;injection h with h;have h:=congrArg Array.toList h;simp only[List.toList_toArray,List.cons.injEq,Value.int.injEq,Value.string.injEq]at h
 obtain⟨⟨_,q⟩,J,K,O⟩:=h
 have X:A=e:=by
  have:∀ a b:vM,a.map Value.string=b.map Value.string->a=b:=fun a=>by
   induction a with
   | nil=>intro b hb;cases b with | nil=>rfl | cons x y=>cases hb
   | cons x r ih =>
    intro b hb;cases b with
    | nil=>cases hb
    | cons y t =>
     simp only[bN,List.cons.injEq,Value.string.injEq]at hb;rw[hb.1,ih t hb.2]
  exact this _ _ O
 have q:k=H:=vO
 subst q J K X;rfl
theorem jkD(w:vW){m:jae}(hn:jaW (InlD f) n)(hm:jaW (InlD g) m)(h:jaV n=jaV m):n=m:=by
 have e:=jer (inlP f) w n hn;have q:=jer (inlP g) w m hm;rw[h]at e
 have:=jr9 e q vY
 injection this with this
 have:=congrArg Array.toList this
 simp only[List.toList_toArray,List.cons.injEq]at this;exact jq1 this.1
def jcM(r:vB):Option vB:=(cutN r).bind (jfA r)
def jaP(n:jae):vM:=n.refs.filterMap jcM
theorem jet:jcM ⟨#[]⟩=none:=by
 unfold jcM cutN;rw[dif_neg vI];rfl
theorem jgh(hs:h.size=32):jcM (jam h)=some h:=by
 obtain⟨r,e,q⟩:=jeu h hs
 unfold jcM;rw[e];exact q
theorem jes{I:vB->jae->Prop}(HI:InlP I){m:jae}(h:I r m):jcM r=none:=by
 obtain⟨q,e,A⟩:=HI.nohash r m h
 unfold jcM;rw[e];exact A
theorem jhy:(jaw k).filterMap jcM=[]:=by
 unfold jaw;rw[iF];intro r e;rw[fD e,jet]
def jbd(t:vB)(n:jae):Prop:=t=jaV n/\∃ g,jaW (InlD g) n
theorem jkk(l:vM):(jb6 l).Nodup:=by
 unfold jb6
 have:∀ (l q:vM),q.Nodup->(l.foldl addF q).Nodup:=fun l=>by
  induction l with
  | nil=>exact fun _ h=>h
  | cons x r ih =>
   intro q h;rw[iD];refine ih _ ?_;unfold addF;split
   ·exact h
   ·rename_i hn
    have A:x ∉ q:=fun H=>hn ((jfF q x).2 H);rw[dR]
    exact⟨h,by simp,fun a J b hb e=>by simp at hb;subst hb;subst e;exact A J⟩
 exact this l [] (by simp)
theorem jeV(w:vW){m:jae}(h:jbd t n)(k:jbd t m):n=m:=by
 obtain⟨e,f,q⟩:=h
 obtain⟨A,g,H⟩:=k
 exact jkD w q H (e.symm.trans A)
def jxv(P:Program)(l:Nat)(args:Array vV)(W:vW)(r:Nat)(Ct:vW->Prop):Prop:=
 YieldAt Fence.wide 0 P l args W fun e W'=>e=.returned (.bool true)/\jac (fun b=>b≠r) W W'/\Ct W'
def jw7(P:Program)(gf:FuncId)(lb:Array vV){σ:Type}(s0:σ)(Step:σ->Array vV->σ->Prop)(Done:σ->Prop)(S:vW->Prop):Prop:=
 ∀ (l:Nat) (C:σ->vW->Prop) (W:vW),(∀ s W1 W2,C s W1->jac (fun b=>b=W.heap.size) W1 W2->C s W2)->(∀ s W1,C s W1->S W1) ->
  (∀ s v s' W1,Step s v s'->C s W1->W.heap.size < W1.heap.size->jxv P l v W1 W.heap.size (C s'))->C s0 W ->
   CallsIn Fence.wide 0 P gf (#[.func (.yield l) #[] #[]]++lb) W (fun e W'=>(∃ v,e=.returned v)/\∃ s,Done s/\C s W')
def jxk(g:Nat)(W:vW)(Ct:vW->Prop):Exit->Act->vW->Prop
 | .normal,_,W'=>jac (fun b=>b≠g/\b≠g+1/\b≠g+2) W W'/\Ct W'
 | _,_,_=>False
theorem jrW{g:Operand}{ps:Array Tmp}{w:vW}
  {gf:Nat}  (hg:a.eval g=.func (.func gf) #[] lb) (eg:∀ args w,(callFunc gf args).run P w=.ok (.enter gf args) w)
  {σ:Type} {s0:σ} {Step:σ->Array vV->σ->Prop} {Done:σ->Prop} {S:vW->Prop} (IS:jw7 P gf lb s0 Step Done S)
  (hps:∀ s v q,Step s v q->v.size=ps.size)
  (C:σ->vW->Prop) (hC:∀ s W W',C s W->jac (fun b=>b=w.heap.size\/b=w.heap.size+1\/b=w.heap.size+2) W W'->C s W') (hS:∀ s W,C s W->S W)
  (h0:C s0 w) (a₁:Array vV->Act)
  (hassign:∀ (l:Nat) (v:Array vV) (s q:σ) (W:vW) (K:Act->vW->Prop),Step s v q->K (a₁ v) W ->
   assign.wpIn (Fence.wide.inRound l) 0 P (Exit.then K (fun _ _ _=>False)) { tmps:=(ps.zip v).foldl (fun t (p,v)=>t.setIfInBounds p v) a.tmps,defers:=[] } W)
  (hbody:∀ (l:Nat) (v:Array vV) (s q:σ) (W:vW),Step s v q->C s W->w.heap.size+2 < W.heap.size->body.wpIn (Fence.wide.inRound l) 0 P (jxk w.heap.size W (C q)) (a₁ v) W)
  (hdone:∀ (s:σ) (W:vW),Done s->C s W->Blk W w.heap.size (.deferred (some []))->Q .normal { a with defers:={ target:=.collected w.heap.size,args:=#[] } :: a.defers } W) :
  (Code.rangeFunc g ps assign body).wpIn Fence.wide 0 P Q a w:=by
 refine jgq hg eg fun O W1 X a1 A a2=>?_;refine CallsIn.mono (IS (w.heap.size+1) (fun s W=>C s W/\BkAt O w.heap.size .ready none W) W1 (fun s Wa Wb ⟨Z,J⟩ e=>⟨hC s _ _ Z (e.mono (fun b _ h=>by rw[A]at h;exact .inr (.inr h))),J.keeps e (by rw[A];omega) (by rw[A];omega)⟩)
  (fun s W h=>hS s W h.1) ?_ ⟨hC s0 _ _ h0 (a1.mono (fun _ _ h=>h.elim)),a2⟩) ?_
 ·rintro s v q W H ⟨Z,J⟩ a0
  rw[A]at a0;have kb:=fun o=>jac.onePut W (w.heap.size+1) o;refine jgs X J (hps s v q H) (hassign _ v s q W _ H ⟨J,Code.wpIn_mono ?_ (hbody _ v s q _ H (hC s _ _ Z ((kb _).mono (fun b _ h=>.inr (.inl h)))) (by rw[World.putObj_size];exact a0))⟩);intro e a' W' hq;cases e with
  | normal =>
   have k1:=(kb (.loop (O .busy none))).mono (G:=fun b=>b≠W1.heap.size) (fun b _ h=>by have h:b=w.heap.size+1:=h;omega)
   refine⟨none,rfl,hq.1.mono fun b _ h=>⟨h.1,h.2.1⟩,fun hb=>⟨rfl,(k1.trans (hq.1.mono (fun b _ h=>by rw[A];exact h.2.2))).trans ((jac.onePut _ _ _).mono (fun b _ h=>by have h:b=w.heap.size+1:=h;omega)),hC q _ _ hq.2 ((jac.onePut _ _ _).mono (fun b _ h=>.inr (.inl h))),hb⟩⟩
  | _=>exact hq.elim
 ·rintro e W' ⟨hv,s,hd,Z,J⟩
  exact⟨hv,.inl ⟨J,fun o hb=>hdone s _ hd (hC s _ _ Z ((jac.onePut _ _ _).mono (fun b _ h=>.inr (.inl h)))) hb⟩⟩
section
attribute [local go_sem] Oper.semAt_some
abbrev EntS:=Ent (vN)
theorem Tryz.uMapSE:Tryz.prog.underlying 233=some (.map 9 52):=vY
def jfa(s:List EntS):Array Nat:=(s.map (·.2.2)).toArray
def jw8(es:List EntS)(s:List EntS)(v:Array vV)(s':List EntS):Prop:=∃ x∈jaA es (jfa s),v=#[str x.1]/\s'=s++[x]
def jnx(es:List EntS)(s:List EntS):Prop:=jaA es (jfa s)=[]
def jrz(w:vW)(r:Nat):Array Nat:=match w.heap[r]? with | some (.mapIter _ _ s _)=>s | _=>#[]
theorem jiS{w:vW}{r:Nat}{m:Option Nat}{a:Nat}{s:Array Nat}(h:Blk w r (.mapIter m a s b)):jrz w r=s:=by
 unfold jrz;rw[show w.heap[r]?=_ from h]
theorem jvR{es:List EntS}{s:List EntS}{x:EntS}(hx:x∈jaA es (jfa s)):(jaA es (jfa (s++[x]))).length < (jaA es (jfa s)).length:=by
 have e:jaA es (jfa (s++[x]))=(jaA es (jfa s)).filter (fun y => !(y.2.2 == x.2.2)):=by
  unfold jaA jfa;rw[List.filter_filter];refine iH (fun y _=>?_);simp only[List.contains_toArray,bY,bN,fT,List.contains_append]
  by_cases h1:y.2.2=x.2.2 <;> simp[h1]
 rw[e,iP]
 exact⟨x,hx,by simp⟩
def KyS(bx bm ck:Nat)(es:List EntS)(W:vW):Prop:=Blk W bx (.cells #[.map (some bm)] 233)/\Blk W bm (.map (Tryz.ES.arr es) ck)
def jyV(r bm ck:Nat)(es:List EntS)(C:List EntS->vW->Prop)(wr:vW):Prop:=∃ s,C s wr/\Blk wr r (.mapIter (some bm) ck (jfa s) ck)
theorem jvM(bx bm ck:Nat)(es:List EntS)(hnd:(es.map (·.2.2)).Nodup)(hlt:∀ x∈es,x.2.2 < ck) :
  jw7 Tryz.prog 172 #[.pointer (some ⟨bx,0,none⟩)] ([]:List EntS) (jw8 es) (jnx es) (KyS bx bm ck es):=by
 intro l C W hC hS hY h0
 obtain⟨O,A⟩:=hS _ _ h0
 have c1:=O.cell (i:=0) (v:=.map (some bm)) vF;have X:=jhS Tryz.ES Tryz.uMapSE A;have H:=Hd (show C [] (W.alloc (.mapIter (some bm) ck #[] ck))from hC [] _ _ h0 (((ExtR W).alloc _).mono (fun _ _ h=>h.elim)));have HC:=Hd hC;have HS:=Hd hS;have HY:=Hd hY;have J:=Hd hnd;have K:=Hd hlt;clear hC hS hY h0 O A hnd hlt;refine callsIn_of_wp Tryz.func172 rfl trivial ?_ rfl;simp only[Tryz.ntmps172,cT,bU,dA,Nat.reduceAdd,Nat.reduceSub,cV,cU,dE,cZ,cN,cY];gi_wp2_with fail
 obtain⟨r,hr⟩:=vE W.heap.size
 have HR:=Hd hr;rw[<-hr];clear hr;gi_loopw [] (fun wr=>jyV r bm ck es C wr) (fun wr=>(jaA es (jrz wr r)).length)
 case atStart=>exact⟨[],H.o,by rw[HR.o];exact Blk.new W _⟩
 case round =>
  obtain⟨s,q,Z⟩:=hrel
  obtain⟨O,A⟩:=HS.o _ _ q
  rcases jjH Tryz.ES A Z K.o 0 with⟨hl0,hnx⟩ |⟨x,hxl,w2,hnx,hr2,hk2⟩
  ·have b0:Hid (jnx es s):=hl0
   have b1:=Hd q;clear hl0 q O A Z HC HS HY J K H c1 X;gi_wp2_with fail
   refine bodyPost_end (results_none rfl _ _ _) rfl ?_
   exact⟨⟨_,rfl⟩,s,b0.o,b1.o⟩
  ·have a1:r≠bm:=fun e=>by have:=A.uniq (e ▸ Z);cases this
   have a2:=A.keeps hk2 (fun e=>a1 e.symm);have a3:x∈es:=(cI.1 hxl).1;have b2:=jhQ Tryz.ES a2 a3 hr2 J.o;have a4:C s w2:=HC.o s _ _ q (hk2.mono (fun b _ e=>by rw[<-HR.o];exact e))
   obtain⟨fn,tm,b3,bd,a5,a7⟩:=HY.o s #[str x.1] (s++[x]) w2 ⟨x,hxl,rfl,rfl⟩ a4 (by rw[<-HR.o];exact hr2.lt)
   have a0:(Instr.yield l #[Tryz.ES.κ x.1]).run Tryz.prog w2=.ok (.round l fn tm b3 bd) w2:=a5;have b4:=Hd hxl;have b5:=Hd (jiS Z);have a8:(jfa s).push x.2.2=jfa (s++[x]):=by unfold jfa;simp
   rw[a8]at hr2;have b6:=Hd hr2;have b7:=Hd a7;clear a5 a4 q O A Z HC HS J K H c1 X a2 hk2 hxl a3 hr2 a7 a8 a1;gi_wp2_with fail
   refine⟨rfl,b7.o.mono ?_⟩
   rintro e w5 ⟨rfl,k5,C5⟩;have a9:=Hd (b6.o.keeps k5 (fun h=>h HR.o));have b8:=Hd C5;clear C5 k5 hnx b2 a0;gi_wp2_with fail
   go_roundw
   case rel=>exact⟨_,b8.o,a9.o⟩
   case measure =>
    rw[jiS a9.o,b5.o];exact jvR b4.o
end
