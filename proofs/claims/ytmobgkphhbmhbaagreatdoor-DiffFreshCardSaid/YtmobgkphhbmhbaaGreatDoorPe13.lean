/- Lemmas; each is under no condition but those that it states. -/
import Derived.Test.YtmobgkphhbmhbaaGreatDoorPe12
import Derived.Laws.Cover1
namespace Go.Proofs.YtmobgkphhbmhbaaGreatDoor
set_option linter.unusedSimpArgs false
set_option linter.unusedVariables false
set_option maxRecDepth 100000
set_option maxHeartbeats 16000000
open Go Go.RowKit
abbrev Pair:=vB × vB
abbrev vL:=List Pair
def jdU(k:vB):Bool:=decide (0 < k.size/\k.size<=6)
def jdl(k:vB):Bool:=decide (0 < k.size/\k.size<=80)
theorem jbo{s:vB}(h:s.size=0):s=⟨#[]⟩:=by
 obtain⟨⟨l⟩⟩:=s
 cases l with
 | nil=>rfl
 | cons x y=>exact absurd h (iB _)
theorem jg1(w:vW)(k:vB)(hs:k.size<=9223372036854775807):vQ 66 #[.string k] w fun e w'=>e=.returned (.bool (jdU k))/\w'=w:=by
 by_cases h0:k.size=0
 ·have:=jbo h0
  subst this;go_enter Tryz.func66,Tryz.ntmps66;go_wp2_with fail
  go_ret
  exact⟨rfl,rfl⟩
 ·have q:=jbe (s:=k) vO
  by_cases h6:k.size<=6
  ·have c:(k.size:Int)<=6:=vO
   have e:jdU k=true:=by unfold jdU;simp;omega
   have E:=Hd e;clear e;go_enter Tryz.func66,Tryz.ntmps66;go_wp2_with fail
   go_ret
   exact⟨by rw[E.o];rfl,rfl⟩
  ·have c:¬(k.size:Int)<=6:=vO
   have e:jdU k=false:=by unfold jdU;simp;omega
   have E:=Hd e;clear e;go_enter Tryz.func66,Tryz.ntmps66;go_wp2_with fail
   go_ret
   exact⟨by rw[E.o];rfl,rfl⟩
theorem jgE(w:vW)(k:vB)(hs:k.size<=9223372036854775807):vQ 67 #[.string k] w fun e w'=>e=.returned (.bool (jdl k))/\w'=w:=by
 by_cases h0:k.size=0
 ·have:=jbo h0
  subst this;go_enter Tryz.func67,Tryz.ntmps67;go_wp2_with fail
  go_ret
  exact⟨rfl,rfl⟩
 ·have q:=jbe (s:=k) vO
  by_cases h6:k.size<=80
  ·have c:(k.size:Int)<=80:=vO
   have e:jdl k=true:=by unfold jdl;simp;omega
   have E:=Hd e;clear e;go_enter Tryz.func67,Tryz.ntmps67;go_wp2_with fail
   go_ret
   exact⟨by rw[E.o];rfl,rfl⟩
  ·have c:¬(k.size:Int)<=80:=vO
   have e:jdl k=false:=by unfold jdl;simp;omega
   have E:=Hd e;clear e;go_enter Tryz.func67,Tryz.ntmps67;go_wp2_with fail
   go_ret
   exact⟨by rw[E.o];rfl,rfl⟩
def RdP(w:vW)(v:vV)(xs:vL):Prop:=
 (∃ a c,v=.slice a 0 c/\xs=[])\/∃ b o c,v=.slice (some ⟨b,o,none⟩) xs.length c/\b < w.heap.size/\xs.length<=c/\∀ (j:Nat) x,xs[j]?=some x->w.cell? ⟨b,o+j * 2,none⟩=some (.string x.1)/\w.cell? ⟨b,o+j * 2+1,none⟩=some (.string x.2)
theorem RdP.ext{w w':vW}{v:vV}{xs:vL}(h:RdP w v xs)(k:Ext w w'):RdP w' v xs:=by
 rcases h with h |⟨b,o,c,h1,h2,h3,h4⟩
 ·exact .inl h
 ·exact .inr ⟨b,o,c,h1,bP h2 k.size,h3,fun j x e=>⟨jaa (h4 j x e).1 k,jaa (h4 j x e).2 k⟩⟩
theorem RdP.sl{w:vW}{v:vV}{xs:vL}(h:RdP w v xs):∃ a c,v=.slice a xs.length c:=by
 rcases h with⟨a,c,h1,h2⟩ |⟨b,o,c,h1,_⟩
 ·exact⟨a,c,by rw[h1,h2];rfl⟩
 ·exact⟨_,c,h1⟩
def Pair.V(p:Pair):vV:=.agg #[.string p.1,.string p.2]
def badN(l:vL)(i:Nat):Bool := !jdU (l.getD i (⟨#[]⟩,⟨#[]⟩)).1 || !jdl (l.getD i (⟨#[]⟩,⟨#[]⟩)).2 ||(decide (0 < i) && !jbH (l.getD (i - 1) (⟨#[]⟩,⟨#[]⟩)).1 (l.getD i (⟨#[]⟩,⟨#[]⟩)).1)
def jat(l:vL):Int:=if (List.range l.length).any (badN l)then 1 else if 40 < l.length then 12 else 0
def jxd(w:vW)(l:vL)(i:vV)(wr:vW):Prop:=∃ k:Nat,k<=l.length/\i=.int .i64 k/\Ext w wr/\(List.range k).any (badN l)=false
theorem jgP(w:vW)(v:vV)(l:vL)(hv:RdP w v l)(hn:l.length<=9223372036854775807)(hs:∀ p∈l,p.1.size<=9223372036854775807/\p.2.size<=9223372036854775807):vR 65 #[v] w (.int .i64 (jat l)):=by
 obtain⟨a,c,b3⟩:=hv.sl
 have HV:=Hd hv;have HS:=Hd hs;subst b3;clear hv hs;go_enter Tryz.func65,Tryz.ntmps65;go_wp2_with fail
 go_loopw [7] (fun i wr=>jxd w l i wr) (fun i _=>l.length - (intOf i).toNat)
 case atStart=>exact⟨0,by omega,rfl,ExtR w,rfl⟩
 case round =>
  obtain⟨k,hk,rfl,hE,a7⟩:=hrel
  have HE:=Hd hE;have a2:=Hd a7;clear hE a7
  by_cases hlt:k < l.length
  ·rcases HV.o with⟨_,_,_,h0⟩ |⟨b,o,c',hh,hb,hc,hcell⟩
   ·rw[h0]at hlt;cases hlt
   cases hh
   obtain⟨p,hp⟩:∃ p,l[k]?=some p:=⟨_,bA hlt⟩
   obtain⟨q1,q2⟩:=hcell k p hp
   have q1:=jaa q1 HE.o;have q2:=jaa q2 HE.o;have b1:(k:Int) < (l.length:Int):=vO
   obtain⟨x,y⟩:=p
   simp only at q1 q2;have O:l.getD k (⟨#[]⟩,⟨#[]⟩)=(x,y):=by rw[bH,hp];rfl
   have a1:=HS.o (x,y) (bI hp);have a6:=Hd a1.1;have a8:=Hd a1.2;have a3:(wr.alloc (.cells #[.string x,.string y] 71)).cell? ⟨wr.heap.size,0,none⟩=some (.string x):=(Blk.new wr _).cell vF;have a4:(wr.alloc (.cells #[.string x,.string y] 71)).cell? ⟨wr.heap.size,1,none⟩=some (.string y):=(Blk.new wr _).cell vF;have Q0:=Hd a3;have Q1:=Hd a4;have H:badN l k=true->jat l=1:=fun h=>by
    unfold jat;rw[if_pos (fN.2 ⟨k,dQ.2 hlt,h⟩)]
   have J:badN l k=false->(List.range (k+1)).any (badN l)=false:=fun h=>by
    rw[fX,List.any_append,a2.o];simp[h]
   cases hk1:jdU x with
   | false =>
    have Z:=Hd (H (by unfold badN;rw[O,hk1];rfl));have HK:=Hd hk1;clear hk1 O a1 a3 a4 H J hcell hp;go_wp2_with fail
    refine jai (List.range 25) Ext ExtR ExtT vY vY vY ?_;simp only[List.range,List.range.loop]
    refine vK ?_
    refine qKL ⟨wr.heap.size,0,none⟩ _ rfl (fun Q q=>jac Tryz.uStr rfl (jaa (by exact Q0.o) q)) ?_;refine vS ?_;refine qKC _ 66 #[.string x] (.bool false) rfl (fun w1=>jaB (vX 66) vY) (fun w1 K=>(jg1 w1 x (by have:=a6.o;omega)).mono (fun e Q ⟨K,q⟩=>⟨by rw[K,HK.o],q ▸ ExtR w1⟩)) ?_;refine vS ?_;iterate 2 refine vK ?_
    iterate 4 (refine qKS _ rfl ?_;refine vS ?_)
    iterate 2 refine vK ?_
    iterate 3 (refine qKS _ rfl ?_;refine vS ?_)
    iterate 9 (refine qKS _ rfl ?_;refine vS ?_)
    (refine qKS _ rfl ?_;refine vS ?_)
    refine vK ?_
    refine qKE (fun w3 he=>?_);have X:=Hd (((HE.o.alloc _).trans (jaj _)).trans he);clear he;go_wp2_with fail
    go_ret
    exact⟨by rw[Z.o];rfl,X.o⟩
   | true =>
    cases hv1:jdl y with
    | false =>
     have Z:=Hd (H (by unfold badN;rw[O,hk1,hv1];rfl));have HK:=Hd hk1;have a5:=Hd hv1;clear hk1 hv1 O a1 a3 a4 H J hcell hp;go_wp2_with fail
     refine jai (List.range 25) Ext ExtR ExtT vY vY vY ?_;simp only[List.range,List.range.loop]
     refine vK ?_
     refine qKL ⟨wr.heap.size,0,none⟩ _ rfl (fun Q q=>jac Tryz.uStr rfl (jaa (by exact Q0.o) q)) ?_;refine vS ?_;refine qKC _ 66 #[.string x] (.bool true) rfl (fun w1=>jaB (vX 66) vY) (fun w1 K=>(jg1 w1 x (by have:=a6.o;omega)).mono (fun e Q ⟨K,q⟩=>⟨by rw[K,HK.o],q ▸ ExtR w1⟩)) ?_;refine vS ?_;iterate 3 refine vK ?_
     refine qKL ⟨wr.heap.size,1,none⟩ _ rfl (fun Q q=>jac Tryz.uStr rfl (jaa (by exact Q1.o) q)) ?_;refine vS ?_;refine qKC _ 67 #[.string y] (.bool false) rfl (fun w1=>jaB (vX 67) vY) (fun w1 K=>(jgE w1 y (by have:=a8.o;omega)).mono (fun e Q ⟨K,q⟩=>⟨by rw[K,a5.o],q ▸ ExtR w1⟩)) ?_;refine vS ?_;iterate 3 refine vK ?_
     iterate 3 (refine qKS _ rfl ?_;refine vS ?_)
     iterate 9 (refine qKS _ rfl ?_;refine vS ?_)
     (refine qKS _ rfl ?_;refine vS ?_)
     refine vK ?_
     refine qKE (fun w3 he=>?_);have X:=Hd (((HE.o.alloc _).trans (jaj _)).trans he);clear he;go_wp2_with fail
     go_ret
     exact⟨by rw[Z.o];rfl,X.o⟩
    | true =>
     by_cases hk0:k=0
     ·have a0:=Hd (J (by unfold badN;rw[O,hk1,hv1,hk0];rfl))
      subst hk0;rw[Nat.zero_mul,gQ]at q1 q2;have HK:=Hd hk1;have a5:=Hd hv1;clear hk1 hv1 O a1 a3 a4 H J hcell hp;go_wp2_with fail
      refine jai (List.range 25) Ext ExtR ExtT vY vY vY ?_;simp only[List.range,List.range.loop]
      refine vK ?_
      refine qKL ⟨wr.heap.size,0,none⟩ _ rfl (fun Q q=>jac Tryz.uStr rfl (jaa (by exact Q0.o) q)) ?_;refine vS ?_;refine qKC _ 66 #[.string x] (.bool true) rfl (fun w1=>jaB (vX 66) vY) (fun w1 K=>(jg1 w1 x (by have:=a6.o;omega)).mono (fun e Q ⟨K,q⟩=>⟨by rw[K,HK.o],q ▸ ExtR w1⟩)) ?_;refine vS ?_;iterate 3 refine vK ?_
      refine qKL ⟨wr.heap.size,1,none⟩ _ rfl (fun Q q=>jac Tryz.uStr rfl (jaa (by exact Q1.o) q)) ?_;refine vS ?_;refine qKC _ 67 #[.string y] (.bool true) rfl (fun w1=>jaB (vX 67) vY) (fun w1 K=>(jgE w1 y (by have:=a8.o;omega)).mono (fun e Q ⟨K,q⟩=>⟨by rw[K,a5.o],q ▸ ExtR w1⟩)) ?_;refine vS ?_;iterate 6 refine vK ?_
      iterate 9 (refine qKS _ rfl ?_;refine vS ?_)
      iterate 2 refine vK ?_
      refine qKE (fun w3 he=>?_);have X:=Hd (((HE.o.alloc _).trans (jaj _)).trans he);clear he;go_wp2_with fail
      go_roundw
      case rel=>exact⟨0+1,by omega,by go_num,X.o,a0.o⟩
      case measure=>exact vJ
     ·obtain⟨pp,a9⟩:∃ p,l[k - 1]?=some p:=⟨_,bA vO⟩
      obtain⟨z,zy⟩:=pp
      have b2:=jaa (jaa (hcell (k - 1) (z,zy) a9).1 HE.o) ((ExtR wr).alloc (.cells #[.string x,.string y] 71));have QP:=Hd b2;have b0:l.getD (k - 1) (⟨#[]⟩,⟨#[]⟩)=(z,zy):=by rw[bH,a9];rfl
      have c0:(0:Int) < (k:Int):=vO
      have d0:0 < k:=vO
      have c1:(0:Int)<=(k:Int) - 1:=vO
      have c2:(k:Int) - 1 < (l.length:Int):=vO
      have c3:((k:Int) - 1).toNat=k - 1:=vO
      have HK:=Hd hk1;have a5:=Hd hv1;cases hls:Op.bytesLess z.toList x.toList with
      | false =>
       have Z:=Hd (H (by unfold badN jbH;rw[O,hk1,hv1,b0];simp only;rw[hls];simp;omega));clear hk1 hv1 O a1 a3 a4 H J hcell hp hk0 a9 b2 b0;go_wp2_with fail
       refine jai (List.range 25) Ext ExtR ExtT vY vY vY ?_;simp only[List.range,List.range.loop]
       refine vK ?_
       refine qKL ⟨wr.heap.size,0,none⟩ _ rfl (fun Q q=>jac Tryz.uStr rfl (jaa (by exact Q0.o) q)) ?_;refine vS ?_;refine qKC _ 66 #[.string x] (.bool true) rfl (fun w1=>jaB (vX 66) vY) (fun w1 K=>(jg1 w1 x (by have:=a6.o;omega)).mono (fun e Q ⟨K,q⟩=>⟨by rw[K,HK.o],q ▸ ExtR w1⟩)) ?_;refine vS ?_;iterate 3 refine vK ?_
       refine qKL ⟨wr.heap.size,1,none⟩ _ rfl (fun Q q=>jac Tryz.uStr rfl (jaa (by exact Q1.o) q)) ?_;refine vS ?_;refine qKC _ 67 #[.string y] (.bool true) rfl (fun w1=>jaB (vX 67) vY) (fun w1 K=>(jgE w1 y (by have:=a8.o;omega)).mono (fun e Q ⟨K,q⟩=>⟨by rw[K,a5.o],q ▸ ExtR w1⟩)) ?_;refine vS ?_;iterate 11 refine vK ?_
       refine qKL ⟨b,o+(k - 1) * 2,none⟩ _ rfl (fun Q q=>jac Tryz.uStr rfl (jaa (by exact QP.o) q)) ?_;refine vS ?_
       refine vK ?_
       refine qKL ⟨wr.heap.size,0,none⟩ _ rfl (fun Q q=>jac Tryz.uStr rfl (jaa (by exact Q0.o) q)) ?_;refine vS ?_;iterate 3 refine vK ?_
       refine qKE (fun w3 he=>?_);have X:=Hd (((HE.o.alloc _).trans (jaj _)).trans he);clear he;go_wp2_with fail
       go_ret
       exact⟨by rw[Z.o];rfl,X.o⟩
      | true =>
       have a0:=Hd (J (by unfold badN jbH;rw[O,hk1,hv1,b0];simp only;rw[hls];simp));clear hk1 hv1 O a1 a3 a4 H J hcell hp hk0 a9 b2 b0;go_wp2_with fail
       refine jai (List.range 25) Ext ExtR ExtT vY vY vY ?_;simp only[List.range,List.range.loop]
       refine vK ?_
       refine qKL ⟨wr.heap.size,0,none⟩ _ rfl (fun Q q=>jac Tryz.uStr rfl (jaa (by exact Q0.o) q)) ?_;refine vS ?_;refine qKC _ 66 #[.string x] (.bool true) rfl (fun w1=>jaB (vX 66) vY) (fun w1 K=>(jg1 w1 x (by have:=a6.o;omega)).mono (fun e Q ⟨K,q⟩=>⟨by rw[K,HK.o],q ▸ ExtR w1⟩)) ?_;refine vS ?_;iterate 3 refine vK ?_
       refine qKL ⟨wr.heap.size,1,none⟩ _ rfl (fun Q q=>jac Tryz.uStr rfl (jaa (by exact Q1.o) q)) ?_;refine vS ?_;refine qKC _ 67 #[.string y] (.bool true) rfl (fun w1=>jaB (vX 67) vY) (fun w1 K=>(jgE w1 y (by have:=a8.o;omega)).mono (fun e Q ⟨K,q⟩=>⟨by rw[K,a5.o],q ▸ ExtR w1⟩)) ?_;refine vS ?_;iterate 11 refine vK ?_
       refine qKL ⟨b,o+(k - 1) * 2,none⟩ _ rfl (fun Q q=>jac Tryz.uStr rfl (jaa (by exact QP.o) q)) ?_;refine vS ?_
       refine vK ?_
       refine qKL ⟨wr.heap.size,0,none⟩ _ rfl (fun Q q=>jac Tryz.uStr rfl (jaa (by exact Q0.o) q)) ?_;refine vS ?_;iterate 3 refine vK ?_
       refine qKE (fun w3 he=>?_);have X:=Hd (((HE.o.alloc _).trans (jaj _)).trans he);clear he;go_wp2_with fail
       go_roundw
       case rel=>exact⟨k+1,by omega,by go_num,X.o,a0.o⟩
       case measure=>exact vJ
  ·have b4:k=l.length:=vO
   subst b4
   by_cases h40:40 < l.length
   ·have c4:(40:Int) < (l.length:Int):=vO
    have e:jat l=12:=by unfold jat;rw[if_neg (by rw[a2.o];simp),if_pos h40]
    have E:=Hd e;clear e;go_wp2_with fail
    go_ret
    exact⟨by rw[E.o];rfl,HE.o⟩
   ·have c4:¬(40:Int) < (l.length:Int):=vO
    have e:jat l=0:=by unfold jat;rw[if_neg (by rw[a2.o];simp),if_neg h40]
    have E:=Hd e;clear e;go_wp2_with fail
    go_ret
    exact⟨by rw[E.o];rfl,HE.o⟩
section
section mixd
variable {P:Program} {l:List Oper} {E D:vW->vW->Prop}
def jcr(P:Program)(ops:Array Oper)(E D:vW->vW->Prop)(w:vW)(o:Oper)(v:vV)(a:Act):Prop:=
 (Region.wanted o (yielded ops a.tmps)=true/\∀ w1,D w w1->jm8 P E w1 v ((execOp a.eval o).run P w1))\/(Region.wanted o (yielded ops a.tmps)=false/\v=undef)
theorem jcr.of_same{ops:Array Oper}{w:vW}{o:Oper}{v:vV}{a a':Act}(hy:jcr P ops E D w o v a)(he:execOp a'.eval o=execOp a.eval o)
  (hw:Region.wanted o (yielded ops a'.tmps)=Region.wanted o (yielded ops a.tmps)):jcr P ops E D w o v a':=by
 unfold jcr at *;rw[he,hw];exact hy
theorem jcr.st(hT:∀ x y z,D x y->D y z->D x z){ops:Array Oper}{w w1:vW}{o:Oper}{v:vV}{a:Act}(hy:jcr P ops E D w o v a)(h:D w w1):jcr P ops E D w1 o v a:=
 hy.imp (fun ⟨e,q⟩=>⟨e,fun H J=>q H (hT _ _ _ h J)⟩) id
theorem jcr.wpOp{ops:Array Oper}{i:Nat}{o:Oper}{v:vV}{a:Act}{w:vW}(hi:ops[i]?=some o)(hy:jcr P ops E D w o v a){K:Act->vW->Prop}{w1:vW}(H:D w w1)(hE:∀ w,E w w)
  (h:∀ w',E w1 w'->K (a.put o.dst v) w'):wpOp P ops NoQ i K a w1:=by
 unfold Go.wpOp;simp only[hi];rcases hy with⟨hw,hv⟩ |⟨hw,rfl⟩
 ·simp only[hw,if_true]
  refine .inl ?_;have q:=hv w1 H;unfold Oper.wp;generalize (execOp a.eval o).run P w1=r at *;cases r with
  | ok n w' =>
   cases n <;> simp only[jm8]at q <;> simp only[Oper.upon]
   case value u=>obtain⟨z,J⟩:=q;rw[z,J];exact h _ (hE w1)
   case skip=>obtain⟨z,J⟩:=q;rw[z, <-J];exact h _ (hE w1)
   case enter f args =>
    obtain⟨z,O⟩:=q;rw[z]
    exact O.mono fun e Q ⟨X,H⟩=>by subst X;exact h _ H
  | halt x w'=>simp only[jm8]at q
 ·simp only[hw,cG,if_false];exact h _ (hE w1)
def anyD(P:Program)(ops:Array Oper)(hd:List Nat)(E D:vW->vW->Prop)(Q:Act->vW->Prop):Nat->Array Bool->Act->vW->Prop
 | 0,listed,a,w=>∀ w1,E w w1->Region.ready .any ops listed=[]/\Q a w1
 | fuel+1,listed,a,w=>∀ w1,E w w1 ->
  (Region.ready .any ops listed=[]->Q a w1) /\
  ∀ i∈Region.ready .any ops listed,wpOp P ops NoQ i (fun a' w'=>D w1 w'/\(i ∉ hd->E w1 w')/\anyD P ops hd E D Q fuel (listed.setIfInBounds i true) a' w') a w1
theorem jqf(hT:∀ x y z,E x y->E y z->E x z){ops:Array Oper}{hd:List Nat}{Q:Act->vW->Prop}:∀ (fuel:Nat) (listed:Array Bool) (a:Act) (w w1:vW),anyD P ops hd E D Q fuel listed a w->E w w1->anyD P ops hd E D Q fuel listed a w1
 | 0,_,_,_,_,h,he=>fun e o=>h e (hT _ _ _ he o)
 | _+1,_,_,_,_,h,he=>fun e o=>h e (hT _ _ _ he o)
theorem jiV(hE:∀ w,E w w){ops:Array Oper}{hd:List Nat}{Q:Act->vW->Prop}{Q':Exit->Act->vW->Prop}(hQ:∀ a w,Q a w->Q' .normal a w) :
  ∀ (fuel:Nat) (listed:Array Bool) (a:Act) (w:vW),anyD P ops hd E D Q fuel listed a w->wpAny P .any ops Q' fuel listed a w
 | 0,_,_,w,h=>let ⟨h1,h2⟩:=h w (hE w);⟨h1,hQ _ _ h2⟩
 | fuel+1,_,_,w,h=>let ⟨h1,h2⟩:=h w (hE w)
  ⟨fun e=>hQ _ _ (h1 e),fun i o=>jhK (fun q w' ⟨_,_,z⟩=>jiV hE hQ fuel _ q w' z) (h2 i o)⟩
theorem jo1(hE:∀ w,E w w)(hT:∀ x y z,E x y->E y z->E x z)(hD:∀ x y z,D x y->D y z->D x z)(hED:∀ x y,E x y->D x y){ops:Array Oper}{hd:List Nat}{Q:Act->vW->Prop}{i:Nat}{oi:Oper}{v:vV}(hi:ops[i]?=some oi)(hsel:∀ (j:Nat) (o:Oper) cs b,ops[j]?=some o->o.op≠.select cs b) :
  ∀ (J:Nat) (q:Array Bool) (a:Act) (w:vW),
   (∀ j oj,ops[j]?=some oj->j≠i->q.getD j true=false->(∀ e∈oj.after,Region.binds .any e=true->e.on≠i)->oi.apart ops oj=true) ->
   i∈Region.ready .any ops q->jcr P ops E D w oi v a ->
   anyD P ops hd E D Q J (q.setIfInBounds i true) (a.put oi.dst v) w->anyD P ops hd E D Q (J+1) q a w:=by
 intro J;induction J with
 | zero =>
  intro q a w _ hr hy H w1 X
  refine⟨fun h=>(by rw[h]at hr;cases hr),fun j hj=>?_⟩
  by_cases hji:j=i
  ·subst hji;exact hy.wpOp hi (hED _ _ X) hE (fun w' K=>⟨hED _ _ K,fun _=>K,jqf hT _ _ _ _ _ H (hT _ _ _ X K)⟩)
  ·have:=ready_mono hj hji
   rw[(H w1 X).1]at this;cases this
 | succ J ih =>
  intro q a w O hr hy H w1 X
  refine⟨fun h=>(by rw[h]at hr;cases hr),fun j hj=>?_⟩
  by_cases hji:j=i
  ·subst hji;exact hy.wpOp hi (hED _ _ X) hE (fun w' K=>⟨hED _ _ K,fun _=>K,jqf hT _ _ _ _ _ H (hT _ _ _ X K)⟩)
  ·have K:=(H w1 X).2 j (ready_mono hj hji)
   obtain⟨a0,oj,a3,a4⟩:=mem_ready.1 hj
   have a5:∀ e∈oj.after,Region.binds .any e=true->e.on≠i:=fun e X hb a7=>by
    have K:=a4 e X hb;have h0:=(mem_ready.1 hr).1;rw[a7]at K;rcases fK i q.size with h' | h'
    ·simp[h']at h0 K;rw[h0]at K;cases K
    ·simp[gJ h']at K
   have h2:=jfg (v:=v) (Y:=fun a'=>execOp a'.eval oi=execOp a.eval oi/\Region.wanted oi (yielded ops a'.tmps)=Region.wanted oi (yielded ops a.tmps)) a3 (O j oj a3 hji a0 a5) (fun cs b=>hsel i oi cs b hi) (fun cs b=>hsel j oj cs b a3)
    (fun a1 a2 h e1 e2=>⟨e1.trans h.1,e2.trans h.2⟩) ⟨rfl,rfl⟩ K
   have Z:∀ k ok,ops[k]?=some ok->k≠i->(q.setIfInBounds j true).getD k true=false ->
     (∀ e∈ok.after,Region.binds .any e=true->e.on≠i)->oi.apart ops ok=true:=fun k ok hk a8 a6 a9=>by
    refine O k ok hk a8 ?_ a9
    by_cases hjk:j=k
    ·subst hjk;exact a0
    ·rw[getD_set_ne true hjk]at a6;exact a6
   refine wpOp_mono (fun a' w' h3=>⟨h3.2.1,h3.2.2.1,?_⟩) h2
   obtain⟨⟨e1,e2⟩,h4,_,h5⟩:=h3
   have b0:jcr P ops E D w' oi v a':=(hy.of_same e1 e2).st hD (hD _ _ _ (hED _ _ X) h4);refine ih (q.setIfInBounds j true) a' w' Z (ready_mono hr (Ne.symm hji)) b0 ?_;rw[gV _ _ hji];exact h5
def MixD(P:Program)(l:List Oper)(hd:List Nat)(E D:vW->vW->Prop)(Q:Act->vW->Prop):List Nat->List Nat->Act->vW->Prop
 | [],done,a,w=>∀ w1,E w w1->Region.ready .any l.toArray (jbd l done)=[]/\Q a w1
 | k :: ord,done,a,w =>
  (k∈Region.ready .any l.toArray (jbd l done)/\Region.free .any l.toArray (jbd l done) k=true/\∃ o v,l[k]?=some o/\jcr P l.toArray E D w o v a/\MixD P l hd E D Q ord (k :: done) (a.put o.dst v) w) \/
  (Region.ready .any l.toArray (jbd l done)=[k]/\k∈hd/\∀ w1,E w w1->wpOp P l.toArray NoQ k (fun a' w'=>D w1 w'/\MixD P l hd E D Q ord (k :: done) a' w') a w1)
theorem jfM(hE:∀ w,E w w)(hT:∀ x y z,E x y->E y z->E x z)(hD:∀ x y z,D x y->D y z->D x z)(hED:∀ x y,E x y->D x y)(hs:Region.noSelect l.toArray=true){hd:List Nat}{Q:Act->vW->Prop}:∀ (ord:List Nat) (done:List Nat) (a:Act) (w:vW),
  MixD P l hd E D Q ord done a w->anyD P l.toArray hd E D Q ord.length (jbd l done) a w
 | [],_,_,_,h=>h
 | k :: ord,done,a,w,h=>by
  rcases h with⟨hr,hf,o,v,ho,hy,h⟩ |⟨hr,hk,h⟩
  ·have e:l.toArray[k]?=some o:=by simpa using ho
   exact jo1 hE hT hD hED e (iC hs) ord.length (jbd l done) a w (iM e hf) hr hy (jfM hE hT hD hED hs ord _ _ _ h)
  ·intro w1 K
   refine⟨fun q=>(by rw[hr]at q;cases q),fun i H=>?_⟩
   rw[hr]at H;obtain rfl:i=k:=by simpa using H
   exact wpOp_mono (fun X w' J=>⟨J.1,fun O=>absurd hk O,jfM hE hT hD hED hs ord _ _ _ J.2⟩) (h w1 K)
theorem ja4(ord hd:List Nat)(E D:vW->vW->Prop)(hE:∀ w,E w w)(hT:∀ x y z,E x y->E y z->E x z)(hD:∀ x y z,D x y->D y z->D x z)(hED:∀ x y,E x y->D x y){id:Nat}{Q:Exit->Act->vW->Prop}{a:Act}{w:vW}
  (hm:P.follows .mixedOrders=true) (hs:Region.noSelect l.toArray=true) (hl:ord.length=l.toArray.size)
  (h:MixD P l hd E D (fun a w=>Q .normal a w) ord [] a w.drew):(Code.region id l.toArray true).wp P Q a w:=by
 refine wp_region_any hm ?_;rw[<-hl]
 have:=jfM hE hT hD hED hs ord _ _ _ h
 unfold jbd at this;rw[hl]at this ⊢;exact jiV hE (fun _ _ h=>h) _ _ _ _ this
variable {Q:Act->vW->Prop} {ord done hd:List Nat} {a:Act} {w:vW} {k:Nat} {o:Oper}
def headD(l:List Oper)(done:List Nat)(k:Nat):Bool:=(Region.ready .any l.toArray (jbd l done)).contains k && Region.free .any l.toArray (jbd l done) k
def jqd(l:List Oper)(hd done:List Nat)(k:Nat):Bool:=Region.ready .any l.toArray (jbd l done) == [k] && hd.contains k
theorem jrQ(o:Oper)(ho:l[k]?=some o)(hk:headD l done k=true)(hw:Region.wanted o (yielded l.toArray a.tmps)=true)(hq:jjj o.op=true)
  (h:∀ K:Act->Prop,(∀ a',MixD P l hd E D Q ord (k :: done) a' w->K a')->o.quiet P a (fun _=>True) K):MixD P l hd E D Q (k :: ord) done a w:=by
 simp only[headD,cQ,cU]at hk
 obtain⟨v,z,H⟩:=h _ (fun _ h=>h)
 have q:jcr P l.toArray E D w o v a:=by
  refine .inl ⟨hw,fun w1 _=>?_⟩;have e:=z w1 trivial;unfold Oper.quietAt at e;have J:=fun f args w'=>jkp (ρ:=a.eval) hq P w1 w' f args;generalize (execOp a.eval o).run P w1=r at *;cases r with
  | ok n w'=>cases n <;> simp only[Oper.quietUpon]at e <;> first | exact e | exact absurd rfl (J _ _ _)
  | halt x w'=>simp only[Oper.quietUpon]at e
 exact .inl ⟨hk.1,hk.2,o,v,ho,q,H⟩
theorem joe(o:Oper)(v:vV)(ho:l[k]?=some o)(hk:headD l done k=true)(hw:Region.wanted o (yielded l.toArray a.tmps)=true)
  (hv:∀ w1,D w w1->(execOp a.eval o).run P w1=.ok (.value v) w1) (h:MixD P l hd E D Q ord (k :: done) (a.put o.dst v) w):MixD P l hd E D Q (k :: ord) done a w:=by
 simp only[headD,cQ,cU]at hk;exact .inl ⟨hk.1,hk.2,o,v,ho,.inl ⟨hw,fun w1 e=>by rw[hv w1 e];exact⟨rfl,rfl⟩⟩,h⟩
theorem qDV(o:Oper)(v:vV)(ho:l[k]?=some o)(hv:∀ w1,D w w1->(execOp a.eval o).run P w1=.ok (.value v) w1)(h:MixD P l hd E D Q ord (k :: done) (a.put o.dst v) w)(hk:headD l done k=true:=by kernel_rfl)(hw:Region.wanted o (yielded l.toArray a.tmps)=true:=by rfl):MixD P l hd E D Q (k :: ord) done a w:=joe o v ho hk hw hv h
theorem jrP(p:Addr)(v:vV){t:TypeId}{x:Operand}{d:Option Tmp}{ty:TypeId}{pos:String}{af:Array Edge}{g:Option (Nat × Bool)}(ho:l[k]?=some ⟨d,.load t x,ty,pos,af,g⟩)(hk:headD l done k=true)
  (hw:Region.wanted ⟨d,.load t x,ty,pos,af,g⟩ (yielded l.toArray a.tmps)=true) (hx:a.eval x=.pointer (some p))
  (hv:∀ w1,D w w1->(Instr.loadAt t (.pointer (some p))).run P w1=.ok v w1) (h:MixD P l hd E D Q ord (k :: done) (a.put d v) w):MixD P l hd E D Q (k :: ord) done a w:=by
 refine joe _ v ho hk hw (fun w1 e=>?_) h
 have:=hv w1 e
 simp only[execOp,hx,bT,this,Result.andThen,cJ]
theorem qDL{t:TypeId}{x:Operand}{d:Option Tmp}{ty:TypeId}{pos:String}{af:Array Edge}{g:Option (Nat × Bool)}(p:Addr)(v:vV)(ho:l[k]?=some ⟨d,.load t x,ty,pos,af,g⟩)(hv:∀ w1,D w w1->(Instr.loadAt t (.pointer (some p))).run P w1=.ok v w1)(h:MixD P l hd E D Q ord (k :: done) (a.put d v) w)(hk:headD l done k=true:=by kernel_rfl)(hw:Region.wanted ⟨d,.load t x,ty,pos,af,g⟩ (yielded l.toArray a.tmps)=true:=by rfl)(hx:a.eval x=.pointer (some p):=by rfl):MixD P l hd E D Q (k :: ord) done a w:=jrP p v ho hk hw hx hv h
theorem jrN(o:Oper)(f:FuncId)(args:Array vV)(v:vV)(ho:l[k]?=some o)(hk:headD l done k=true)(hw:Region.wanted o (yielded l.toArray a.tmps)=true)
  (hv:∀ w1,(execOp a.eval o).run P w1=.ok (.enter f args) w1) (hc:∀ w1,D w w1->Calls P f args w1 (fun e z=>e=.returned v/\E w1 z))
  (h:MixD P l hd E D Q ord (k :: done) (a.put o.dst v) w):MixD P l hd E D Q (k :: ord) done a w:=by
 simp only[headD,cQ,cU]at hk;exact .inl ⟨hk.1,hk.2,o,v,ho,.inl ⟨hw,fun w1 q=>by rw[hv w1];exact⟨rfl,hc w1 q⟩⟩,h⟩
theorem jrO(o:Oper)(ho:l[k]?=some o)(hk:jqd l hd done k=true)(hw:Region.wanted o (yielded l.toArray a.tmps)=true)
  (h:∀ w1,E w w1->∀ K:Act->vW->Prop,(∀ a' w',D w1 w'->MixD P l hd E D Q ord (k :: done) a' w'->K a' w')->o.wp P a w1 K NoQ):MixD P l hd E D Q (k :: ord) done a w:=by
 simp only[jqd,cQ,beq_iff_eq,cU]at hk;refine .inr ⟨hk.1,hk.2,fun w1 q=>?_⟩;unfold wpOp;have e:l.toArray[k]?=some o:=by simpa using ho
 simp only[e,hw,if_true];exact .inl (h w1 q _ (fun _ _ z H=>⟨z,H⟩))
theorem qDH(o:Oper)(ho:l[k]?=some o)(h:∀ w1,E w w1->∀ K:Act->vW->Prop,(∀ a' w',D w1 w'->MixD P l hd E D Q ord (k :: done) a' w'->K a' w')->o.wp P a w1 K NoQ)(hk:jqd l hd done k=true:=by kernel_rfl)(hw:Region.wanted o (yielded l.toArray a.tmps)=true:=by rfl):MixD P l hd E D Q (k :: ord) done a w:=jrO o ho hk hw h
theorem jck(hk:(Region.ready .any l.toArray (jbd l done)).isEmpty=true)(h:∀ w1,E w w1->Q a w1):MixD P l hd E D Q [] done a w:=
 fun w1 e=>⟨by simpa using hk,h w1 e⟩
end mixd
end
def jb2(xs:vL):List vV:=xs.flatMap fun p=>[.string p.1,.string p.2]
theorem jdx(xs:vL):(jb2 xs).length=xs.length * 2:=by
 induction xs with
 | nil=>rfl
 | cons x r ih=>unfold jb2 at *;rw[cE,bG,ih];simp;omega
theorem jbg(xs ys:vL):jb2 (xs++ys)=jb2 xs++jb2 ys:=by simp[jb2]
theorem jdw:∀ (xs:vL) (j:Nat) (p:Pair),xs[j]?=some p->(jb2 xs)[j * 2]?=some (.string p.1)/\(jb2 xs)[j * 2+1]?=some (.string p.2)
 | [],j,p,h=>by simp at h
 | x :: r,0,p,h=>by simp at h;subst h;exact⟨rfl,rfl⟩
 | x :: r,j+1,p,h=>by
  have:=jdw r j p (by simpa using h)
  rw[show (j+1) * 2=j * 2+1+1 by omega];exact this
theorem Tryz.uRows:Tryz.prog.underlying 124=some (.slice 172):=vY
theorem Tryz.infoRow:(Tryz.prog.info? 172).map (fun i=>(i.zero,i.size,i.bytes))=some (some (.agg #[.string ⟨#[]⟩,.string ⟨#[]⟩]),2,32):=vY
theorem Tryz.sRows:jep Tryz.prog 124 172 2 32:=jep.mk' Tryz.uRows Tryz.infoRow rfl vI
abbrev PRow(w0 w:vW)(v:vV)(n:Nat)(xs:vL):Prop:=ORow 172 2 w0 w v n (jb2 xs)
theorem PRow.rd{w0 w:vW}{v:vV}{n:Nat}{xs:vL}(h:PRow w0 w v n xs):RdP w v xs:=by
 have q:xs.length=n:=by have:=h.len;rw[jdx]at this;omega
 obtain⟨_,⟨rfl,O⟩ |⟨g,e,z,rfl,Q,E,H,X,Z⟩⟩:=h.own
 ·exact .inl ⟨none,0,rfl,bE vO⟩
 ·subst q
  refine .inr ⟨g,0,e,rfl,(dD.1 E).1,H,fun j x o=>?_⟩;have hj:=(bU.1 o).1
  obtain⟨J,K⟩:=jdw xs j x o
  exact⟨by rw[cL,h.own.cellAt (j * 2) vO,J],by rw[cL,h.own.cellAt (j * 2+1) vO,K]⟩
def jaR(l:vL):vL:=l.map fun p=>(jbA p.1,p.2)
def jvE(w:vW)(l:vL)(v i:vV)(wr:vW):Prop:=∃ k:Nat,k<=l.length/\i=.int .i64 k/\PRow w wr v k ((jaR l).take k)
theorem jwz{w:vW}{T:TypeId}{sz:Nat}{w0:vW}{v:vV}{n:Nat}{xs:List vV}(h:ORow T sz w0 w v n xs):¬ v.ownBlock=some w.heap.size:=fun e=>by have:=h.lt _ e;omega
theorem jvl(w:vW)(v:vV)(l:vL)(hv:RdP w v l)(hn:l.length<=1000000)(hs:∀ p∈l,p.1.size<=1000000):vQ 71 #[v] w fun e w'=>∃ u,e=.returned u/\PRow w w' u l.length (jaR l):=by
 obtain⟨a,c,a5⟩:=hv.sl
 have HV:=Hd hv;have HS:=Hd hs;subst a5;clear hv hs
 obtain⟨i0,hi,a6,a7,a8⟩:=info_parts Tryz.infoRow
 obtain⟨w1,b4,E,X⟩:=run_make_own (P:=Tryz.prog) (w:=w) w.heap.size 124 172 i0 _ 2 Tryz.uRows hi a6 a7 .i64 .i64 l.length (by rw[a8];omega) (by unfold maxLen;omega) (bM _)
 have HO:=Hd E;have HG:=Hd X;clear E X;go_enter Tryz.func71,Tryz.ntmps71;go_wp2_with fail
 go_loopw [3,11] (fun v i wr=>jvE w l v i wr) (fun _ i _=>l.length - (intOf i).toNat)
 case atStart=>exact⟨0,cC _,rfl,ORow.made w HO.o HG.o⟩
 case round =>
  obtain⟨k,hk,rfl,hR⟩:=hrel
  obtain⟨a2,c2,rfl⟩:=hR.sl
  have O:=Hd hR;clear hR
  by_cases hlt:k < l.length
  ·rcases HV.o with⟨_,_,_,h0⟩ |⟨b,o,c',hh,hb,hc,hcell⟩
   ·rw[h0]at hlt;cases hlt
   cases hh
   obtain⟨p,hp⟩:∃ p,l[k]?=some p:=⟨_,bA hlt⟩
   obtain⟨q1,q2⟩:=hcell k p hp
   have q1:=jaa q1 O.o.ext;have q2:=jaa q2 O.o.ext;have H:=HS.o p (bI hp)
   obtain⟨x,y⟩:=p
   simp only at q1 q2 H;have b1:(k:Int) < (l.length:Int):=vO
   have Z:(jaR l).take (k+1)=(jaR l).take k++[(jbA x,y)]:=by
    rw[cB];unfold jaR;rw[cA,hp];rfl
   have a9:=Hd Z;have b0:=Hd H;have Q0:=Hd (show (wr.alloc (.cells #[.string x,.string y] 71)).cell? ⟨wr.heap.size,0,none⟩=some (.string x)from(Blk.new wr _).cell vF);have Q1:=Hd (show (wr.alloc (.cells #[.string x,.string y] 71)).cell? ⟨wr.heap.size,1,none⟩=some (.string y)from(Blk.new wr _).cell vF);have NB:=Hd (jwz O.o);clear hcell hp H Z;go_wp2_with fail
   refine ja4 [0,1,2,3,4,5,6,7,8,9] [7,8] Ext (jad (fun b=>(Value.slice a2 k c2).ownBlock=some b)) ExtR ExtT (fun x y z h k=>jad.trans h k) (fun x y h=>h.mono (fun _ _ h=>h.elim)) vY vY vY ?_;iterate 2 refine vD ?_
   refine qDL ⟨wr.heap.size,0,none⟩ _ rfl (fun Q h2=>jac Tryz.uStr rfl (jaD (by exact Q0.o) h2 NB.o)) ?_;refine vS ?_;refine jrN _ 51 #[.string x] (.string (jbA x)) rfl vY rfl (fun w1=>jaB (vX 51) vY) (fun w1 h1=>joq w1 x b0.o) ?_;refine vS ?_
   refine vD ?_
   refine qDL ⟨wr.heap.size,1,none⟩ _ rfl (fun Q h2=>jac Tryz.uStr rfl (jaD (by exact Q1.o) h2 NB.o)) ?_;refine vS ?_
   refine vD ?_
   refine qDH _ rfl (fun Q q K hK=>?_);have a0:=Hd (O.o.mono ((((ExtR wr).alloc _).trans (jaj _)).trans q));clear q O;go_simp;refine hK _ _ ((jad.refl _ Q).alloc _) ?_;clear hK K;refine qDH _ rfl (fun w3 q K hK=>?_);have a1:=Hd (a0.o.mono (((ExtR Q).alloc _).trans q));have hB:∀ j u,([.string (jbA x),.string y]:List vV)[j]?=some u->w3.cell? ((⟨Q.heap.size,0,none⟩:Addr).add j)=some u:=fun j u hj=>jaa (ja3 (Blk.new Q (.cells [Value.string (jbA x),.string y].toArray 172)) j u hj) q;refine jjI Tryz.sRows a1.o (.tmp 15) (.tmp 22) rfl rfl hB (by intro u hu;simp at hu;rcases hu with rfl | rfl <;> rfl) rfl rfl (by unfold maxLen;omega) vO (fun v' w4 r1 r2 r3=>hK _ _ r2 ?_);have a3:PRow w w4 v' (k+1) ((jaR l).take (k+1)):=by
    unfold PRow;rw[a9.o,jbg];exact r1
   have J:=Hd a3;clear hK K q r1 r2 r3 a3 hB a0 a1
   obtain⟨a4,c4,rfl⟩:=J.o.sl
   refine vS ?_
   refine vD ?_
   refine jck vY (fun w5 q=>?_);have b2:=Hd (J.o.mono q);clear q J;go_wp2_with fail
   go_roundw
   case rel=>exact⟨k+1,by omega,by go_num,b2.o⟩
   case measure=>exact vJ
  ·have b3:k=l.length:=vO
   subst b3;go_wp2;go_ret;have h:=O.o;rw[cD (by simp[jaR])]at h
   exact⟨_,rfl,h⟩
def jag(d:Nat)(l:vL):vL:=l.map fun p=>(p.1.extract d p.1.size,p.2)
def jvq(w:vW)(d:Nat)(l:vL)(v i:vV)(wr:vW):Prop:=∃ k:Nat,k<=l.length/\i=.int .i64 k/\PRow w wr v k ((jag d l).take k)
theorem jmf(w:vW)(v:vV)(d:Nat)(l:vL)(hv:RdP w v l)(hn:l.length<=1000000)(hs:∀ p∈l,d<=p.1.size/\p.1.size<=1000000):vQ 112 #[v,.int .i64 d] w fun e w'=>∃ u,e=.returned u/\PRow w w' u l.length (jag d l):=by
 obtain⟨a,c,a5⟩:=hv.sl
 have HV:=Hd hv;have HS:=Hd hs;subst a5;clear hv hs
 obtain⟨i0,hi,a6,a7,a8⟩:=info_parts Tryz.infoRow
 obtain⟨w1,b4,E,Q⟩:=run_make_own (P:=Tryz.prog) (w:=w) w.heap.size 124 172 i0 _ 2 Tryz.uRows hi a6 a7 .i64 .i64 l.length (by rw[a8];omega) (by unfold maxLen;omega) (bM _)
 have HO:=Hd E;have HG:=Hd Q;clear E Q;go_enter Tryz.func112,Tryz.ntmps112;go_wp2_with fail
 go_loopw [5,13] (fun v i wr=>jvq w d l v i wr) (fun _ i _=>l.length - (intOf i).toNat)
 case atStart=>exact⟨0,cC _,rfl,ORow.made w HO.o HG.o⟩
 case round =>
  obtain⟨k,hk,rfl,hR⟩:=hrel
  obtain⟨a2,c2,rfl⟩:=hR.sl
  have J:=Hd hR;clear hR
  by_cases hlt:k < l.length
  ·rcases HV.o with⟨_,_,_,h0⟩ |⟨b,o,c',hh,hb,hc,hcell⟩
   ·rw[h0]at hlt;cases hlt
   cases hh
   obtain⟨p,hp⟩:∃ p,l[k]?=some p:=⟨_,bA hlt⟩
   obtain⟨q1,q2⟩:=hcell k p hp
   have q1:=jaa q1 J.o.ext;have q2:=jaa q2 J.o.ext;have X:=HS.o p (bI hp)
   obtain⟨x,y⟩:=p
   simp only at q1 q2 X;have b1:(k:Int) < (l.length:Int):=vO
   have b2:(d:Int)<=(x.size:Int):=vO
   have Z:(jag d l).take (k+1)=(jag d l).take k++[(x.extract d x.size,y)]:=by
    rw[cB];unfold jag;rw[cA,hp];rfl
   have a9:=Hd Z;have Q0:=Hd (show (wr.alloc (.cells #[.string x,.string y] 172)).cell? ⟨wr.heap.size,0,none⟩=some (.string x)from(Blk.new wr _).cell vF);have Q1:=Hd (show (wr.alloc (.cells #[.string x,.string y] 172)).cell? ⟨wr.heap.size,1,none⟩=some (.string y)from(Blk.new wr _).cell vF);have NB:=Hd (jwz J.o);clear hcell hp X Z;go_wp2_with fail
   refine ja4 [0,1,2,3,4,5,6,7,8,9,10] [8,9] Ext (jad (fun b=>(Value.slice a2 k c2).ownBlock=some b)) ExtR ExtT (fun x y z h k=>jad.trans h k) (fun x y h=>h.mono (fun _ _ h=>h.elim)) vY vY vY ?_;iterate 2 refine vD ?_
   refine qDL ⟨wr.heap.size,0,none⟩ _ rfl (fun O h2=>jac Tryz.uStr rfl (jaD (by exact Q0.o) h2 NB.o)) ?_;refine vS ?_;iterate 3 refine vD ?_
   refine qDL ⟨wr.heap.size,1,none⟩ _ rfl (fun O h2=>jac Tryz.uStr rfl (jaD (by exact Q1.o) h2 NB.o)) ?_;refine vS ?_
   refine vD ?_
   refine qDH _ rfl (fun O q K hK=>?_);have a0:=Hd (J.o.mono ((((ExtR wr).alloc _).trans (jaj _)).trans q));clear q J;go_simp;refine hK _ _ ((jad.refl _ O).alloc _) ?_;clear hK K;refine qDH _ rfl (fun w3 q K hK=>?_);have a1:=Hd (a0.o.mono (((ExtR O).alloc _).trans q));have hB:∀ j u,([.string (x.extract d x.size),.string y]:List vV)[j]?=some u->w3.cell? ((⟨O.heap.size,0,none⟩:Addr).add j)=some u:=fun j u hj=>jaa (ja3 (Blk.new O (.cells [Value.string (x.extract d x.size),.string y].toArray 172)) j u hj) q;refine jjI Tryz.sRows a1.o (.tmp 17) (.tmp 25) rfl rfl hB (by intro u hu;simp at hu;rcases hu with rfl | rfl <;> rfl) rfl rfl (by unfold maxLen;omega) vO (fun v' w4 r1 r2 r3=>hK _ _ r2 ?_);have a3:PRow w w4 v' (k+1) ((jag d l).take (k+1)):=by
    unfold PRow;rw[a9.o,jbg];exact r1
   have H:=Hd a3;clear hK K q r1 r2 r3 a3 hB a0 a1
   obtain⟨a4,c4,rfl⟩:=H.o.sl
   refine vS ?_
   refine vD ?_
   refine jck vY (fun w5 q=>?_);have b0:=Hd (H.o.mono q);clear q H;go_wp2_with fail
   go_roundw
   case rel=>exact⟨k+1,by omega,by go_num,b0.o⟩
   case measure=>exact vJ
  ·have b3:k=l.length:=vO
   subst b3;go_wp2;go_ret;have h:=J.o;rw[cD (by simp[jag])]at h
   exact⟨_,rfl,h⟩
def je4(i:Nat)(p:Pair):Bool:=match p.1.data.toList with | []=>false | a :: _=>a.toNat == i
theorem jur{x y:vB}(i:Nat)(h:0 < x.size):je4 i (x,y)=(x[0].toNat == i):=by
 obtain⟨⟨l⟩⟩:=x
 cases l with
 | nil=>exact absurd h (Nat.lt_irrefl 0)
 | cons a r=>rfl
theorem jtk(a b:Nat):((a:Int) ==(b:Int))=(a == b):=by
 by_cases h:a=b
 ·subst h;simp
 ·have e:¬(a:Int)=(b:Int):=vO
  rw[beq_eq_false_iff_ne.2 h,beq_eq_false_iff_ne.2 e]
theorem jyu(w:vW)(x y:vB)(gi i:Nat)(hs:x.size<=1000000)(hi:i < 256)(hc:w.cell? ⟨gi,0,none⟩=some (.int .i64 (i:Int))):vR 114 #[.agg #[.string x,.string y],.pointer (some ⟨gi,0,none⟩)] w (.bool (je4 i (x,y))):=by
 have K:=Hd (show (w.alloc (.cells #[.string x,.string y] 172)).cell? ⟨w.heap.size,0,none⟩=some (.string x)from(Blk.new w _).cell vF);have QI:=Hd (jaa hc ((ExtR w).alloc (.cells #[.string x,.string y] 172)));clear hc
 by_cases h0:x.size=0
 ·have:=jbo h0
  subst this;have E:Hid (je4 i (⟨#[]⟩,y)=false):=rfl;go_enter Tryz.func114,Tryz.ntmps114;go_wp2_with fail
  refine jai [0,1,2,3,4,5,6,7,8,9,10,11] Ext ExtR ExtT vY vY vY ?_
  refine vK ?_
  refine qKL ⟨w.heap.size,0,none⟩ _ rfl (fun O q=>jac Tryz.uStr rfl (jaa (by exact K.o) q)) ?_;refine vS ?_;iterate 2 refine vK ?_
  iterate 6 (refine qKS _ rfl ?_;refine vS ?_)
  iterate 2 refine vK ?_
  refine qKE (fun w3 H=>?_);have Q:=Hd ((((ExtR w).alloc (.cells #[.string ⟨#[]⟩,.string y] 172)).trans (jaj _)).trans H);clear H;go_wp2_with fail
  go_ret
  exact⟨by rw[E.o];rfl,Q.o⟩
 ·have e:0 < x.size:=vO
  have a1:=jbe (s:=x) e;have c0:(0:Int) < (x.size:Int):=vO
  have c1:=x[0].toNat_lt;have E:=Hd (jur (y:=y) i e);have J:((x[0].toNat:Int) ==(i:Int))=(x[0].toNat == i):=jtk _ _;have X:=Hd J;clear J;go_enter Tryz.func114,Tryz.ntmps114;go_wp2_with fail
  refine jai [0,1,2,3,4,5,6,7,8,9,10,11] Ext ExtR ExtT vY vY vY ?_
  refine vK ?_
  refine qKL ⟨w.heap.size,0,none⟩ _ rfl (fun O q=>jac Tryz.uStr rfl (jaa (by exact K.o) q)) ?_;refine vS ?_;iterate 3 refine vK ?_
  refine qKL ⟨w.heap.size,0,none⟩ _ rfl (fun O q=>jac Tryz.uStr rfl (jaa (by exact K.o) q)) ?_;refine vS ?_;iterate 2 refine vK ?_
  refine qKL ⟨gi,0,none⟩ _ rfl (fun O q=>jac Tryz.uInt rfl (jaa (by exact QI.o) q)) ?_;refine vS ?_;iterate 3 refine vK ?_
  refine qKE (fun w3 H=>?_);have Z:=Hd ((((ExtR w).alloc (.cells #[.string x,.string y] 172)).trans (jaj _)).trans H);clear H;rw[X.o, <-E.o]
  obtain⟨bb,z⟩:=vE (je4 i (x,y))
  rw[<-z];have a0:=Hd z;clear z;go_wp2_with fail
  go_ret
  exact⟨by rw[<-a0.o];rfl,Z.o⟩
def cutL(i:Nat)(l:vL):vL:=l.filter (je4 i)
theorem jty(i:Nat)(l:vL){k:Nat}{p:Pair}(h:l[k]?=some p):cutL i (l.take (k+1))=cutL i (l.take k)++(if je4 i p then [p]else []):=by
 unfold cutL;rw[cB,h,gW,Option.toList_some,dN];simp
def jxe(w:vW)(i:Nat)(l:vL)(v j:vV)(wr:vW):Prop:=∃ k n:Nat,k<=l.length/\n<=k/\j=.int .i64 k/\PRow w wr v n (cutL i (l.take k))
theorem jxT(w:vW)(v:vV)(gi i:Nat)(l:vL)(hv:RdP w v l)(hn:l.length<=1000000)(hs:∀ p∈l,p.1.size<=1000000)(hi:i < 256)(hc:w.cell? ⟨gi,0,none⟩=some (.int .i64 (i:Int))):vQ 113 #[v,.func (.func 114) #[] #[.pointer (some ⟨gi,0,none⟩)]] w fun e w'=>∃ u n,e=.returned u/\PRow w w' u n (cutL i l):=by
 obtain⟨a,c,a0⟩:=hv.sl
 have HV:=Hd hv;have HS:=Hd hs;have HC:=Hd hc;subst a0;clear hv hs hc;go_enter Tryz.func113,Tryz.ntmps113;go_wp2_with fail
 go_loopw [5,10] (fun v j wr=>jxe w i l v j wr) (fun _ j _=>l.length - (intOf j).toNat)
 case atStart=>exact⟨0,0,cC _,cC _,rfl,ORow.nil _ _ (ExtR w)⟩
 case round =>
  obtain⟨k,n,hk,a4,rfl,hR⟩:=hrel
  obtain⟨a2,c2,rfl⟩:=hR.sl
  have J:=Hd hR;clear hR
  by_cases hlt:k < l.length
  ·rcases HV.o with⟨_,_,_,h0⟩ |⟨b,o,c',hh,hb,hc,hcell⟩
   ·rw[h0]at hlt;cases hlt
   cases hh
   obtain⟨p,Q⟩:∃ p,l[k]?=some p:=⟨_,bA hlt⟩
   obtain⟨X,Z⟩:=hcell k p Q
   have X:=jaa X J.o.ext;have Z:=jaa Z J.o.ext;have K:=HS.o p (bI Q);have O:=jty i l Q
   obtain⟨x,y⟩:=p
   simp only at X Z K;have b1:(k:Int) < (l.length:Int):=vO
   have q:=Hd O;clear hcell Q O;go_wp2_with fail
   refine vC (jyu _ x y gi i K hi (jaa HC.o (J.o.ext.trans ((ExtR wr).alloc _)))) fun w3 hE=>?_;have hX:=((ExtR wr).alloc (.cells #[.string x,.string y] 172)).trans hE;have z:=Hd (J.o.mono hX);have E:=(Blk.new wr (.cells #[.string x,.string y] 172)).keeps hE (fun h=>h);have p0:=E.cell (i:=0) (v:=.string x) vF;have p1:=E.cell (i:=1) (v:=.string y) vF;clear hX hE E X Z J;cases hpk:je4 i (x,y)with
   | true =>
    rw[hpk,if_pos rfl]at q;go_wp2_with (at_builtin;refine ja5 Tryz.sRows (z.o.mono ((ExtR w3).alloc _)) (.tmp 17) (.tmp 19) rfl rfl rfl (ja3 (Blk.new w3 _)) (news:=[.string x,.string y]) (by intro u hu;simp at hu;rcases hu with rfl | rfl <;> rfl) rfl rfl ?c1 ?c2 (fun v' w' r1 r2 r3=>?_))
    case c1=>unfold maxLen;omega
    case c2=>omega
    have H:PRow w w' v' (n+1) (cutL i (l.take (k+1))):=by unfold PRow;rw[q.o,jbg];exact r1
    obtain⟨a5,c5,rfl⟩:=H.sl
    have a1:=Hd H;clear r1 r2 r3 H z;go_wp2_with fail
    go_roundw
    case rel=>exact⟨k+1,n+1,by omega,by omega,by go_num,a1.o⟩
    case measure=>exact vJ
   | false =>
    rw[hpk,if_neg (by simp),bR]at q;go_wp2_with fail
    go_roundw
    case rel=>exact⟨k+1,n,by omega,by omega,by go_num,by rw[q.o];exact z.o⟩
    case measure=>exact vJ
  ·have a3:k=l.length:=vO
   subst a3;go_wp2;go_ret;have h:=J.o;rw[cF]at h
   exact⟨_,_,rfl,h⟩
theorem jcb{P:Program}{t e ty:TypeId}{i:TypeInfo}(ht:P.underlying t=some (.slice e))(hi:P.info? e=some i)(base:Option Addr)(n c:Nat)(hle:n<=c)(c2:Nat)(w:vW) :
  (Builtin.append_ #[t,t] ty #[.slice base n c,.slice none 0 c2]).run P w=.ok (.slice base n c) w:=by
 have o:(sizeOf e).run P w=.ok i.size w:=by simp[sizeOf,typeInfo,hi]
 have q:∀ w,(Builtin.lenOf (.slice none 0 c2)).run P w=.ok 0 w:=fun w=>rfl;cases base <;> simp[Builtin.append_,bT,Result.andThen,run_underlying ht,o,q,cJ,Builtin.firstCells,hle,storeCells]
inductive PT where
 | mk (text:vB) (below:List PT)
def PT.text:PT->vB | .mk t _=>t
def PT.kids:PT->List PT | .mk _ ks=>ks
def ptrV(b:Nat):vV:=.pointer (some ⟨b,0,none⟩)
def RdQ(A:Nat->Prop)(W:vW)(v:vV)(bs:List Nat):Prop:=
 (v=.slice none 0 0/\bs=[])\/∃ g c,v=.slice (some ⟨g,0,none⟩) bs.length c/\bs≠[]/\A g/\g < W.heap.size/\bs.length<=c/\∀ (j:Nat) b,bs[j]?=some b->W.cell? ⟨g,j,none⟩=some (ptrV b)
mutual
def jbJ(A:Nat->Prop):PT->Nat->vW->Prop
 | .mk t ks,b,W=>A b/\∃ v bs,Blk W b (.cells #[.string t,v] 170)/\RdQ A W v bs/\jaT A ks bs W
def jaT(A:Nat->Prop):List PT->List Nat->vW->Prop
 | [],bs,_=>bs=[]
 | k :: ks,bs,W=>∃ b r,bs=b :: r/\jbJ A k b W/\jaT A ks r W
end
theorem RdQ.keeps{A:Nat->Prop}{F:BSet}{W W':vW}{v:vV}{bs:List Nat}(h:RdQ A W v bs)(k:jad F W W')(hF:∀ x,A x->¬ F x):RdQ A W' v bs:=by
 rcases h with h |⟨g,c,h1,h2,h3,h4,h5,h6⟩
 ·exact .inl h
 ·exact .inr ⟨g,c,h1,h2,h3,bP h4 k.size,h5,fun j b hb=>jaD (h6 j b hb) k (hF g h3)⟩
theorem RdQ.mono{A A':Nat->Prop}{W:vW}{v:vV}{bs:List Nat}(h:RdQ A W v bs)(hA:∀ x,A x->x < W.heap.size->A' x):RdQ A' W v bs:=by
 rcases h with h |⟨g,c,h1,h2,h3,h4,h5,h6⟩
 ·exact .inl h
 ·exact .inr ⟨g,c,h1,h2,hA g h3 h4,h4,h5,h6⟩
mutual
theorem jbJ.keeps{A:Nat->Prop}{F:BSet}{W W':vW}(k:jad F W W')(hF:∀ x,A x->¬ F x):∀ (T:PT) (b:Nat),jbJ A T b W->jbJ A T b W'
 | .mk t ks,b,h=>by
  unfold jbJ at *
  obtain⟨e,v,o,q,z,E⟩:=h
  exact⟨e,v,o,q.keeps k (hF b e),z.keeps k hF,jaT.keeps k hF ks o E⟩
theorem jaT.keeps{A:Nat->Prop}{F:BSet}{W W':vW}(k:jad F W W')(hF:∀ x,A x->¬ F x):∀ (ks:List PT) (bs:List Nat),jaT A ks bs W->jaT A ks bs W'
 | [],bs,h=>by unfold jaT at *;exact h
 | x :: ks,bs,h=>by
  unfold jaT at *
  obtain⟨b,r,e,o,q⟩:=h
  exact⟨b,r,e,jbJ.keeps k hF x b o,jaT.keeps k hF ks r q⟩
end
mutual
theorem jbJ.mono{A A':Nat->Prop}{W:vW}(hA:∀ x,A x->x < W.heap.size->A' x):∀ (T:PT) (b:Nat),jbJ A T b W->jbJ A' T b W
 | .mk t ks,b,h=>by
  unfold jbJ at *
  obtain⟨q,v,e,o,z,E⟩:=h
  exact⟨hA b q o.lt,v,e,o,z.mono hA,jaT.mono hA ks e E⟩
theorem jaT.mono{A A':Nat->Prop}{W:vW}(hA:∀ x,A x->x < W.heap.size->A' x):∀ (ks:List PT) (bs:List Nat),jaT A ks bs W->jaT A' ks bs W
 | [],bs,h=>by unfold jaT at *;exact h
 | x :: ks,bs,h=>by
  unfold jaT at *
  obtain⟨b,r,e,o,q⟩:=h
  exact⟨b,r,e,jbJ.mono hA x b o,jaT.mono hA ks r q⟩
end
theorem jaT.append{A:Nat->Prop}{W:vW}:∀ (ks:List PT) (bs:List Nat) (ks':List PT) (bs':List Nat),jaT A ks bs W->jaT A ks' bs' W->jaT A (ks++ks') (bs++bs') W
 | [],bs,ks',bs',h,h'=>by unfold jaT at h;subst h;exact h'
 | x :: ks,bs,ks',bs',h,h'=>by
  unfold jaT at h
  obtain⟨b,r,rfl,e,o⟩:=h
  show jaT A (x ::(ks++ks')) (b ::(r++bs')) W;unfold jaT
  exact⟨b,r++bs',rfl,e,jaT.append ks r ks' bs' o h'⟩
theorem Tryz.uParts:Tryz.prog.underlying 168=some (.slice 122):=vY
theorem Tryz.infoPtr:(Tryz.prog.info? 122).map (fun i=>(i.zero,i.size,i.bytes))=some (some (.pointer none),1,8):=vY
theorem Tryz.sParts:jep Tryz.prog 168 122 1 8:=jep.mk' Tryz.uParts Tryz.infoPtr rfl vI
abbrev QRow(w0 w:vW)(v:vV)(bs:List Nat):Prop:=ORow 122 1 w0 w v bs.length (bs.map ptrV)
structure jdB(w0 W:World)(b m:Nat)(t:vB)(ks:List PT)(u:Value)(bs:List Nat):Prop where
 blk:Blk W b (.cells #[.string t,u] 170)
 new:w0.heap.size<=b
 row:QRow w0 W u bs
 nil:bs=[]->u=.slice none 0 0
 nb:¬ u.ownBlock=some b
 bm:m≠b
 mb:¬ u.ownBlock=some m
 mn:w0.heap.size<=m
 ml:m < W.heap.size
 ks:jaT (fun x=>w0.heap.size<=x/\x≠b/\x≠m/\¬ u.ownBlock=some x) ks bs W
theorem jdB.ext{w0 W W':vW}{b m:Nat}{t:vB}{ks:List PT}{u:vV}{bs:List Nat}(h:jdB w0 W b m t ks u bs)(e:Ext W W'):jdB w0 W' b m t ks u bs:=
 ⟨h.blk.keeps e (fun h=>h),h.new,h.row.mono e,h.nil,h.nb,h.bm,h.mb,h.mn,bP h.ml e.size,jaT.keeps e (fun _ _ h=>h) _ _ h.ks⟩
theorem jdB.other{w0 W W':vW}{b m:Nat}{t:vB}{ks:List PT}{u:vV}{bs:List Nat}(h:jdB w0 W b m t ks u bs)(e:jad (fun x=>x=m) W W'):jdB w0 W' b m t ks u bs:=
 ⟨h.blk.keeps e (fun e=>h.bm e.symm),h.new,h.row.keeps e (fun x o e=>h.mb (by have e:x=m:=e;rw[<-e];exact o)) (fun x o e=>by have e:x=m:=e;have:=h.mn;omega),h.nil,h.nb,h.bm,h.mb,h.mn,bP h.ml e.size,
  jaT.keeps e (fun x o e=>o.2.2.1 e) _ _ h.ks⟩
theorem jdB.setText{w0 W:vW}{b m:Nat}{t:vB}{ks:List PT}{u:vV}{bs:List Nat}(h:jdB w0 W b m t ks u bs)(t':vB):jdB w0 (W.setCell ⟨b,0,none⟩ (.string t')) b m t' ks u bs:=
 have K:=jad.oneSet W ⟨b,0,none⟩ (.string t')
 ⟨h.blk.set_same (i:=0) (.string t'),h.new,h.row.keeps K (fun x o e=>h.nb (by have e:x=b:=e;rw[<-e];exact o)) (fun x o e=>by have e:x=b:=e;have:=h.new;omega),h.nil,h.nb,h.bm,h.mb,h.mn,bP h.ml K.size,jaT.keeps K (fun x o e=>o.2.1 e) _ _ h.ks⟩
theorem jdB.part{w0 W:vW}{b m:Nat}{t:vB}{ks:List PT}{u:vV}{bs:List Nat}(h:jdB w0 W b m t ks u bs):jbJ (fun x=>w0.heap.size<=x) (.mk t ks) b W:=by
 unfold jbJ
 refine⟨h.new,u,bs,h.blk,?_,jaT.mono (fun x o _=>o.1) _ _ h.ks⟩
 by_cases h0:bs=[]
 ·exact .inl ⟨h.nil h0,h0⟩
 ·obtain⟨_,⟨rfl,H⟩ |⟨g,e,q,rfl,J,z,E,K,O⟩⟩:=h.row.own
  ·exact absurd (bE vO) h0
  ·refine .inr ⟨g,e,rfl,h0,h.row.new g rfl,(dD.1 z).1,E,fun j b hb=>?_⟩
   have Q:=(bU.1 hb).1;rw[h.row.own.cellAt j vO,cA,hb];rfl
def jbw(T:PT):List PT:=if T.text.size < 32 then []else [T]
structure jvv(T:PT):Prop where
 size:T.text.size<=100000
 small:T.text.size < 32->T.kids=[]
 nohash:T.text.size < 32->∃ q,cutN T.text=some q/\jeX T.text q=none
theorem jt0(W:vW)(b:Nat)(a:Option Addr)(c:Nat):vQ 111 #[ptrV b,.slice a 0 c] W fun e w'=>e=.returned (.string ⟨#[]⟩)/\w'=W:=by
 unfold ptrV;go_enter Tryz.func111,Tryz.ntmps111;go_wp2_with fail
 go_ret
 exact⟨rfl,rfl⟩
theorem jdF{P:Program}{a:Act}{w w':vW}{v:vV}{d:Option Tmp}{args:Array Operand}{ats:Array TypeId}{ty:TypeId}{pos:String}{af:Array Edge}{g:Option (Nat × Bool)}{vs:Array vV}(h:(Builtin.append_ ats ty vs).run P w=.ok v w')(hv:args.map a.eval=vs) :
  (execOp a.eval ⟨d,.call { callee:=.builtin .append,args:=args,argTypes:=ats },ty,pos,af,g⟩).run P w=.ok (.value v) w':=by
 subst hv;simp[execOp,resolve,invoke,Go.builtin,Act.eval,bT,Result.andThen,cJ,h]
theorem jdB.add{w0 W w1 w2:vW}{b m:Nat}{t:vB}{ks:List PT}{u u':vV}{bs:List Nat}{k:Nat}{T:PT}(h:jdB w0 W b m t ks u bs)(hk:jbJ (fun x=>w1.heap.size<=x) T k W)(h1:b < w1.heap.size)(h1m:m < w1.heap.size)(h2:∀ x,u.ownBlock=some x->x < w1.heap.size)(h3:w0.heap.size<=w1.heap.size)
  (r1:QRow w0 w2 u' (bs++[k])) (r2:jad (fun x=>u.ownBlock=some x) W w2) (r3:u'.ownBlock=u.ownBlock\/∀ x,u'.ownBlock=some x->W.heap.size<=x) :
  jdB w0 (w2.setCell ⟨b,1,none⟩ u') b m t (ks++[T]) u' (bs++[k]):=by
 have K:jad (fun x=>x=b\/u.ownBlock=some x) W (w2.setCell ⟨b,1,none⟩ u'):=(r2.mono (fun x _ o=>.inr o)).setCell (.inl (.inl rfl)) _;have q:=h.blk.lt;have E:¬ u'.ownBlock=some b:=fun e=>by
  rcases r3 with r3 | r3
  ·exact h.nb (r3 ▸ e)
  ·have:=r3 b e;omega
 have z:∀ x,x < W.heap.size->¬ u.ownBlock=some x->¬ u'.ownBlock=some x:=fun x o J e=>by
  rcases r3 with r3 | r3
  ·exact J (r3 ▸ e)
  ·have:=r3 x e;omega
 refine⟨?_,h.new,r1.keeps (jad.oneSet w2 ⟨b,1,none⟩ u') (fun x o e=>E (by have e:x=b:=e;rw[<-e];exact o)) (fun x o e=>by have e:x=b:=e;have:=h.new;omega),fun e=>absurd e (by simp),E,h.bm,z m h.ml h.mb,h.mn,bP h.ml K.size,?_⟩
 ·have:=(h.blk.keeps r2 h.nb).set_same (i:=1) u'
  exact this
 ·refine jaT.append _ _ _ _ ?_ ?_
  ·refine jaT.keeps K (fun x o e=>?_) _ _ (jaT.mono (A':=fun x=>w0.heap.size<=x/\x≠b/\¬ u.ownBlock=some x/\x≠m/\¬ u'.ownBlock=some x) (fun x o q=>⟨o.1,o.2.1,o.2.2.2,o.2.2.1,z x q o.2.2.2⟩) _ _ h.ks) |> jaT.mono (fun x o _=>⟨o.1,o.2.1,o.2.2.2.1,o.2.2.2.2⟩) _ _
   rcases e with e | e
   ·exact o.2.1 e
   ·exact o.2.2.1 e
  ·unfold jaT
   refine⟨k,[],rfl,?_,by unfold jaT;rfl⟩
   have H:jbJ (fun x=>w0.heap.size<=x/\x≠b/\¬ u.ownBlock=some x/\x≠m/\¬ u'.ownBlock=some x) T k W:=jbJ.mono (fun x o q=>⟨by omega,by omega,fun e=>by have:=h2 x e;omega,by omega,z x q (fun e=>by have:=h2 x e;omega)⟩) _ _ hk;refine jbJ.mono (fun x o _=>⟨o.1,o.2.1,o.2.2.2.1,o.2.2.2.2⟩) _ _ (jbJ.keeps K (fun x o e=>?_) _ _ H);rcases e with e | e
   ·exact o.2.1 e
   ·exact o.2.2.1 e
theorem jdB.same{w0 W:vW}{b m:Nat}{t:vB}{ks:List PT}{u:vV}{bs:List Nat}(h:jdB w0 W b m t ks u bs):jdB w0 (W.setCell ⟨b,1,none⟩ u) b m t ks u bs:=
 have K:=jad.oneSet W ⟨b,1,none⟩ u
 ⟨h.blk.set_same (i:=1) u,h.new,h.row.keeps K (fun x o e=>h.nb (by have e:x=b:=e;rw[<-e];exact o)) (fun x o e=>by have e:x=b:=e;have:=h.new;omega),h.nil,h.nb,h.bm,h.mb,h.mn,bP h.ml K.size,jaT.keeps K (fun x o e=>o.2.1 e) _ _ h.ks⟩
theorem jbJ.open{A:Nat->Prop}{T:PT}{b:Nat}{W:vW}(h:jbJ A T b W):A b/\∃ v bs,Blk W b (.cells #[.string T.text,v] 170)/\RdQ A W v bs/\jaT A T.kids bs W:=by
 cases T with
 | mk t ks=>unfold jbJ at h;exact h
theorem RdQ.sl{A:Nat->Prop}{W:vW}{v:vV}{bs:List Nat}(h:RdQ A W v bs):∃ a c,v=.slice a bs.length c:=by
 rcases h with⟨h1,h2⟩ |⟨g,c,h1,_⟩
 ·exact⟨none,0,by rw[h1,h2];rfl⟩
 ·exact⟨_,c,h1⟩
theorem jvh{w0 W:vW}(hc:jbS W){b m:Nat}{t:vB}{ks:List PT}{u:vV}{bs:List Nat}(h:jdB w0 W b m t ks u bs)(hbs:bs.length<=100)(v:vV)(l:vL)(hv:RdP W v l)(hl:l≠[])(hln:l.length<=1000000)(T:PT)(hT:jvv T)
  (hb:vQ 70 #[v] W fun e w'=>∃ k,e=.returned (ptrV k)/\jbJ (fun x=>W.heap.size<=x) T k w'/\Ext W w') :
  vQ 111 #[ptrV b,v] W fun e w'=>∃ u' bs',e=.returned (.string (refB T.text))/\jdB w0 w' b m t (ks++jbw T) u' bs'/\bs'.length<=bs.length+1/\Ext w0 w'/\jad (fun x=>x=b\/u.ownBlock=some x) W w':=by
 obtain⟨av,cv,rfl⟩:=hv.sl
 have c2:l.length≠0:=fun e=>hl (bE e);have c0:((l.length:Int) == 0)=false:=by simp;exact hl
 have c1:¬(l.length:Int)=0:=vO
 have HB:=Hd hb;have H:=Hd h;have HC:=Hd hc;have HT:=Hd hT
 obtain⟨s,hs⟩:=vE T.text
 have b2:refB T.text=refB s:=by rw[hs]
 rw[b2];have HS:=Hd hs;clear hb h hc hT hv hl c2 hs b2;unfold ptrV;go_enter Tryz.func111,Tryz.ntmps111;go_wp2_with fail
 refine HB.o.mono ?_;rintro e w1 ⟨k,rfl,hk,E⟩;have HK:=Hd hk
 obtain⟨e0,vk,bk,a4,b3,b4⟩:=hk.open
 have q0:w1.cell? ⟨k,0,none⟩=some (.string s):=by rw[HS.o];exact a4.cell vF
 have H1:=Hd (H.o.ext E);have HE:=Hd E;have c3:=Hd (HC.o.ext E);have c4:=Hd a4;have c6:=Hd b3;have c7:=Hd b4;clear E hk a4 b3 b4;unfold ptrV;go_wp2_with fail
 refine vC (jwG w1 s c3.o) fun w2 E=>?_;have b5:=Hd E;have H2:=Hd (H1.o.ext E)
 by_cases hsm:s.size < 32
 ·have X:T.text.size < 32:=by rw[<-HS.o];exact hsm
  obtain⟨q,J,O⟩:=HT.o.nohash X
  rw[<-HS.o]at J O;have hr:refB s=s:=by unfold refB;rw[if_pos hsm]
  rw[hr];have a2:=HT.o.small X;have a3:=c7.o;rw[a2]at a3;unfold jaT at a3;have a6:=c6.o;rw[a3]at a6;have b6:vk=.slice none 0 0:=by
   rcases a6 with⟨h1,_⟩ |⟨g,c,_,h2,_⟩
   ·exact h1
   ·exact absurd rfl h2
  have z:ks++jbw T=ks:=by unfold jbw;rw[if_pos X,bR]
  have Q:=Hd z;have a0:=Hd hr;have a7:=Hd J;have a8:=Hd O;have a1:=c4.o.keeps E (fun h=>h);rw[b6]at a1;have QK:=Hd (a1.cell (i:=1) (v:=.slice none 0 0) vF);clear E J O hr a2 a3 a6 b6 a1 z;go_wp2_with fail
  refine vC (jeM w2 s q vO a7.o) fun w3 E=>?_;rw[a8.o];have H3:=Hd (H2.o.ext E);have c8:=Hd (jaa QK.o E);have a9:=Hd ((HE.o.trans b5.o).trans E);clear E
  obtain⟨au,Z,hu⟩:=H3.o.row.sl
  subst hu;unfold optV;simp only;go_wp2_with fail
  have c9:bs.length<=Z:=by
   obtain⟨_,⟨hx,h2⟩ |⟨g,e2,e3,hx,h3,h4,h5,h6,h7⟩⟩:=H3.o.row.own
   ·have:=dY hx;omega
   ·have:=dY hx;omega
  refine jar [0,1,2,3,4,5,6,7,8,9,10,11,12] [12] Ext ExtR ExtT vY vY vY ?_;iterate 2 refine vP ?_
  refine qA _ (.pointer (some ⟨b,0,none⟩)) rfl (fun w1=>by kernel_rfl) ?_;refine vS ?_
  refine vP ?_
  refine qL ⟨b,1,none⟩ _ rfl (fun w1 h1=>jac Tryz.uParts rfl (jaa (by exact H3.o.blk.cell (i:=1) (v:=.slice au bs.length Z) vF) h1)) ?_;refine vS ?_
  refine vP ?_
  refine qA _ (.pointer (some ⟨k,0,none⟩)) rfl (fun w1=>by kernel_rfl) ?_;refine vS ?_
  refine vP ?_
  refine qL ⟨k,1,none⟩ _ rfl (fun w1 h1=>jac Tryz.uParts rfl (jaa (by exact c8.o) h1)) ?_;refine vS ?_
  obtain⟨i0,z0,d0,_⟩:=Tryz.sParts.hi
  refine qA _ (.slice au bs.length Z) rfl (fun w1=>jdF (jcb Tryz.uParts d0 au bs.length Z c9 0 w1) vY) ?_;refine vS ?_;refine qA _ (.pointer (some ⟨b,0,none⟩)) rfl (fun w1=>by kernel_rfl) ?_;refine vS ?_
  refine vP ?_
  refine qH _ rfl (fun w4 he K hK=>?_);have h4:=H3.o.ext ((jaj w3).trans he);have q1:w4.cell? ⟨b,1,none⟩=some (.slice au bs.length Z):=h4.blk.cell (i:=1) vF;have f1:w4.frozen? ⟨b,1,none⟩=false:=h4.blk.frozen;have H4:=Hd h4;have d1:=Hd (a9.o.trans ((jaj w3).trans he));clear he h4;go_simp;refine hK _ _ ?_;clear hK K q1 f1;have H5:=Hd H4.o.same;refine qE (fun w5 he=>?_);have H6:=Hd (H5.o.ext he);have d2:=Hd ((((d1.o.mono (G:=fun x=>x=b\/(Value.slice au bs.length Z).ownBlock=some x) (fun _ _ h=>h.elim)).setCell (p:=⟨b,1,none⟩) (.inl (.inl rfl)) (.slice au bs.length Z)).trans (he.mono (fun _ _ h=>h.elim))));clear he H5 H4;go_wp2_with fail
  go_ret
  exact⟨_,bs,by rw[a0.o];rfl,by rw[Q.o];exact H6.o,by omega,H6.o.row.ext,d2.o⟩
 ·have X:¬ T.text.size < 32:=by rw[<-HS.o];exact hsm
  obtain⟨r,hr⟩:=vE (refB s)
  have b0:r=jaC (shaB s):=by rw[hr];unfold refB;rw[if_neg hsm]
  obtain⟨q,J,O⟩:=jdI (shaB s) (jbi s)
  rw[<-b0]at J O;have d3:r.size<=1000000000:=by have:=ja1 (shaB s);have:=jbi s;rw[b0];omega
  have z:ks++jbw T=ks++[T]:=by unfold jbw;rw[if_neg X]
  rw[<-hr];have Q:=Hd z;have a0:=Hd hr;have a7:=Hd J;have a8:=Hd O;have d4:=Hd (jbJ.keeps E (fun _ _ h=>h) _ _ HK.o);clear E J O hr b0 z X;go_wp2_with fail
  refine vC (jeM w2 r q d3 a7.o) fun w3 E=>?_;rw[a8.o];have h3:=H2.o.ext E;have b1:=Hd (jbJ.keeps E (fun _ _ h=>h) _ _ d4.o);have b7:=(HE.o.trans b5.o).trans E
  obtain⟨au,Z,hu⟩:=h3.row.sl
  subst hu;have q1:w3.cell? ⟨b,1,none⟩=some (.slice au bs.length Z):=h3.blk.cell (i:=1) vF;have H3:=Hd h3;have d5:=H.o.blk.lt;have b8:=H.o.row.lt;have d6:=Hd b8;have d7:=H.o.row.ext.size;have a9:=Hd b7;clear E h3 b7 b8;unfold optV;simp only;go_wp2_with (at_builtin;refine ja5 Tryz.sParts (H3.o.row.mono ((ExtR w3).alloc _)) (.tmp 29) (.tmp 31) rfl rfl rfl (ja3 (Blk.new w3 _)) (news:=[ptrV k]) (by intro u hu;simp at hu;rw[hu];rfl) rfl rfl (by unfold maxLen;omega) vO (fun v' w4 r1 r2 r3=>?_);obtain⟨a5,c5,d8⟩:=r1.sl;subst d8;have b9:=(H3.o.blk.alloc _).keeps r2 H3.o.nb;have qb:w4.cell? ⟨b,1,none⟩=some (.slice au bs.length Z):=b9.cell (i:=1) vF;have fb:w4.frozen? ⟨b,1,none⟩=false:=b9.frozen)
  have e1:QRow w0 w4 (.slice a5 (bs.length+1) c5) (bs++[k]):=by
   unfold QRow;rw[bG,bY];exact r1
  have h5:=jdB.add (w1:=W) (H3.o.ext ((ExtR w3).alloc _)) (jbJ.keeps ((ExtR w3).alloc _) (fun _ _ h=>h) _ _ b1.o) d5 H.o.ml d6.o d7 e1 r2 r3;have d9:jad (fun x=>x=b\/(Value.slice au bs.length Z).ownBlock=some x) W (w4.setCell ⟨b,1,none⟩ (.slice a5 (bs.length+1) c5)):=
   ((((a9.o.alloc _).mono (G:=fun x=>x=b\/(Value.slice au bs.length Z).ownBlock=some x) (fun _ _ h=>h.elim)).trans (r2.mono (fun _ _ h=>.inr h)))).setCell (.inl (.inl rfl)) _
  go_ret
  exact⟨_,bs++[k],by rw[<-a0.o];rfl,by rw[Q.o];exact h5,by simp,h5.row.ext,d9⟩
abbrev Lt(a b:vN):Prop:=Op.bytesLess a b=true
theorem jbx{a b:vU}{x y:vN}:Lt (a :: x) (b :: y)↔a < b\/(a=b/\Lt x y):=by
 unfold Lt;rw[Op.bytesLess];simp
theorem not_lt_nil(a:vN):¬ Lt a []:=by
 unfold Lt;cases a <;> simp[Op.bytesLess]
theorem joh{b:vU}{y:vN}:Lt [] (b :: y):=rfl
theorem lt_irrefl:∀ a:vN,¬ Lt a a
 | [],h=>not_lt_nil _ h
 | a :: x,h=>by
  rcases jbx.1 h with h | h
  ·exact iF a h
  ·exact lt_irrefl x h.2
theorem ja7:∀ (a b:vN),a.take (jba a b)=b.take (jba a b)/\jba a b<=a.length/\jba a b<=b.length
 | [],b=>by simp[jba]
 | x :: r,[]=>by simp[jba]
 | x :: r,y :: t=>by
  unfold jba;split
  ·rename_i h
   obtain⟨e,o,q⟩:=ja7 r t
   subst h;simp only[fF,bQ,e]
   exact⟨trivial,by omega,by omega⟩
  ·simp
theorem jhS(a b:vN):jba (a.drop (jba a b)) (b.drop (jba a b))=0:=by
 obtain⟨e,o,q⟩:=ja7 a b
 have:=jev a b (jba a b) e o q
 omega
theorem jqq:∀ (k:Nat) (a m b:vN),Lt a m->Lt m b->a.take k=b.take k->k<=a.length->k<=b.length->m.take k=a.take k/\k<=m.length
 | 0,a,m,b,_,_,_,_,_=>by simp
 | k+1,[],m,b,_,_,_,h,_=>by simp at h
 | k+1,x :: a,m,[],_,_,_,_,h=>by simp at h
 | k+1,x :: a,[],y :: b,h,_,_,_,_=>absurd h (not_lt_nil _)
 | k+1,x :: a,z :: m,y :: b,h1,h2,e,h4,h5=>by
  simp only[fF,List.cons.injEq]at e
  obtain⟨rfl,e⟩:=e
  have o:x=z:=by
   rcases jbx.1 h1 with h | h
   ·rcases jbx.1 h2 with h' | h'
    ·exact absurd (UInt8.lt_trans h h') (iF x)
    ·rw[h'.1]at h;exact absurd h (iF x)
   ·exact h.1
  subst o;have q:Lt a m:=by
   rcases jbx.1 h1 with h | h
   ·exact absurd h (iF x)
   ·exact h.2
  have E:Lt m b:=by
   rcases jbx.1 h2 with h | h
   ·exact absurd h (iF x)
   ·exact h.2
  obtain⟨H,J⟩:=jqq k a m b q E e (by simpa using h4) (by simpa using h5)
  simp only[fF,H,bQ]
  exact⟨trivial,by omega⟩
theorem jrG:∀ (k:Nat) (a b:vN),Lt a b->a.take k=b.take k->k<=a.length->k<=b.length->Lt (a.drop k) (b.drop k)
 | 0,a,b,h,_,_,_=>h
 | k+1,[],b,_,_,h,_=>by simp at h
 | k+1,x :: a,[],h,_,_,_=>absurd h (not_lt_nil _)
 | k+1,x :: a,y :: b,h,h1,h2,h3=>by
  simp only[fF,List.cons.injEq]at h1;rcases jbx.1 h with h | h
  ·rw[h1.1]at h;exact absurd h (iF y)
  ·exact jrG k a b h.2 h1.2 (by simpa using h2) (by simpa using h3)
abbrev Pair.l(p:Pair):vN:=p.1.data.toList
structure jaq(f:Nat)(l:vL):Prop where
 size:∀ p∈l,p.1.size<=f/\p.1.size<=12/\jaM p.1=true/\0 < p.2.size/\p.2.size<=80
 rise:l.Pairwise fun p q=>Lt p.l q.l
theorem jcD(b:vB)(k n:Nat)(h:b.size<=n):(b.extract k n).data.toList=b.data.toList.drop k:=by
 rw[fD,fW,fE,cD];rw[List.length_drop];have:b.data.toList.length=b.size:=rfl;omega
theorem jaZ(b:vB)(k:Nat):(b.extract k b.size).size=b.size - k:=by rw[dC];omega
theorem jbl{b:vB}(h:jaM b=true)(k n:Nat):jaM (b.extract k n)=true:=by
 unfold jaM at *;rw[dU]at *;intro x e;refine h x ?_;rw[fD,fW,fE]at e;exact List.mem_of_mem_drop (jA e)
def pd:Pair:=(⟨#[]⟩,⟨#[]⟩)
def comK(l:vL):Nat:=jap (l.getD 0 pd).1 (l.getD (l.length - 1) pd).1
theorem jcy{l:vL}{R:Pair->Pair->Prop}(h:l.Pairwise R){i j:Nat}{p q:Pair}(hij:i < j)(hi:l[i]?=some p)(hj:l[j]?=some q):R p q:=by
 obtain⟨e,rfl⟩:=bU.1 hi
 obtain⟨o,rfl⟩:=bU.1 hj
 exact gS.1 h i j e o hij
theorem jbq{f:Nat}{l:vL}(h:jaq f l)(h2:2<=l.length):∀ p∈l,p.l.take (comK l)=(l.getD 0 pd).l.take (comK l)/\comK l<=p.1.size:=by
 intro p J
 obtain⟨i,e⟩:=iD J
 have K:=(bU.1 e).1
 obtain⟨a,o⟩:∃ a,l[0]?=some a:=⟨_,bA vO⟩
 obtain⟨b,hb⟩:∃ b,l[l.length - 1]?=some b:=⟨_,bA vO⟩
 have q:l.getD 0 pd=a:=by rw[bH,o];rfl
 have O:l.getD (l.length - 1) pd=b:=by rw[bH,hb];rfl
 have Q:comK l=jba a.l b.l:=by unfold comK jap;rw[q,O]
 obtain⟨z,E,H⟩:=ja7 a.l b.l
 rw[Q,q]
 by_cases h0:i=0
 ·subst h0;rw[o]at e;obtain rfl:=bV e;exact⟨rfl,E⟩
 ·by_cases hn:i=l.length - 1
  ·subst hn;rw[hb]at e;obtain rfl:=bV e;exact⟨z.symm,H⟩
  ·exact jqq _ a.l p.l b.l (jcy h.rise vO o e) (jcy h.rise vO e hb) z E H
theorem jci{f:Nat}{l:vL}(k:Nat)(h:jaq f l)(hk:∀ p∈l,∀ q∈l,p.l.take k=q.l.take k)(hs:∀ p∈l,k<=p.1.size):jaq (f - k) (jag k l):=by
 refine⟨fun p e=>?_,?_⟩
 ·obtain⟨q,o,rfl⟩:=bC.1 e
  obtain⟨K,O,E,H,J⟩:=h.size q o
  refine⟨?_,?_,jbl E _ _,H,J⟩
  ·show (q.1.extract k q.1.size).size<=_;rw[jaZ];omega
  ·show (q.1.extract k q.1.size).size<=_;rw[jaZ];omega
 ·unfold jag
  rw[List.pairwise_map];refine List.Pairwise.imp_of_mem (fun {p q} e o z=>?_) h.rise;show Lt (p.1.extract k p.1.size).data.toList (q.1.extract k q.1.size).data.toList;rw[jcD _ _ _ (bM _),jcD _ _ _ (bM _)];exact jrG k _ _ z (hk p e q o) (hs p e) (hs q o)
theorem jbp{i:Nat}{l:vL}{p:Pair}(h:p∈cutL i l):p∈l/\∃ a r,p.l=a :: r/\a.toNat=i:=by
 obtain⟨o,e⟩:=cH.1 h
 refine⟨o,?_⟩
 unfold je4 at e;cases hp:p.1.data.toList with
 | nil=>rw[hp]at e;cases e
 | cons a r=>rw[hp]at e;exact⟨a,r,hp,by simpa using e⟩
theorem jqJ{f:Nat}{l:vL}(i:Nat)(h:jaq f l):jaq f (cutL i l):=
 ⟨fun p e=>h.size p (jbp e).1,List.Pairwise.filter _ h.rise⟩
theorem jdM{f:Nat}{l:vL}(i:Nat)(h:jaq f l):jaq (f - 1) (jag 1 (cutL i l)):=by
 refine jci 1 (jqJ i h) (fun p e q E=>?_) (fun p e=>?_)
 ·obtain⟨_,a,r,o,z⟩:=jbp e
  obtain⟨_,b,t,H,J⟩:=jbp E
  rw[o,H,dP.1 (z.trans J.symm)];rfl
 ·obtain⟨_,a,r,o,z⟩:=jbp e
  show 1<=p.1.data.toList.length;rw[show p.1.data.toList=a :: r from o];simp
def jak(B:vL->PT)(l:vL):jae:=
 if l.length=0 then jaV
 else if l.length=1 then ⟨1,(l.getD 0 pd).1,(l.getD 0 pd).2,jav 16⟩
 else if 0 < comK l then ⟨2,(l.getD 0 pd).1.extract 0 (comK l),⟨#[]⟩,refB (B (jag (comK l) l)).text :: jav 15⟩
 else ⟨3,⟨#[]⟩,if (l.getD 0 pd).1.size=0 then (l.getD 0 pd).2 else ⟨#[]⟩,(List.range 16).map fun i=>if (cutL i l).length=0 then ⟨#[]⟩else refB (B (jag 1 (cutL i l))).text⟩
def jan(B:vL->PT)(l:vL):List PT:=
 if l.length<=1 then []
 else if 0 < comK l then jbw (B (jag (comK l) l))
 else (List.range 16).flatMap fun i=>if (cutL i l).length=0 then []else jbw (B (jag 1 (cutL i l)))
def jab:Nat->vL->PT
 | 0,_=>.mk ⟨#[]⟩ []
 | f+1,l=>.mk (jaS (jak (jab f) l)) (jan (jab f) l)
theorem jaq.mono{f g:Nat}{l:vL}(h:jaq f l)(hg:f<=g):jaq g l:=⟨fun p e=>by obtain⟨q,o⟩:=h.size p e;exact⟨by omega,o⟩,h.rise⟩
theorem jiz:∀ (l:vM) (i j:Nat) (r:vB),l[j]?=some r->r.size≠0->(i+j,r)∈jaE i l
 | [],i,j,r,h,_=>by simp at h
 | x :: l,i,0,r,h,h0=>by
  simp at h;subst h;unfold jaE;rw[if_neg h0];exact bF ..
 | x :: l,i,j+1,r,h,h0=>by
  have:=jiz l (i+1) j r (by simpa using h) h0
  rw[show i+(j+1)=i+1+j by omega];unfold jaE;split
  ·exact this
  ·exact bD _ this
theorem jyI{α:Type}{a b:α}{l:List α}(ha:a∈l)(hb:b∈l)(h:a≠b):2<=l.length:=by
 match l,ha,hb with
 | [x],ha,hb =>
  rw[bS]at ha hb;exact absurd (ha.trans hb.symm) h
 | x :: y :: r,_,_=>simp
theorem jyr{α:Type}{a:α}{l:List α}(ha:a∈l):1<=l.length:=by cases l <;> simp at ha ⊢
structure jdC(f:Nat)(T:PT)(n:jae):Prop where
 text:T.text=jaS n
 good:jcg (InlD f) n
 kind:n.kind≠0
 small:T.text.size < 32->T.kids=[]
theorem jdC.may{f:Nat}{T:PT}{n:jae}(h:jdC f T n):MayP (InlD (f+1)) (refB T.text)/\(T.text.size < 32->InlD (f+1) (refB T.text) n):=by
 by_cases hs:T.text.size < 32
 ·have e:refB T.text=jaS n:=by unfold refB;rw[if_pos hs,h.text]
  have o:InlD (f+1) (refB T.text) n:=by rw[e];exact⟨h.good,rfl,by rw[<-h.text];exact hs,h.kind⟩
  exact⟨.inr ⟨n,o⟩,fun _=>o⟩
 ·exact⟨.inl ⟨shaB T.text,jbi _,by unfold refB;rw[if_neg hs]⟩,fun h=>absurd h hs⟩
theorem MayP.pos{f:Nat}{r:vB}(h:MayP (InlD f) r):r.size≠0:=by
 rcases h with h |⟨m,h⟩
 ·rw[h.size];omega
 ·exact (inlP f).pos r m h
theorem jdC.kid{f:Nat}{T:PT}{n:jae}(h:jdC f T n):jvv T:=by
 have e:=h.good.one (inlP f)
 refine⟨by have:=jpE n e;rw[h.text];omega,h.small,fun z=>?_⟩
 obtain⟨xs,o,q⟩:=jjp n e h.kind
 rw[h.text,o];exact jlp xs q
theorem juy{T:PT}(h:¬ T.text.size < 32):(refB T.text).size=33:=by
 have:jfH (refB T.text):=⟨shaB T.text,jbi _,by unfold refB;rw[if_neg h]⟩
 exact this.size
theorem jhx:∀ (l:vM) (x:vB),x∈l->x.size<=(catB l).size
 | y :: l,x,h=>by
  rw[jby];rcases bK.1 h with rfl | h
  ·omega
  ·have:=jhx l x h;omega
theorem jj9(xs:vM):(catB xs).size<=(jbY xs).size:=by unfold jbY;rw[cO];omega
theorem jja{k:Nat}{l:vL}{i:Nat}(h:i < l.length):(jag k l).getD i pd=((l.getD i pd).1.extract k (l.getD i pd).1.size,(l.getD i pd).2):=by
 unfold jag;rw[bH,cA,bH,bA h];rfl
theorem jaA(k:Nat)(l:vL):(jag k l).length=l.length:=by simp[jag]
theorem jgg{l:vL}(h:0 < l.length):comK (jag (comK l) l)=0:=by
 have e:comK (jag (comK l) l)=jba (((l.getD 0 pd).l).drop (comK l)) (((l.getD (l.length - 1) pd).l).drop (comK l)):=by
  conv=>lhs;unfold comK
  rw[jaA,jja h,jja vO];unfold jap;simp only;rw[jcD _ _ _ (bM _),jcD _ _ _ (bM _)];rfl
 rw[e];exact jhS _ _
theorem je2{p:Pair}(h:jaM p.1=true){a:vU}{r:vN}(hp:p.l=a :: r):a.toNat < 16:=by
 have:a<=15:=of_decide_eq_true (dU.1 h a (by rw[show p.1.data.toList=a :: r from hp];exact bF ..))
 have:=fT.1 this
 have e:(15:vU).toNat=15:=rfl;omega
theorem good:∀ (f:Nat) (l:vL),jaq f l->jcg (InlD f) (jak (jab f) l)/\(l≠[]->jdC f (jab (f+1) l) (jak (jab f) l))/\(2<=l.length->comK l=0->(jak (jab f) l).kind=3):=by
 intro f;induction f with
 | zero =>
  intro l h;have hl:l.length<=1:=by
   rcases fK l.length 2 with h2 | h2
   ·omega
   ·obtain⟨a,ha⟩:∃ a,l[0]?=some a:=⟨_,bA vO⟩
    obtain⟨b,hb⟩:∃ b,l[1]?=some b:=⟨_,bA vO⟩
    have o:=jcy h.rise vO ha hb
    have:=(h.size b (bI hb)).1
    rw[show b.l=[]from bE (by show b.1.size=0;omega)]at o;exact absurd o (not_lt_nil _)
  by_cases K:l.length=0
  ·have e:jak (jab 0) l=jaV:=by unfold jak;rw[if_pos K]
   rw[e]
   exact⟨.none,fun hn=>absurd (bE K) hn,fun h2=>by omega⟩
  ·have h1:l.length=1:=vO
   obtain⟨p,H⟩:=vE (l.getD 0 pd)
   have e:jak (jab 0) l=⟨1,p.1,p.2,jav 16⟩:=by unfold jak;rw[if_neg K,if_pos h1,H]
   have a3:p∈l:=by rw[H,bH,bA vO];exact fC _
   obtain⟨s1,s2,s3,s4,s5⟩:=h.size p a3
   have O:jcg (InlD 0) ⟨1,p.1,p.2,jav 16⟩:=.leaf p.1 p.2 (by simp[jae.pathOk,s2,s3]) s4 s5;rw[e]
   exact⟨O,fun _=>⟨by unfold jab;rw[e];rfl,O,by simp,fun _=>by unfold jab jan;rw[if_pos vO];rfl⟩,fun h2=>by omega⟩
 | succ f ih =>
  intro l h
  by_cases K:l.length=0
  ·have e:jak (jab (f+1)) l=jaV:=by unfold jak;rw[if_pos K]
   rw[e]
   exact⟨.none,fun hn=>absurd (bE K) hn,fun h2=>by omega⟩
  by_cases h1:l.length=1
  ·obtain⟨p,H⟩:=vE (l.getD 0 pd)
   have e:jak (jab (f+1)) l=⟨1,p.1,p.2,jav 16⟩:=by unfold jak;rw[if_neg K,if_pos h1,H]
   have a3:p∈l:=by rw[H,bH,bA vO];exact fC _
   obtain⟨s1,s2,s3,s4,s5⟩:=h.size p a3
   have O:jcg (InlD (f+1)) ⟨1,p.1,p.2,jav 16⟩:=.leaf p.1 p.2 (by simp[jae.pathOk,s2,s3]) s4 s5;rw[e]
   exact⟨O,fun _=>⟨by unfold jab;rw[e];rfl,O,by simp,fun _=>by unfold jab jan;rw[if_pos vO];rfl⟩,fun h2=>by omega⟩
  have h2:2<=l.length:=vO
  have E:=jbq h h2
  obtain⟨a,ha⟩:∃ a,l[0]?=some a:=⟨_,bA vO⟩
  obtain⟨b,hb⟩:∃ b,l[l.length - 1]?=some b:=⟨_,bA vO⟩
  have ga:l.getD 0 pd=a:=by rw[bH,ha];rfl
  have gb:l.getD (l.length - 1) pd=b:=by rw[bH,hb];rfl
  have o:=jcy h.rise vO ha hb
  obtain⟨c4,c5,b4,c6,b5⟩:=h.size a (bI ha)
  obtain⟨c7,c8,c9,d0,d1⟩:=h.size b (bI hb)
  by_cases hk:0 < comK l
  ·have b6:jaq f (jag (comK l) l):=(jci (comK l) h (fun p H q hq=>(E p H).1.trans (E q hq).1.symm) (fun p H=>(E p H).2)).mono vO
   obtain⟨_,i2,i3⟩:=ih _ b6
   have a9:=i2 (fun e=>by have:=jaA (comK l) l;rw[e]at this;simp at this;omega);have b7:=i3 (by rw[jaA];omega) (jgg vO);have e:jak (jab (f+1)) l=⟨2,a.1.extract 0 (comK l),⟨#[]⟩,refB (jab (f+1) (jag (comK l) l)).text :: jav 15⟩:=by unfold jak;rw[if_neg K,if_neg h1,if_pos hk,ga]
   have d2:=(E a (bI ha)).2;have b8:(a.1.extract 0 (comK l)).size=comK l:=by rw[dC];omega
   have O:jcg (InlD (f+1)) (jak (jab (f+1)) l):=by
    rw[e];refine .ext _ _ ?_ a9.may.1.pos ?_
    ·simp[jae.pathOk,b8,jbl b4];omega
    ·by_cases hs:(jab (f+1) (jag (comK l) l)).text.size < 32
     ·exact .inr ⟨_,a9.may.2 hs,b7⟩
     ·exact .inl ⟨_,jbi _,by unfold refB;rw[if_neg hs]⟩
   refine⟨O,fun _=>⟨rfl,O,by rw[e];simp,fun Q=>?_⟩,fun _ a4=>by omega⟩
   have X:(jab (f+1+1) l).kids=jbw (jab (f+1) (jag (comK l) l)):=by
    show jan (jab (f+1)) l=_;unfold jan;rw[if_neg vO,if_pos hk]
   rw[X];unfold jbw;rw[if_pos];rcases fK (jab (f+1) (jag (comK l) l)).text.size 32 with hx | hx
   ·exact hx
   ·have b9:=juy (T:=jab (f+1) (jag (comK l) l)) vO
    have ht:(jab (f+1+1) l).text=extB (jak (jab (f+1)) l):=by show jaS (jak (jab (f+1)) l)=_;rw[e];rfl
    rw[ht,e]at Q
    have:=jj9 [jaC (putB (a.1.extract 0 (comK l)) false),refB (jab (f+1) (jag (comK l) l)).text]
    have:=jhx [jaC (putB (a.1.extract 0 (comK l)) false),refB (jab (f+1) (jag (comK l) l)).text] _ (bD _ (bF ..))
    have a1:(jbY [jaC (putB (a.1.extract 0 (comK l)) false),refB (jab (f+1) (jag (comK l) l)).text]).size < 32:=Q;omega
  ·obtain⟨J,Z⟩:=vE ((List.range 16).map fun i=>if (cutL i l).length=0 then (⟨#[]⟩:vB)else refB (jab (f+1) (jag 1 (cutL i l))).text)
   have e:jak (jab (f+1)) l=⟨3,⟨#[]⟩,if a.1.size=0 then a.2 else ⟨#[]⟩,J⟩:=by unfold jak;rw[if_neg K,if_neg h1,if_neg hk,ga,Z]
   have a2:∀ i,(cutL i l).length≠0->jdC f (jab (f+1) (jag 1 (cutL i l))) (jak (jab f) (jag 1 (cutL i l))):=fun i hi =>
    (ih _ (jdM i h)).2.1 (fun e=>by have:=jaA 1 (cutL i l);rw[e]at this;simp at this;omega)
   have b0:J.length=16:=by rw[Z];simp
   have b1:∀ i,i < 16->J[i]?=some (if (cutL i l).length=0 then (⟨#[]⟩:vB)else refB (jab (f+1) (jag 1 (cutL i l))).text):=fun i hi=>by
    rw[Z,cA,dV hi];rfl
   have a6:∀ r∈J,r.size≠0->MayP (InlD (f+1)) r:=by
    intro r hr b2;rw[Z]at hr
    obtain⟨i,_,rfl⟩:=bC.1 hr
    by_cases hi:(cutL i l).length=0
    ·rw[if_pos hi]at b2;exact absurd rfl b2
    ·rw[if_neg hi];exact (a2 i hi).may.1
   have a5:∀ (p:Pair) (x:vU) (r:vN),p∈l->p.l=x :: r->∃ y,(x.toNat,y)∈jaE 0 J:=by
    intro p x r H b3;have hx:=je2 (h.size p H).2.2.1 b3;have hc:(cutL x.toNat l).length≠0:=by
     intro K;have hm:p∈cutL x.toNat l:=cH.2 ⟨H,by unfold je4;rw[show p.1.data.toList=x :: r from b3];simp⟩;rw[bE K]at hm;cases hm
    have h5:=b1 x.toNat hx;rw[if_neg hc]at h5
    have:=jiz J 0 x.toNat _ h5 (a2 _ hc).may.1.pos
    rw[cL]at this
    exact⟨_,this⟩
   have d3:comK l=jba a.l b.l:=by unfold comK jap;rw[ga,gb]
   have a4:jba a.l b.l=0:=vO
   have a0:2<=min (if a.1.size=0 then a.2 else (⟨#[]⟩:vB)).size 1+(jaE 0 J).length:=by
    cases hal:a.l with
    | nil =>
     have c0:a.1.size=0:=by show a.1.data.toList.length=0;rw[show a.1.data.toList=[]from hal];rfl
     rw[if_pos c0];cases hbl:b.l with
     | nil=>rw[hbl]at o;exact absurd o (not_lt_nil _)
     | cons y r =>
      obtain⟨z,hz⟩:=a5 b y r (bI hb) hbl
      have:=jyr hz
      omega
    | cons x r =>
     cases hbl:b.l with
     | nil=>rw[hbl]at o;exact absurd o (not_lt_nil _)
     | cons y t =>
      obtain⟨z,hz⟩:=a5 a x r (bI ha) hal
      obtain⟨z',c1⟩:=a5 b y t (bI hb) hbl
      have c2:x≠y:=by
       intro e;rw[hal,hbl,e]at a4;simp[jba]at a4
      have:=jyI hz c1 (fun e=>c2 (dP.1 (Prod.mk.inj e).1))
      omega
   have O:jcg (InlD (f+1)) (jak (jab (f+1)) l):=by
    rw[e];refine .branch _ _ b0 ?_ a6 a0;split
    ·exact b5
    ·exact cC _
   refine⟨O,fun _=>⟨rfl,O,by rw[e];simp,fun Q=>?_⟩,fun _ _=>by rw[e]⟩
   have X:(jab (f+1+1) l).kids=(List.range 16).flatMap fun i=>if (cutL i l).length=0 then []else jbw (jab (f+1) (jag 1 (cutL i l))):=by
    show jan (jab (f+1)) l=_;unfold jan;rw[if_neg vO,if_neg hk]
   rw[X,List.flatMap_eq_nil_iff];intro i hi;have a7:=dQ.1 hi
   by_cases hc:(cutL i l).length=0
   ·rw[if_pos hc]
   ·rw[if_neg hc]
    unfold jbw;rw[if_pos];rcases fK (jab (f+1) (jag 1 (cutL i l))).text.size 32 with hx | hx
    ·exact hx
    ·have b9:=juy (T:=jab (f+1) (jag 1 (cutL i l))) vO
     have ht:(jab (f+1+1) l).text=jeQ (jak (jab (f+1)) l):=by show jaS (jak (jab (f+1)) l)=_;rw[e];rfl
     rw[ht,e]at Q;have h6:=b1 i a7;rw[if_neg hc]at h6;have c3:jbM ⟨3,⟨#[]⟩,if a.1.size=0 then a.2 else ⟨#[]⟩,J⟩=jbG J (if a.1.size=0 then a.2 else ⟨#[]⟩):=jfj _ b0;have a8:refB (jab (f+1) (jag 1 (cutL i l))).text∈jbG J (if a.1.size=0 then a.2 else ⟨#[]⟩):=by
      unfold jbG;refine cN _ (bC.2 ⟨_,bI h6,?_⟩);rw[if_neg vO]
     have h7:=jhx _ _ a8;have h8:=jj9 (jbG J (if a.1.size=0 then a.2 else ⟨#[]⟩));have a1:(jbY (jbM ⟨3,⟨#[]⟩,if a.1.size=0 then a.2 else ⟨#[]⟩,J⟩)).size < 32:=Q;rw[c3]at a1;omega
def jhL(l:vL)(T:PT):Prop:=∀ (w:vW) (v:vV),jbS w->RdP w v l->vQ 70 #[v] w fun e w'=>∃ k,e=.returned (ptrV k)/\jbJ (fun x=>w.heap.size<=x) T k w'/\Ext w w'
theorem jtZ(w:vW)(W1 W2:vW)(bn:Nat)(h1:W1=w.alloc (.cells #[.string ⟨#[]⟩,.slice none 0 0] 170))(h2:Ext W1 W2)(h3:bn=W1.heap.size)(h4:bn < W2.heap.size):jdB w W2 w.heap.size bn ⟨#[]⟩ [] (.slice none 0 0) []:=by
 have q:W1.heap.size=w.heap.size+1:=by rw[h1,bN]
 have o:Ext w W2:=(by rw[h1]at h2;exact ((ExtR w).alloc _).trans h2)
 refine⟨?_,bM _,ORow.nil _ _ o,fun _=>rfl,fun e=>(by cases e),by omega,fun e=>(by cases e),by omega,h4,by unfold jaT;rfl⟩
 rw[h1]at h2;exact (Blk.new w _).keeps h2 (fun h=>h)
theorem jo7(f:Nat)(l:vL)(h0:l.length=0):jhL l (jab (f+1) l):=by
 intro w v hc hv
 obtain⟨a,c,O⟩:=hv.sl
 rw[h0]at O;subst O;have ht:jab (f+1) l=.mk (jaS jaV) []:=by
  show PT.mk (jaS (jak _ l)) (jan _ l)=_;unfold jak jan;rw[if_pos h0,if_pos vO]
 rw[ht];clear hv hc h0
 obtain⟨W1,q⟩:=vE (w.alloc (.cells #[.string ⟨#[]⟩,.slice none 0 0] 170))
 have Z:=Hd q;go_enter Tryz.func70,Tryz.ntmps70;go_wp2_with (first |(refine jal Tryz.allocNode rfl rfl ?_;intro W3 Q H;refine jah (vs:=jaV.cells) rfl rfl rfl rfl Q rfl Tryz.szNode (jae.one _) ?_;intro W4 z J;simp only[bN]at z J) |(refine jaf 132 (.tmp 4) rfl rfl _ _ rfl (jax _ _ jaV rfl z) ?_))
 have E:Ext W1 W4:=by
  rw[<-q]at H;exact H.trans' J (fun x hx e=>by have e:x=w.heap.size+1:=e;rw[q,bN]at hx;omega)
 have HH:=Hd (jtZ w W1 W4 (w.heap.size+1) q E (by rw[q,bN]) z.lt);have HG:=Hd (jcg.none (I:=InlD f));clear H J Q q Z ht;unfold jae.V;refine vH (jjq (inlP f) _ jaV HG.o) fun w9 hE=>?_;have X:=HH.o.ext hE;have q0:w9.cell? ⟨w.heap.size,0,none⟩=some (.string ⟨#[]⟩):=X.blk.cell (i:=0) vF;have f0:w9.frozen? ⟨w.heap.size,0,none⟩=false:=X.blk.frozen;have H9:=Hd (X.setText (jaS jaV))
 obtain⟨tx,K⟩:=vE (jaS jaV)
 rw[<-K]at H9 ⊢;have a0:=Hd K;clear X K z E;go_wp2_with fail
 go_ret
 exact⟨w.heap.size,rfl,by rw[<-a0.o];exact H9.o.part,H9.o.row.ext⟩
theorem jqx(f:Nat)(l:vL)(E:l.length=1)(hok:jaq f l):jhL l (jab (f+1) l):=by
 intro w v hc hv
 obtain⟨p,hp⟩:∃ p,l=[p]:=by
  match l,E with
  | [p],_=>exact⟨p,rfl⟩
 have hn:jak (jab f) l=⟨1,p.1,p.2,jav 16⟩:=by unfold jak;rw[if_neg vO,if_pos E,hp];rfl
 have q:=(good f l hok).1;rw[hn]at q;have ht:jab (f+1) l=.mk (jaS ⟨1,p.1,p.2,jav 16⟩) []:=by
  show PT.mk (jaS (jak _ l)) (jan _ l)=_;rw[hn];unfold jan;rw[if_pos vO]
 obtain⟨T,hT⟩:=vE (jab (f+1) l)
 rw[<-hT]at ht ⊢;have HT:=Hd ht;rcases hv with⟨_,_,_,h0⟩ |⟨b,o,c,rfl,hb,hcl,hcell⟩
 ·rw[h0]at E;cases E
 obtain⟨q1,q2⟩:=hcell 0 p (by rw[hp];rfl)
 rw[Nat.zero_mul,gQ]at q1 q2;rw[E]at hcl ⊢
 obtain⟨x,y⟩:=p
 have q:=q;have Q1:=Hd q1;have Q2:=Hd q2;have HG:=Hd q
 obtain⟨W1,z⟩:=vE (w.alloc (.cells #[.string ⟨#[]⟩,.slice none 0 0] 170))
 clear hc E hok hp hn q ht hT hcell q1 q2;go_enter Tryz.func70,Tryz.ntmps70;go_wp2_with (refine jal Tryz.allocNode rfl rfl ?_;intro W3 a0 Q;refine jah (vs:=jaV.cells) rfl rfl rfl rfl a0 rfl Tryz.szNode (jae.one _) ?_;intro W4 H X;simp only[bN]at H X)
 have O:Ext W1 W4:=by
  rw[<-z]at Q;exact Q.trans' X (fun x hx e=>by have e:x=w.heap.size+1:=e;rw[z,bN]at hx;omega)
 have hh:=jtZ w W1 W4 (w.heap.size+1) z O (by rw[z,bN]) H.lt;have J:=Hd hh;have a1:=Hd H;clear Q X a0 z H O hh;refine jar [0,1,2,3,4,5,6,7,8,9] [9] Ext ExtR ExtT vY vY vY ?_;iterate 3 refine vP ?_
 refine qL ⟨b,o,none⟩ _ rfl (fun w1 E=>jac Tryz.uStr rfl (jaa (jaa (by exact Q1.o) (J.o.row.ext.trans (jaj _))) E)) ?_;refine vS ?_;iterate 3 refine vP ?_
 refine qL ⟨b,o+1,none⟩ _ rfl (fun w1 E=>jac Tryz.uStr rfl (jaa (jaa (by exact Q2.o) (J.o.row.ext.trans (jaj _))) E)) ?_;refine vS ?_
 refine vP ?_
 refine qH _ rfl (fun w5 he K hK=>?_);have hX:=(jaj W4).trans he;refine jkJ (vs:=jb5 1 x y ⟨#[]⟩) rfl rfl rfl (a1.o.keeps hX (fun h=>h)) rfl Tryz.szNode (jb6 _ _ _ _) ?_;intro W6 a2 a3;have H6:=Hd ((J.o.ext hX).other a3);have a4:=Hd (show Blk W6 (w.heap.size+1) (.cells (jae.cells ⟨1,x,y,jav 16⟩).toArray 132)from a2);clear he hX a2 a3 Q1 Q2 a1 J;refine vS ?_;refine hK _ _ ?_;clear hK K;refine qE (fun w7 he=>?_);have HH:=Hd (H6.o.ext he);have a5:=a4.o.keeps he (fun h=>h);clear he a4 H6;go_wp2_with (refine jaf 132 (.tmp 4) rfl rfl _ _ rfl (jax _ _ ⟨1,x,y,jav 16⟩ rfl a5) ?_)
 refine vH (jjq (inlP _) _ ⟨1,x,y,jav 16⟩ HG.o) fun w9 hE=>?_;have h9:=HH.o.ext hE;have q0:w9.cell? ⟨w.heap.size,0,none⟩=some (.string ⟨#[]⟩):=h9.blk.cell (i:=0) vF;have f0:w9.frozen? ⟨w.heap.size,0,none⟩=false:=h9.blk.frozen;have H9:=Hd (h9.setText (jaS ⟨1,x,y,jav 16⟩))
 obtain⟨tx,Z⟩:=vE (jaS ⟨1,x,y,jav 16⟩)
 rw[<-Z]at H9 ⊢;have a6:=Hd Z;clear h9 Z;go_wp2_with fail
 go_ret
 exact⟨w.heap.size,rfl,by rw[HT.o, <-a6.o];exact H9.o.part,H9.o.row.ext⟩
theorem jqw(f:Nat)(l:vL)(K:2<=l.length)(hln:l.length<=1000)(hok:jaq (f+1) l)(hk:0 < comK l)(HB:jhL (jag (comK l) l) (jab (f+1) (jag (comK l) l))):jhL l (jab (f+1+1) l):=by
 intro w v hc hv
 obtain⟨a,ha⟩:∃ a,l[0]?=some a:=⟨_,bA vO⟩
 obtain⟨z,hz⟩:∃ z,l[l.length - 1]?=some z:=⟨_,bA vO⟩
 have ga:l.getD 0 pd=a:=by rw[bH,ha];rfl
 have gz:l.getD (l.length - 1) pd=z:=by rw[bH,hz];rfl
 obtain⟨f5,f6,d3,f7,f8⟩:=hok.size a (bI ha)
 obtain⟨f9,g0,d4,g1,g2⟩:=hok.size z (bI hz)
 have H:=(good (f+1) l hok).1;have d5:=hv;rcases hv with⟨_,_,_,h0⟩ |⟨b,o,c,rfl,hb,hcl,hcell⟩
 ·rw[h0]at K;simp at K
 obtain⟨q1,b4⟩:=hcell 0 a ha
 rw[Nat.zero_mul,gQ]at q1 b4
 obtain⟨q2,_⟩:=hcell (l.length - 1) z hz
 obtain⟨E,O⟩:=vE (comK l)
 have b5:E=jap a.1 z.1:=by rw[O];unfold comK;rw[ga,gz]
 obtain⟨x,y⟩:=a
 obtain⟨xb,yb⟩:=z
 simp only at f5 f6 d3 f7 f8 f9 g0 d4 g1 g2 q1 b4 q2 b5;have Z:=jci (comK l) hok (fun p hp q hq=>((jbq hok K p hp).1).trans (jbq hok K q hq).1.symm) (fun p hp=>(jbq hok K p hp).2);have a5:=(jbq hok K (x,y) (bI ha)).2;have d6:∀ p∈l,E<=p.1.size/\p.1.size<=1000000:=fun p hp=>⟨by rw[O];exact (jbq hok K p hp).2,by have:=(hok.size p hp).2.1;omega⟩;rw[<-O]at hk Z a5 HB;have a5:E<=x.size:=a5
 obtain⟨T',a6⟩:∃ T',T'=jab (f+1) (jag E l):=⟨_,rfl⟩
 have b6:=(good f _ (Z.mono vO)).2.1 (fun e=>by have:=jaA E l;rw[e]at this;simp at this;omega);rw[<-a6]at HB b6
 obtain⟨r,hr⟩:=vE (refB T'.text)
 have hn:jak (jab (f+1)) l=⟨2,x.extract 0 E,⟨#[]⟩,r :: jav 15⟩:=by unfold jak;rw[if_neg vO,if_neg vO, <-O,if_pos hk,ga, <-a6, <-hr]
 rw[hn]at H;have ht:jab (f+1+1) l=.mk (jaS ⟨2,x.extract 0 E,⟨#[]⟩,r :: jav 15⟩) (jbw T'):=by
  show PT.mk (jaS (jak _ l)) (jan _ l)=_;rw[hn];unfold jan;rw[if_neg vO, <-O,if_pos hk, <-a6]
 obtain⟨T,hT⟩:=vE (jab (f+1+1) l)
 rw[<-hT]at ht ⊢;have c0:((l.length:Int) == 0)=false:=by simp;exact fun e=>by rw[e]at K;simp at K
 have c1:¬(l.length:Int)=0:=vO
 have c2:((l.length:Int) == 1)=false:=by simp;omega
 have c3:¬(l.length:Int)=1:=vO
 have c4:(0:Int)<=(l.length:Int) - 1:=vO
 have c5:(l.length:Int) - 1 < (l.length:Int):=vO
 have c6:((l.length:Int) - 1).toNat=l.length - 1:=vO
 have c7:(0:Int) < (l.length:Int):=vO
 have d7:0 < l.length:=vO
 have d0:0 < E:=hk;have e0:(0:Int) < (E:Int):=vO
 have e1:(E:Int)<=(x.size:Int):=vO
 have e2:(x.extract 0 E).size=E:=by rw[dC];omega
 have HT:=Hd ht;have Q1:=Hd q1;have Q2:=Hd q2;have d8:=Hd b5;have HG:=Hd H;have g3:=Hd d5;have g4:=Hd d6;have c9:=Hd b6.kid;have HR:=Hd hr;have g5:=Hd HB;have HC:=Hd hc;have HL:=Hd (show jag E l≠[]from fun e=>by have:=jaA E l;rw[e]at this;simp at this;omega);have g6:=Hd (show (jag E l).length<=1000000 by rw[jaA];omega);clear hc ha hz ga gz hok H d5 hcell q1 b4 q2 O b5 Z a5 d6 a6 b6 hr hn ht hT HB d3 d4 e2
 obtain⟨W1,a0⟩:=vE (w.alloc (.cells #[.string ⟨#[]⟩,.slice none 0 0] 170))
 go_enter Tryz.func70,Tryz.ntmps70;go_wp2_with (refine jal Tryz.allocNode rfl rfl ?_;intro W3 d9 b7;refine jah (vs:=jaV.cells) rfl rfl rfl rfl d9 rfl Tryz.szNode (jae.one _) ?_;intro W4 a7 b8;simp only[bN]at a7 b8)
 have a1:Ext W1 W4:=by
  rw[<-a0]at b7;exact b7.trans' b8 (fun x hx e=>by have e:x=w.heap.size+1:=e;rw[a0,bN]at hx;omega)
 have hh:=jtZ w W1 W4 (w.heap.size+1) a0 a1 (by rw[a0,bN]) a7.lt;have e3:=Hd hh;have e4:=Hd a7;have X:=Hd hh.row.ext;clear b7 b8 d9 a0 a7 a1 hh;refine jai [0,1,2,3,4,5,6,7,8,9,10,11,12,13] Ext ExtR ExtT vY vY vY ?_;iterate 3 refine vK ?_
 refine qKL ⟨b,o,none⟩ _ rfl (fun w1 Q=>jac Tryz.uStr rfl (jaa (jaa (by exact Q1.o) (X.o.trans (jaj _))) Q)) ?_;refine vS ?_;iterate 6 refine vK ?_
 refine qKL ⟨b,o+(l.length - 1) * 2,none⟩ _ rfl (fun w1 Q=>jac Tryz.uStr rfl (jaa (jaa (by exact Q2.o) (X.o.trans (jaj _))) Q)) ?_;refine vS ?_;refine qKC _ 110 #[.string x,.string xb] (.int .i64 (E:Nat)) rfl (fun w1=>jaB (vX 110) vY) (fun w1 Q=>by rw[d8.o];exact (jfn w1 x xb vO vO).mono (fun e w2 ⟨Q,n,K⟩=>⟨Q,by rw[K];exact (ExtR w1).drewN n⟩)) ?_;refine vS ?_;iterate 2 refine vK ?_
 refine qKE (fun w5 he=>?_);have a9:=(jaj W4).trans he;have e5:=Hd (e3.o.ext a9);have e6:=Hd (e4.o.keeps a9 (fun h=>h));have X:=Hd (X.o.trans a9);clear he a9 e3 e4;go_wp2_with fail
 refine jai [0,1,2,3,4,5,6,7,8,9,10,11,12] Ext ExtR ExtT vY vY vY ?_;iterate 3 refine vK ?_
 refine qKL ⟨b,o,none⟩ _ rfl (fun w1 Q=>jac Tryz.uStr rfl (jaa (jaa (by exact Q1.o) (X.o.trans (jaj _))) Q)) ?_;refine vS ?_;iterate 6 refine vK ?_
 refine qKL ⟨b,o+(l.length - 1) * 2,none⟩ _ rfl (fun w1 Q=>jac Tryz.uStr rfl (jaa (jaa (by exact Q2.o) (X.o.trans (jaj _))) Q)) ?_;refine vS ?_;refine qKC _ 110 #[.string x,.string xb] (.int .i64 (E:Nat)) rfl (fun w1=>jaB (vX 110) vY) (fun w1 Q=>by rw[d8.o];exact (jfn w1 x xb vO vO).mono (fun e w2 ⟨Q,n,K⟩=>⟨Q,by rw[K];exact (ExtR w1).drewN n⟩)) ?_;refine vS ?_
 refine vK ?_
 refine qKE (fun w6 he=>?_);have b0:=(jaj w5).trans he;have g7:=Hd (e5.o.ext b0);have e7:=e6.o.keeps b0 (fun h=>h);have X:=Hd (X.o.trans b0);have q6:=jaa Q1.o X.o;clear he b0 e5 e6;go_wp2_with (refine jah (vs:=jb5 2 (x.extract 0 E) ⟨#[]⟩ ⟨#[]⟩) rfl rfl rfl rfl e7 rfl Tryz.szNode (jb6 _ _ _ _) ?_;intro W7 e8 e9)
 have f1:=Hd (g7.o.other e9);have g8:=Hd e8;clear e8 e9 e7 q6;have X:=Hd f1.o.row.ext;refine (jmf W7 _ E l (g3.o.ext X.o) vO g4.o).mono ?_;rintro e w8 ⟨v8,rfl,b1⟩;have b2:Ext W7 w8:=b1.ext;have g9:=Hd (f1.o.ext b2);have h3:=Hd (g8.o.keeps b2 (fun h=>h));have a2:=Hd b1.rd;have f2:=HC.o.ext (X.o.trans b2)
 obtain⟨a8,c8,h4⟩:=b1.sl
 subst h4;clear b1 b2;go_wp2_with fail
 refine (jvh f2 g9.o (by simp) _ (jag E l) a2.o HL.o g6.o T' c9.o (g5.o w8 _ f2 a2.o)).mono ?_;rintro e b3 ⟨u,bs,rfl,f4,h6,d1,a3⟩;rw[<-HR.o];have J:=h3.o.keeps a3 (by rintro (h | h) <;> first | omega | cases h);have q3:b3.cell? ⟨w.heap.size+1,3,none⟩=some (.string ⟨#[]⟩):=J.cell (i:=3) vF;have f3:b3.frozen? ⟨w.heap.size+1,3,none⟩=false:=J.frozen;have a4:=J.set_same (i:=3) (.string r);have d2:Hid (Blk (b3.setCell ⟨w.heap.size+1,3,none⟩ (.string r)) (w.heap.size+1) (.cells (jae.cells ⟨2,x.extract 0 E,⟨#[]⟩,r :: jav 15⟩).toArray 132)):=Hd a4;have HH:=Hd (f4.other (jad.oneSet b3 ⟨w.heap.size+1,3,none⟩ (.string r)));clear f4 d1 a3 J a4;go_wp2_with (refine jaf 132 (.tmp 4) rfl rfl _ _ rfl (jax _ _ ⟨2,x.extract 0 E,⟨#[]⟩,r :: jav 15⟩ rfl d2.o) ?_)
 refine vH (jjq (inlP _) _ ⟨2,x.extract 0 E,⟨#[]⟩,r :: jav 15⟩ HG.o) fun w9 hE=>?_;have h9:=HH.o.ext hE;have q0:w9.cell? ⟨w.heap.size,0,none⟩=some (.string ⟨#[]⟩):=h9.blk.cell (i:=0) vF;have f0:w9.frozen? ⟨w.heap.size,0,none⟩=false:=h9.blk.frozen;have H9:=Hd (h9.setText (jaS ⟨2,x.extract 0 E,⟨#[]⟩,r :: jav 15⟩))
 obtain⟨tx,b9⟩:=vE (jaS ⟨2,x.extract 0 E,⟨#[]⟩,r :: jav 15⟩)
 rw[<-b9]at H9 ⊢;have h5:=Hd b9;clear h9 b9;go_wp2_with fail
 go_ret
 exact⟨w.heap.size,rfl,by rw[HT.o, <-h5.o];exact H9.o.part,H9.o.row.ext⟩
end Go.Proofs.YtmobgkphhbmhbaaGreatDoor
