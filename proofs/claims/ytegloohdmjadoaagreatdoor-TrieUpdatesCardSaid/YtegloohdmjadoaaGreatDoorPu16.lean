/- Lemmas; each is under no condition but those that it states. -/
import Derived.Test.YtegloohdmjadoaaGreatDoorPu15
import Derived.Laws.Cover1
namespace Go.Proofs.YtegloohdmjadoaaGreatDoor
set_option linter.unusedSimpArgs false
set_option linter.unusedVariables false
set_option maxRecDepth 100000
set_option maxHeartbeats 16000000
open Go Go.RowKit
abbrev Pair:=vB × vB
abbrev vL:=List Pair
def jcg(k:vB):Bool:=decide (0 < k.size/\k.size<=6)
def jbR(k:vB):Bool:=decide (0 < k.size/\k.size<=80)
theorem jbj{s:vB}(h:s.size=0):s=⟨#[]⟩:=by
 obtain⟨⟨l⟩⟩:=s
 cases l with
 | nil=>rfl
 | cons x y=>exact absurd h (iA _)
theorem jg9(w:vW)(k:vB)(hs:k.size<=9223372036854775807):vQ 55 #[.string k] w fun e w'=>e=.returned (.bool (jcg k))/\w'=w:=by
 by_cases h0:k.size=0
 ·have:=jbj h0
  subst this;go_enter Tryz.func55,Tryz.ntmps55;go_wp2_with fail
  go_ret
  exact⟨rfl,rfl⟩
 ·have m:=jbe (s:=k) vO
  by_cases h6:k.size<=6
  ·have c:(k.size:Int)<=6:=vO
   have e:jcg k=true:=by unfold jcg;simp;omega
   have E:=Hd e;clear e;go_enter Tryz.func55,Tryz.ntmps55;go_wp2_with fail
   go_ret
   exact⟨by rw[E.o];rfl,rfl⟩
  ·have c:¬(k.size:Int)<=6:=vO
   have e:jcg k=false:=by unfold jcg;simp;omega
   have E:=Hd e;clear e;go_enter Tryz.func55,Tryz.ntmps55;go_wp2_with fail
   go_ret
   exact⟨by rw[E.o];rfl,rfl⟩
theorem jgH(w:vW)(k:vB)(hs:k.size<=9223372036854775807):vQ 56 #[.string k] w fun e w'=>e=.returned (.bool (jbR k))/\w'=w:=by
 by_cases h0:k.size=0
 ·have:=jbj h0
  subst this;go_enter Tryz.func56,Tryz.ntmps56;go_wp2_with fail
  go_ret
  exact⟨rfl,rfl⟩
 ·have m:=jbe (s:=k) vO
  by_cases h6:k.size<=80
  ·have c:(k.size:Int)<=80:=vO
   have e:jbR k=true:=by unfold jbR;simp;omega
   have E:=Hd e;clear e;go_enter Tryz.func56,Tryz.ntmps56;go_wp2_with fail
   go_ret
   exact⟨by rw[E.o];rfl,rfl⟩
  ·have c:¬(k.size:Int)<=80:=vO
   have e:jbR k=false:=by unfold jbR;simp;omega
   have E:=Hd e;clear e;go_enter Tryz.func56,Tryz.ntmps56;go_wp2_with fail
   go_ret
   exact⟨by rw[E.o];rfl,rfl⟩
def RdP(w:vW)(v:vV)(xs:vL):Prop:=
 (∃ a c,v=.slice a 0 c/\xs=[])\/∃ b o c,v=.slice (some ⟨b,o,none⟩) xs.length c/\b < w.heap.size/\xs.length<=c/\∀ (j:Nat) x,xs[j]?=some x->w.cell? ⟨b,o+j * 2,none⟩=some (.string x.1)/\w.cell? ⟨b,o+j * 2+1,none⟩=some (.string x.2)
theorem RdP.ext{w w':vW}{v:vV}{xs:vL}(h:RdP w v xs)(k:Ext w w'):RdP w' v xs:=by
 rcases h with h |⟨b,o,c,h1,h2,h3,h4⟩
 ·exact .inl h
 ·exact .inr ⟨b,o,c,h1,bJ h2 k.size,h3,fun j x e=>⟨jaa (h4 j x e).1 k,jaa (h4 j x e).2 k⟩⟩
theorem RdP.sl{w:vW}{v:vV}{xs:vL}(h:RdP w v xs):∃ a c,v=.slice a xs.length c:=by
 rcases h with⟨a,c,h1,h2⟩ |⟨b,o,c,h1,_⟩
 ·exact⟨a,c,by rw[h1,h2];rfl⟩
 ·exact⟨_,c,h1⟩
def Pair.V(p:Pair):vV:=.agg #[.string p.1,.string p.2]
def badN(l:vL)(i:Nat):Bool := !jcg (l.getD i (⟨#[]⟩,⟨#[]⟩)).1 || !jbR (l.getD i (⟨#[]⟩,⟨#[]⟩)).2 ||(decide (0 < i) && !jch (l.getD (i - 1) (⟨#[]⟩,⟨#[]⟩)).1 (l.getD i (⟨#[]⟩,⟨#[]⟩)).1)
def jaD(l:vL):Int:=if (List.range l.length).any (badN l)then 1 else if 40 < l.length then 12 else 0
def jyh(w:vW)(l:vL)(i:vV)(wr:vW):Prop:=∃ k:Nat,k<=l.length/\i=.int .i64 k/\Ext w wr/\(List.range k).any (badN l)=false
theorem jgV(w:vW)(v:vV)(l:vL)(hv:RdP w v l)(hn:l.length<=9223372036854775807)(hs:∀ p∈l,p.1.size<=9223372036854775807/\p.2.size<=9223372036854775807):vR 28 #[v] w (.int .i64 (jaD l)):=by
 obtain⟨a,c,b2⟩:=hv.sl
 have HV:=Hd hv;have HS:=Hd hs;subst b2;clear hv hs;go_enter Tryz.func28,Tryz.ntmps28;go_wp2_with fail
 go_loopw [7] (fun i wr=>jyh w l i wr) (fun i _=>l.length - (intOf i).toNat)
 case atStart=>exact⟨0,by omega,rfl,ExtR w,rfl⟩
 case round =>
  obtain⟨k,hk,rfl,hE,a6⟩:=hrel
  have HE:=Hd hE;have a1:=Hd a6;clear hE a6
  by_cases hlt:k < l.length
  ·rcases HV.o with⟨_,_,_,h0⟩ |⟨b,o,c',hh,hb,hc,hcell⟩
   ·rw[h0]at hlt;cases hlt
   cases hh
   obtain⟨p,hp⟩:∃ p,l[k]?=some p:=⟨_,bA hlt⟩
   obtain⟨q1,q2⟩:=hcell k p hp
   have q1:=jaa q1 HE.o;have q2:=jaa q2 HE.o;have b1:(k:Int) < (l.length:Int):=vO
   obtain⟨x,y⟩:=p
   simp only at q1 q2;have K:l.getD k (⟨#[]⟩,⟨#[]⟩)=(x,y):=by rw[bC,hp];rfl
   have Z:=HS.o (x,y) (bE hp);have a5:=Hd Z.1;have a7:=Hd Z.2;have a2:(wr.alloc (.cells #[.string x,.string y] 59)).cell? ⟨wr.heap.size,0,none⟩=some (.string x):=(Blk.new wr _).cell vF;have a3:(wr.alloc (.cells #[.string x,.string y] 59)).cell? ⟨wr.heap.size,1,none⟩=some (.string y):=(Blk.new wr _).cell vF;have Q0:=Hd a2;have Q1:=Hd a3;have A:badN l k=true->jaD l=1:=fun h=>by
    unfold jaD;rw[if_pos (gO.2 ⟨k,dZ.2 hlt,h⟩)]
   have H:badN l k=false->(List.range (k+1)).any (badN l)=false:=fun h=>by
    rw[fT,List.any_append,a1.o];simp[h]
   cases hk1:jcg x with
   | false =>
    have X:=Hd (A (by unfold badN;rw[K,hk1];rfl));have HK:=Hd hk1;clear hk1 K Z a2 a3 A H hcell hp;go_wp2_with fail
    refine jah (List.range 25) Ext ExtR ExtT vY vY vY ?_;simp only[List.range,List.range.loop]
    refine vK ?_
    refine qKL ⟨wr.heap.size,0,none⟩ _ rfl (fun O m=>jab Tryz.uStr rfl (jaa (by exact Q0.o) m)) ?_;refine vS ?_;refine qKC _ 55 #[.string x] (.bool false) rfl (fun w1=>jat (vX 55) vY) (fun w1 J=>(jg9 w1 x (by have:=a5.o;omega)).mono (fun e O ⟨J,m⟩=>⟨by rw[J,HK.o],m ▸ ExtR w1⟩)) ?_;refine vS ?_;iterate 2 refine vK ?_
    iterate 4 (refine qKS _ rfl ?_;refine vS ?_)
    iterate 2 refine vK ?_
    iterate 3 (refine qKS _ rfl ?_;refine vS ?_)
    iterate 9 (refine qKS _ rfl ?_;refine vS ?_)
    (refine qKS _ rfl ?_;refine vS ?_)
    refine vK ?_
    refine qKE (fun w3 he=>?_);have Q:=Hd (((HE.o.alloc _).trans (jai _)).trans he);clear he;go_wp2_with fail
    go_ret
    exact⟨by rw[X.o];rfl,Q.o⟩
   | true =>
    cases hv1:jbR y with
    | false =>
     have X:=Hd (A (by unfold badN;rw[K,hk1,hv1];rfl));have HK:=Hd hk1;have a4:=Hd hv1;clear hk1 hv1 K Z a2 a3 A H hcell hp;go_wp2_with fail
     refine jah (List.range 25) Ext ExtR ExtT vY vY vY ?_;simp only[List.range,List.range.loop]
     refine vK ?_
     refine qKL ⟨wr.heap.size,0,none⟩ _ rfl (fun O m=>jab Tryz.uStr rfl (jaa (by exact Q0.o) m)) ?_;refine vS ?_;refine qKC _ 55 #[.string x] (.bool true) rfl (fun w1=>jat (vX 55) vY) (fun w1 J=>(jg9 w1 x (by have:=a5.o;omega)).mono (fun e O ⟨J,m⟩=>⟨by rw[J,HK.o],m ▸ ExtR w1⟩)) ?_;refine vS ?_;iterate 3 refine vK ?_
     refine qKL ⟨wr.heap.size,1,none⟩ _ rfl (fun O m=>jab Tryz.uStr rfl (jaa (by exact Q1.o) m)) ?_;refine vS ?_;refine qKC _ 56 #[.string y] (.bool false) rfl (fun w1=>jat (vX 56) vY) (fun w1 J=>(jgH w1 y (by have:=a7.o;omega)).mono (fun e O ⟨J,m⟩=>⟨by rw[J,a4.o],m ▸ ExtR w1⟩)) ?_;refine vS ?_;iterate 3 refine vK ?_
     iterate 3 (refine qKS _ rfl ?_;refine vS ?_)
     iterate 9 (refine qKS _ rfl ?_;refine vS ?_)
     (refine qKS _ rfl ?_;refine vS ?_)
     refine vK ?_
     refine qKE (fun w3 he=>?_);have Q:=Hd (((HE.o.alloc _).trans (jai _)).trans he);clear he;go_wp2_with fail
     go_ret
     exact⟨by rw[X.o];rfl,Q.o⟩
    | true =>
     by_cases hk0:k=0
     ·have a0:=Hd (H (by unfold badN;rw[K,hk1,hv1,hk0];rfl))
      subst hk0;rw[iI,fX]at q1 q2;have HK:=Hd hk1;have a4:=Hd hv1;clear hk1 hv1 K Z a2 a3 A H hcell hp;go_wp2_with fail
      refine jah (List.range 25) Ext ExtR ExtT vY vY vY ?_;simp only[List.range,List.range.loop]
      refine vK ?_
      refine qKL ⟨wr.heap.size,0,none⟩ _ rfl (fun O m=>jab Tryz.uStr rfl (jaa (by exact Q0.o) m)) ?_;refine vS ?_;refine qKC _ 55 #[.string x] (.bool true) rfl (fun w1=>jat (vX 55) vY) (fun w1 J=>(jg9 w1 x (by have:=a5.o;omega)).mono (fun e O ⟨J,m⟩=>⟨by rw[J,HK.o],m ▸ ExtR w1⟩)) ?_;refine vS ?_;iterate 3 refine vK ?_
      refine qKL ⟨wr.heap.size,1,none⟩ _ rfl (fun O m=>jab Tryz.uStr rfl (jaa (by exact Q1.o) m)) ?_;refine vS ?_;refine qKC _ 56 #[.string y] (.bool true) rfl (fun w1=>jat (vX 56) vY) (fun w1 J=>(jgH w1 y (by have:=a7.o;omega)).mono (fun e O ⟨J,m⟩=>⟨by rw[J,a4.o],m ▸ ExtR w1⟩)) ?_;refine vS ?_;iterate 6 refine vK ?_
      iterate 9 (refine qKS _ rfl ?_;refine vS ?_)
      iterate 2 refine vK ?_
      refine qKE (fun w3 he=>?_);have Q:=Hd (((HE.o.alloc _).trans (jai _)).trans he);clear he;go_wp2_with fail
      go_roundw
      case rel=>exact⟨0+1,by omega,by go_num,Q.o,a0.o⟩
      case measure=>exact vJ
     ·obtain⟨pp,a8⟩:∃ p,l[k - 1]?=some p:=⟨_,bA vO⟩
      obtain⟨z,zy⟩:=pp
      have b0:=jaa (jaa (hcell (k - 1) (z,zy) a8).1 HE.o) ((ExtR wr).alloc (.cells #[.string x,.string y] 59));have QP:=Hd b0;have a9:l.getD (k - 1) (⟨#[]⟩,⟨#[]⟩)=(z,zy):=by rw[bC,a8];rfl
      have c0:(0:Int) < (k:Int):=vO
      have d0:0 < k:=vO
      have c1:(0:Int)<=(k:Int) - 1:=vO
      have c2:(k:Int) - 1 < (l.length:Int):=vO
      have c3:((k:Int) - 1).toNat=k - 1:=vO
      have HK:=Hd hk1;have a4:=Hd hv1;cases hls:Op.bytesLess z.toList x.toList with
      | false =>
       have X:=Hd (A (by unfold badN jch;rw[K,hk1,hv1,a9];simp only;rw[hls];simp;omega));clear hk1 hv1 K Z a2 a3 A H hcell hp hk0 a8 b0 a9;go_wp2_with fail
       refine jah (List.range 25) Ext ExtR ExtT vY vY vY ?_;simp only[List.range,List.range.loop]
       refine vK ?_
       refine qKL ⟨wr.heap.size,0,none⟩ _ rfl (fun O m=>jab Tryz.uStr rfl (jaa (by exact Q0.o) m)) ?_;refine vS ?_;refine qKC _ 55 #[.string x] (.bool true) rfl (fun w1=>jat (vX 55) vY) (fun w1 J=>(jg9 w1 x (by have:=a5.o;omega)).mono (fun e O ⟨J,m⟩=>⟨by rw[J,HK.o],m ▸ ExtR w1⟩)) ?_;refine vS ?_;iterate 3 refine vK ?_
       refine qKL ⟨wr.heap.size,1,none⟩ _ rfl (fun O m=>jab Tryz.uStr rfl (jaa (by exact Q1.o) m)) ?_;refine vS ?_;refine qKC _ 56 #[.string y] (.bool true) rfl (fun w1=>jat (vX 56) vY) (fun w1 J=>(jgH w1 y (by have:=a7.o;omega)).mono (fun e O ⟨J,m⟩=>⟨by rw[J,a4.o],m ▸ ExtR w1⟩)) ?_;refine vS ?_;iterate 11 refine vK ?_
       refine qKL ⟨b,o+(k - 1) * 2,none⟩ _ rfl (fun O m=>jab Tryz.uStr rfl (jaa (by exact QP.o) m)) ?_;refine vS ?_
       refine vK ?_
       refine qKL ⟨wr.heap.size,0,none⟩ _ rfl (fun O m=>jab Tryz.uStr rfl (jaa (by exact Q0.o) m)) ?_;refine vS ?_;iterate 3 refine vK ?_
       refine qKE (fun w3 he=>?_);have Q:=Hd (((HE.o.alloc _).trans (jai _)).trans he);clear he;go_wp2_with fail
       go_ret
       exact⟨by rw[X.o];rfl,Q.o⟩
      | true =>
       have a0:=Hd (H (by unfold badN jch;rw[K,hk1,hv1,a9];simp only;rw[hls];simp));clear hk1 hv1 K Z a2 a3 A H hcell hp hk0 a8 b0 a9;go_wp2_with fail
       refine jah (List.range 25) Ext ExtR ExtT vY vY vY ?_;simp only[List.range,List.range.loop]
       refine vK ?_
       refine qKL ⟨wr.heap.size,0,none⟩ _ rfl (fun O m=>jab Tryz.uStr rfl (jaa (by exact Q0.o) m)) ?_;refine vS ?_;refine qKC _ 55 #[.string x] (.bool true) rfl (fun w1=>jat (vX 55) vY) (fun w1 J=>(jg9 w1 x (by have:=a5.o;omega)).mono (fun e O ⟨J,m⟩=>⟨by rw[J,HK.o],m ▸ ExtR w1⟩)) ?_;refine vS ?_;iterate 3 refine vK ?_
       refine qKL ⟨wr.heap.size,1,none⟩ _ rfl (fun O m=>jab Tryz.uStr rfl (jaa (by exact Q1.o) m)) ?_;refine vS ?_;refine qKC _ 56 #[.string y] (.bool true) rfl (fun w1=>jat (vX 56) vY) (fun w1 J=>(jgH w1 y (by have:=a7.o;omega)).mono (fun e O ⟨J,m⟩=>⟨by rw[J,a4.o],m ▸ ExtR w1⟩)) ?_;refine vS ?_;iterate 11 refine vK ?_
       refine qKL ⟨b,o+(k - 1) * 2,none⟩ _ rfl (fun O m=>jab Tryz.uStr rfl (jaa (by exact QP.o) m)) ?_;refine vS ?_
       refine vK ?_
       refine qKL ⟨wr.heap.size,0,none⟩ _ rfl (fun O m=>jab Tryz.uStr rfl (jaa (by exact Q0.o) m)) ?_;refine vS ?_;iterate 3 refine vK ?_
       refine qKE (fun w3 he=>?_);have Q:=Hd (((HE.o.alloc _).trans (jai _)).trans he);clear he;go_wp2_with fail
       go_roundw
       case rel=>exact⟨k+1,by omega,by go_num,Q.o,a0.o⟩
       case measure=>exact vJ
  ·have b3:k=l.length:=vO
   subst b3
   by_cases h40:40 < l.length
   ·have c4:(40:Int) < (l.length:Int):=vO
    have e:jaD l=12:=by unfold jaD;rw[if_neg (by rw[a1.o];simp),if_pos h40]
    have E:=Hd e;clear e;go_wp2_with fail
    go_ret
    exact⟨by rw[E.o];rfl,HE.o⟩
   ·have c4:¬(40:Int) < (l.length:Int):=vO
    have e:jaD l=0:=by unfold jaD;rw[if_neg (by rw[a1.o];simp),if_neg h40]
    have E:=Hd e;clear e;go_wp2_with fail
    go_ret
    exact⟨by rw[E.o];rfl,HE.o⟩
end Go.Proofs.YtegloohdmjadoaaGreatDoor
